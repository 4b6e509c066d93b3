

/-
  ends.
-/
import Derived.Test.YtnigebnibikolaaLnEndsP
import Derived.Test.YtnigebnibikolaaLnCost
namespace Go.Proofs.Ytnigebnibikolaa.LN
open Go.RowKit Go.Law Go.Law.Ln
set_option linter.unusedVariables false
set_option linter.unusedSimpArgs false
set_option maxRecDepth 100000
def RowPost (w : World) (l : List Line) (e : Ending) (w' : World) : Prop := ∃ v, e = .returned v ∧ RowL w' w.heap.size 74 6 v l.length (linesC l) ∧ Below w.heap.size w w'
theorem cellNew {w : World} {cs : List Value} {e : TypeId} {j : Nat} {u : Value} (h : cs[j]? = some u) : (w.alloc (Obj.cells cs.toArray e)).cell? ⟨w.heap.size, j, none⟩ = some u := by
  rw [World.cell?_alloc_new]; simpa using h
/-- the row behind an append -/
theorem RowL.fit {w : World} {base e a z : Nat} {v : Value} {xs : List Line} {N S R Wd : Int} (h : w.ownsRow base e 6 v (xs.length + 1) (linesC xs ++ [.int .i64 (a : Int), .int .i64 (z : Int), .int .i64 N, .int .i64 S, .int .i64 R, .int .i64 Wd])) :
    RowL w base e 6 v (xs ++ [(⟨a, z, N, S, R, Wd⟩ : Line)]).length (linesC (xs ++ [(⟨a, z, N, S, R, Wd⟩ : Line)])) := by
  rw [linesC_append, List.length_append]
  exact h
/-- a line, cell by cell -/
def SQ (q a z : Nat) (N S R Wd : Int) (w : World) : Prop :=
  w.cell? ⟨q, 0, none⟩ = some (.int .i64 a) ∧ w.cell? ⟨q, 1, none⟩ = some (.int .i64 z) ∧ w.cell? ⟨q, 2, none⟩ = some (.int .i64 N) ∧ w.cell? ⟨q, 3, none⟩ = some (.int .i64 S) ∧ w.cell? ⟨q, 4, none⟩ = some (.int .i64 R) ∧ w.cell? ⟨q, 5, none⟩ = some (.int .i64 Wd)
theorem SQ.of {q a z : Nat} {N S R Wd : Int} {w : World} {T : TypeId} (h : Blk w q #[.int .i64 a, .int .i64 z, .int .i64 N, .int .i64 S, .int .i64 R, .int .i64 Wd] T) : SQ q a z N S R Wd w :=
  ⟨h.cell (i := 0) rfl, h.cell (i := 1) rfl, h.cell (i := 2) rfl, h.cell (i := 3) rfl, h.cell (i := 4) rfl, h.cell (i := 5) rfl⟩
set_option maxHeartbeats 4000000 in
theorem ends_any (m n : Nat) (L : Nat → Part) (nw : Nat) (W : Nat → Int) (D : Int) (a num : Nat) (w : World) (hm : Mk w m n L nw W D) (hn : n ≤ 8000) (ha : a ≤ n) (hok : ∀ i, i < n → (L i).Ok) (hnw : 1 ≤ nw ∧ nw ≤ 1000) (hnum : num ≤ 100000) :
    Calls Try.prog 63 #[.pointer (some ⟨m, 0, none⟩), .int .i64 a, .int .i64 num] w (RowPost w (endF n L nw W a num)) := by
  have HM := Lib.hid hm
  obtain ⟨aP, cP, _, _, _, _, _, _, ⟨m00, _⟩, _⟩ := hm
  have HM00 := Lib.hid m00
  obtain ⟨R, hR⟩ : ∃ R, R = endF n L nw W a num := ⟨_, rfl⟩
  rw [← hR]
  have HR := Lib.hid hR
  have hI := info_parts (show (Try.prog.info? 74).map (fun i => (i.zero, i.size, i.bytes)) = some (some (.agg #[.int .i64 0, .int .i64 0, .int .i64 0, .int .i64 0, .int .i64 0, .int .i64 0]), 6, 48) by kernel_rfl)
  have HI := Lib.hid hI
  clear m00 hR hI
  go_enter Try.func63, Try.ntmps63
  go_wp2_with fail
  go_loopw [7, 8] (fun v iz wr => ∃ (z : Nat) (xs : List Line), iz = .int .i64 z ∧ a ≤ z ∧ z ≤ n + 1 ∧ R = xs ++ endG n L nw W a num (n + 1 - z) z xs.isEmpty ∧ xs.length ≤ z ∧ RowL wr w.heap.size 74 6 v xs.length (linesC xs) ∧ Below w.heap.size w wr) (fun _ iz _ => n + 1 - (intOf iz).toNat)
  case atStart => exact ⟨a, [], rfl, Nat.le_refl _, by omega, HR.out, by simp, RowL.nil _ _ _ _, Below.refl _ _⟩
  case round =>
    obtain ⟨z, xs, rfl, haz, hz1, hE, hxl, hrow, hbel⟩ := hrel
    obtain ⟨av, cv, hv, _, _⟩ := RowL.slice hrow
    subst hv
    have HROW := Lib.hid hrow
    have HE := Lib.hid hE
    have hsz := hbel.size
    have m0 : wr.cell? ⟨m, 0, none⟩ = some (.slice aP n cP) := cell_below HM00.out (Nat.le_refl _) hbel
    have zm : m < wr.heap.size := lt_of_cell m0
    clear hrow hE HR
    by_cases hzn' : z ≤ n
    · have hzn := hzn'
      clear hzn'
      have hzi : (z : Int) ≤ (n : Int) := by omega
      obtain ⟨f, hf⟩ : ∃ f, n + 1 - z = f + 1 := ⟨n - z, by omega⟩
      rw [hf] at HE
      have hf2 : n + 1 - (z + 1) = f := by omega
      have HF2 := Lib.hid hf2
      clear hf hf2
      cases ho : okB n L a z
      · have HE2 := Lib.hid (HE.out.trans (by rw [endG_no ho]))
        have hmu : mustB n L z = false := by
          cases hm : mustB n L z
          · rfl
          · rw [okB_must hm] at ho; cases ho
        have HMU := Lib.hid hmu
        cases hma : mayB n L z
        · have HB1 := Lib.hid hma
          clear HE ho hmu hma
          go_wp2_with fail
          refine (may_any m n L nw W D z wr (HM.out.below (Nat.le_refl _) hbel) hn hzn hok).mono ?_
          rintro e w1 ⟨rfl, hb1⟩
          rw [HB1.out]
          have hbel1 := hbel.trans (hb1.mono hsz)
          have R1 := Lib.hid (RowL.below HROW.out hb1 (Nat.le_refl _))
          have HM1 := Lib.hid (HM.out.below (Nat.le_refl _) hbel1)
          clear m0 zm
          have m0 : w1.cell? ⟨m, 0, none⟩ = some (.slice aP n cP) := cell_below HM00.out (Nat.le_refl _) hbel1
          have zm : m < w1.heap.size := lt_of_cell m0
          clear hb1 hbel hsz HROW HB1
          go_wp2_with fail
          refine (must_any m n L nw W D z w1 HM1.out hn hzn).mono ?_
          rintro e w2 ⟨rfl, rfl⟩
          rw [HMU.out]
          go_wp2_with fail
          go_roundw
          case rel => exact ⟨z + 1, xs, by go_num, by omega, by omega, by rw [HF2.out]; exact HE2.out, by omega, R1.out, hbel1⟩
          case measure => simp [intOf]; omega
        · have HB1 := Lib.hid hma
          have hlt : ¬ (a : Int) < (z : Int) := by
            intro h
            unfold okB at ho
            rw [hma] at ho
            simp at ho
            omega
          clear HE ho hmu hma
          go_wp2_with fail
          refine (may_any m n L nw W D z wr (HM.out.below (Nat.le_refl _) hbel) hn hzn hok).mono ?_
          rintro e w1 ⟨rfl, hb1⟩
          rw [HB1.out]
          have hbel1 := hbel.trans (hb1.mono hsz)
          have R1 := Lib.hid (RowL.below HROW.out hb1 (Nat.le_refl _))
          have HM1 := Lib.hid (HM.out.below (Nat.le_refl _) hbel1)
          clear m0 zm
          have m0 : w1.cell? ⟨m, 0, none⟩ = some (.slice aP n cP) := cell_below HM00.out (Nat.le_refl _) hbel1
          have zm : m < w1.heap.size := lt_of_cell m0
          clear hb1 hbel hsz HROW HB1
          go_wp2_with fail
          refine (must_any m n L nw W D z w1 HM1.out hn hzn).mono ?_
          rintro e w2 ⟨rfl, rfl⟩
          rw [HMU.out]
          go_wp2_with fail
          refine (must_any m n L nw W D z w1 HM1.out hn hzn).mono ?_
          rintro e w2 ⟨rfl, rfl⟩
          rw [HMU.out]
          go_wp2_with fail
          go_roundw
          case rel => exact ⟨z + 1, xs, by go_num, by omega, by omega, by rw [HF2.out]; exact HE2.out, by omega, R1.out, hbel1⟩
          case measure => simp [intOf]; omega
      · have hma : mayB n L z = true := by
          unfold okB at ho
          rw [Bool.and_eq_true] at ho
          exact ho.1
        have HB1 := Lib.hid hma
        have HADD := Lib.hid (fun (h : (!fullB (lineF n L nw W a z num) || xs.isEmpty) = true) => HE.out.trans (by rw [endG_add ho h]))
        have HSKIP := Lib.hid (fun (h : (!fullB (lineF n L nw W a z num) || xs.isEmpty) = false) => HE.out.trans (by rw [endG_skip ho h]))
        have HBARE := Lib.hid (fun (h : bareB (lineF n L nw W a z num) (addF n L z) = true) => show endG n L nw W a num f (z + 1) false = [] from endG_full f (z + 1) (by have := HF2.out; omega) (fun y h1 h2 => bare_full hok haz hzn h y (by omega) h2))
        have hbd := line_bd (nw := nw) (W := W) (num := num) hn hok haz hzn
        have had := addF_bd (n := n) hok z
        obtain ⟨Nt, hNt⟩ : ∃ v, v = (lineF n L nw W a z num).nat := ⟨_, rfl⟩
        obtain ⟨St, hSt⟩ : ∃ v, v = (lineF n L nw W a z num).str := ⟨_, rfl⟩
        obtain ⟨Rs, hRs⟩ : ∃ v, v = (lineF n L nw W a z num).shr := ⟨_, rfl⟩
        obtain ⟨Wd, hWd⟩ : ∃ v, v = (lineF n L nw W a z num).wid := ⟨_, rfl⟩
        have hx : lineF n L nw W a z num = ⟨a, z, Nt, St, Rs, Wd⟩ := by rw [hNt, hSt, hRs, hWd]; rfl
        rw [← hNt, ← hSt, ← hRs] at hbd
        obtain ⟨bd1, bd2, bd3⟩ := hbd
        rw [hx] at HADD HSKIP HBARE
        obtain ⟨ad, hadd⟩ : ∃ v, v = addF n L z := ⟨_, rfl⟩
        rw [← hadd] at had HBARE
        obtain ⟨fl, hfl⟩ : ∃ b, b = fullB ⟨a, z, Nt, St, Rs, Wd⟩ := ⟨_, rfl⟩
        obtain ⟨br, hbr⟩ : ∃ b, b = bareB ⟨a, z, Nt, St, Rs, Wd⟩ ad := ⟨_, rfl⟩
        have HFB := Lib.hid (show br = true → fl = true from fun h => by
          rw [hbr] at h
          have h' := of_decide_eq_true h
          rw [hfl]
          refine decide_eq_true ?_
          simp only at h' ⊢
          omega)
        rw [← hfl] at HADD HSKIP
        rw [← hbr] at HBARE
        have HX := Lib.hid hx
        have HAD := Lib.hid hadd
        have HFL := Lib.hid hfl
        have HBR := Lib.hid hbr
        clear hx hNt hSt hRs hWd hadd hfl hbr HE
        by_cases hlt0 : a < z
        · have hlt : (a : Int) < (z : Int) := by omega
          clear ho hma hlt0
          go_wp2_with fail
          refine (may_any m n L nw W D z wr (HM.out.below (Nat.le_refl _) hbel) hn hzn hok).mono ?_
          rintro e w1 ⟨rfl, hb1⟩
          rw [HB1.out]
          have hbel1 := hbel.trans (hb1.mono hsz)
          have R1 := Lib.hid (RowL.below HROW.out hb1 (Nat.le_refl _))
          have HM1 := Lib.hid (HM.out.below (Nat.le_refl _) hbel1)
          clear m0 zm
          have m0 : w1.cell? ⟨m, 0, none⟩ = some (.slice aP n cP) := cell_below HM00.out (Nat.le_refl _) hbel1
          have zm : m < w1.heap.size := lt_of_cell m0
          clear hb1 hbel hsz HROW HB1
          go_wp2_with fail
          refine (line_any m n L nw W D a z num w1 HM1.out hn haz hzn hok hnw hnum).mono ?_
          rintro e w2 ⟨rfl, hb2⟩
          rw [HX.out]
          rw [show lineV ⟨a, z, Nt, St, Rs, Wd⟩ = .agg #[.int .i64 a, .int .i64 z, .int .i64 Nt, .int .i64 St, .int .i64 Rs, .int .i64 Wd] from rfl]
          have hbel2 := hbel1.trans (hb2.mono hbel1.size)
          have hsz2 := hbel2.size
          have R2 := Lib.hid (RowL.below R1.out hb2 (Nat.le_refl _))
          clear m0 zm hb2 hbel1 R1 HM1
          go_wp2_with fail
          obtain ⟨w3, hw3⟩ : ∃ w3, w3 = w2.alloc (Obj.cells #[.int .i64 a, .int .i64 z, .int .i64 Nt, .int .i64 St, .int .i64 Rs, .int .i64 Wd] 74) := ⟨_, rfl⟩
          rw [← hw3]
          have q3 : Blk w3 w2.heap.size #[.int .i64 a, .int .i64 z, .int .i64 Nt, .int .i64 St, .int .i64 Rs, .int .i64 Wd] 74 := by rw [hw3]; exact Blk.new _ _ _
          have r3 := RowL.alloc R2.out (Obj.cells #[.int .i64 a, .int .i64 z, .int .i64 Nt, .int .i64 St, .int .i64 Rs, .int .i64 Wd] 74)
          rw [← hw3] at r3
          have hbel3 : Below w.heap.size w w3 := by rw [hw3]; exact hbel2.alloc hsz2 _
          have HRQ := Lib.hid (RowL.blk_lt R2.out)
          obtain ⟨q, hq⟩ : ∃ q, q = w2.heap.size := ⟨_, rfl⟩
          rw [← hq] at q3 HRQ ⊢
          have hwq : w.heap.size ≤ q := by rw [hq]; exact hsz2
          clear hw3 hq hsz2 hbel2 R2
          have hSQ : SQ q a z Nt St Rs Wd w3.drew := SQ.of q3.drew
          refine wp_region_held_drew (S := SQ q a z Nt St Rs Wd) (by kernel_rfl) hSQ ?_
          intro hHeld
          refine takeD (i := 0) (oi := { dst := some 41, op := _, type := _, pos := _, after := _, guard := _ }) (d := some 41) (v := ?vvpa41) rfl rfl (by kernel_rfl) (by kernel_rfl) (by kernel_rfl) ?ddpa41 (by rfl) ?yypa41 hHeld ?rrpa41
          case ddpa41 => exact fun _ _ _ h => h
          case yypa41 => (intro wx hSw; obtain ⟨y0, y1, y2, y3, y4, y5⟩ := hSw; go_simp; try (with_reducible rfl))
          try simp only [Act.put, List.setIfInBounds_toArray, List.set_cons_zero, List.set_cons_succ]
          refine takeD (i := 1) (oi := { dst := some 42, op := _, type := _, pos := _, after := _, guard := _ }) (d := some 42) (v := ?vvpa42) rfl rfl (by kernel_rfl) (by kernel_rfl) (by kernel_rfl) ?ddpa42 (by rfl) ?yypa42 hHeld ?rrpa42
          case ddpa42 => exact fun _ _ _ h => h
          case yypa42 => (intro wx hSw; obtain ⟨y0, y1, y2, y3, y4, y5⟩ := hSw; go_simp; try (with_reducible rfl))
          try simp only [Act.put, List.setIfInBounds_toArray, List.set_cons_zero, List.set_cons_succ]
          refine takeD (i := 2) (oi := { dst := some 43, op := _, type := _, pos := _, after := _, guard := _ }) (d := some 43) (v := ?vvpa43) rfl rfl (by kernel_rfl) (by kernel_rfl) (by kernel_rfl) ?ddpa43 (by rfl) ?yypa43 hHeld ?rrpa43
          case ddpa43 => exact fun _ _ _ h => h
          case yypa43 => (intro wx hSw; obtain ⟨y0, y1, y2, y3, y4, y5⟩ := hSw; go_simp; try (with_reducible rfl))
          try simp only [Act.put, List.setIfInBounds_toArray, List.set_cons_zero, List.set_cons_succ]
          refine wpAnyH_ready (rs := [3]) (by kernel_rfl) (by simp) ?_
          refine AllReadyH.cons (o := { dst := some 44, op := _, type := _, pos := _, after := _, guard := _ }) rfl (fun K hK => ?_) AllReadyH.nil
          go_simp
          refine (added_any m n L nw W D z _ (HM.out.below (Nat.le_refl _) hbel3.drew) hn hzn).mono ?_
          rintro e w4 ⟨rfl, rfl⟩
          rw [← HAD.out]
          refine hK.out _ _ hSQ (fun hHeld2 => ?_)
          clear hK K
          try simp only [Act.put, List.setIfInBounds_toArray, List.set_cons_zero, List.set_cons_succ]
          refine wpAnyH_ready (rs := [4]) (by kernel_rfl) (by simp) ?_
          refine AllReadyH.cons (o := { dst := some 45, op := _, type := _, pos := _, after := _, guard := _ }) rfl (fun K hK => ?_) AllReadyH.nil
          go_simp
          refine (full_any ⟨a, z, Nt, St, Rs, Wd⟩ ad _ bd1 bd3 ⟨had.1, by omega⟩).mono ?_
          rintro e w4 ⟨rfl, hb4⟩
          rw [← HFL.out, ← HBR.out]
          have hb4' := (Below.refl w3.heap.size w3).drew.trans hb4
          have q4 := q3.below hb4' q3.lt
          have r4 := RowL.below r3 hb4' (Nat.le_refl _)
          have hbel4 := hbel3.trans (hb4'.mono hbel3.size)
          refine hK.out _ _ (SQ.of q4) (fun hHeld3 => ?_)
          clear hK K
          try simp only [Act.put, List.setIfInBounds_toArray, List.set_cons_zero, List.set_cons_succ]
          refine takeD (i := 5) (oi := { dst := some 40, op := _, type := _, pos := _, after := _, guard := _ }) (d := some 40) (v := ?vvpb40) rfl rfl (by kernel_rfl) (by kernel_rfl) (by kernel_rfl) ?ddpb40 (by rfl) ?yypb40 hHeld3 ?rrpb40
          case ddpb40 => exact fun _ _ _ h => h
          case yypb40 => (intro wx hSw; obtain ⟨y0, y1, y2, y3, y4, y5⟩ := hSw; go_simp; try (with_reducible rfl))
          try simp only [Act.put, List.setIfInBounds_toArray, List.set_cons_zero, List.set_cons_succ]
          refine takeD (i := 6) (oi := { dst := some 46, op := _, type := _, pos := _, after := _, guard := _ }) (d := some 46) (v := ?vvpb46) rfl rfl (by kernel_rfl) (by kernel_rfl) (by kernel_rfl) ?ddpb46 (by rfl) ?yypb46 hHeld3 ?rrpb46
          case ddpb46 => exact fun _ _ _ h => h
          case yypb46 => (intro wx hSw; obtain ⟨y0, y1, y2, y3, y4, y5⟩ := hSw; go_simp; try (with_reducible rfl))
          try simp only [Act.put, List.setIfInBounds_toArray, List.set_cons_zero, List.set_cons_succ]
          refine takeD (i := 7) (oi := { dst := some 47, op := _, type := _, pos := _, after := _, guard := _ }) (d := some 47) (v := ?vvpb47) rfl rfl (by kernel_rfl) (by kernel_rfl) (by kernel_rfl) ?ddpb47 (by rfl) ?yypb47 hHeld3 ?rrpb47
          case ddpb47 => exact fun _ _ _ h => h
          case yypb47 => (intro wx hSw; obtain ⟨y0, y1, y2, y3, y4, y5⟩ := hSw; go_simp; try (with_reducible rfl))
          try simp only [Act.put, List.setIfInBounds_toArray, List.set_cons_zero, List.set_cons_succ]
          refine takeD (i := 8) (oi := { dst := some 10, op := _, type := _, pos := _, after := _, guard := _ }) (d := some 10) (v := ?vvpb10) rfl rfl (by kernel_rfl) (by kernel_rfl) (by kernel_rfl) ?ddpb10 (by rfl) ?yypb10 hHeld3 ?rrpb10
          case ddpb10 => exact fun _ _ _ h => h
          case yypb10 => (intro wx hSw; obtain ⟨y0, y1, y2, y3, y4, y5⟩ := hSw; go_simp; try (with_reducible rfl))
          try simp only [Act.put, List.setIfInBounds_toArray, List.set_cons_zero, List.set_cons_succ]
          refine takeD (i := 9) (oi := { dst := some 11, op := _, type := _, pos := _, after := _, guard := _ }) (d := some 11) (v := ?vvpb11) rfl rfl (by kernel_rfl) (by kernel_rfl) (by kernel_rfl) ?ddpb11 (by rfl) ?yypb11 hHeld3 ?rrpb11
          case ddpb11 => exact fun _ _ _ h => h
          case yypb11 => (intro wx hSw; obtain ⟨y0, y1, y2, y3, y4, y5⟩ := hSw; go_simp; try (with_reducible rfl))
          try simp only [Act.put, List.setIfInBounds_toArray, List.set_cons_zero, List.set_cons_succ]
          refine wpAnyH_done (by kernel_rfl) ?_ _
          clear hHeld hHeld2 hHeld3 hSQ hb4 hb4' q3 r3 hbel3 HAD HFL HBR
          have Q4 := Lib.hid q4
          have R4 := Lib.hid r4
          have x0 : w4.cell? ⟨q, 0, none⟩ = some (.int .i64 a) := q4.cell (i := 0) rfl
          have x1 : w4.cell? ⟨q, 1, none⟩ = some (.int .i64 z) := q4.cell (i := 1) rfl
          have x2 : w4.cell? ⟨q, 2, none⟩ = some (.int .i64 Nt) := q4.cell (i := 2) rfl
          have x3 : w4.cell? ⟨q, 3, none⟩ = some (.int .i64 St) := q4.cell (i := 3) rfl
          have x4 : w4.cell? ⟨q, 4, none⟩ = some (.int .i64 Rs) := q4.cell (i := 4) rfl
          have x5 : w4.cell? ⟨q, 5, none⟩ = some (.int .i64 Wd) := q4.cell (i := 5) rfl
          have zq := q4.lt
          have HM4 := Lib.hid (HM.out.below (Nat.le_refl _) hbel4)
          have hsz4 := hbel4.size
          clear q4 r4
          cases fl
          · cases br
            · have HE3 := Lib.hid (HADD.out rfl)
              clear HADD HSKIP HBARE HFB
              obtain ⟨ii, hii, hz0, hz1, hz2⟩ := HI.out
              go_wp2_with (at_builtin; go_loud (refine wpList_append_own _ rfl _ _ 61 rfl w.heap.size 74 ii _ 6 48 Try.underlying61 hii hz0 hz1 hz2 rfl (by decide) _ _ _ rfl (RowL.alloc R4.out _) ⟨w4.heap.size, 0, none⟩ 1 1 [.int .i64 (a : Int), .int .i64 (z : Int), .int .i64 Nt, .int .i64 St, .int .i64 Rs, .int .i64 Wd] rfl rfl ?k1pc ?k2pc ?k3pc ?k4pc ?k5pc ?_))
              case k1pc =>
                intro j u hj
                have e : Addr.add ⟨w4.heap.size, 0, none⟩ j = ⟨w4.heap.size, j, none⟩ := by simp [Addr.add]; omega
                rw [e]
                exact cellNew (by simpa using hj)
              case k2pc => intro u hu; simp at hu; rcases hu with rfl | rfl | rfl | rfl | rfl | rfl <;> rfl
              case k3pc => unfold maxLen; (try simp); (try omega)
              case k4pc => (try simp); (try omega)
              case k5pc => (try simp); (try omega)
              intro v5 w5 hown hgrow _
              have hbel5 : Below w.heap.size w w5 := Below.grown (B := w.heap.size) (a := w) (hbel4.alloc hsz4 _) hgrow (by simp; omega) (fun k hk => RowL.ge R4.out k hk)
              have RA5 := Lib.hid (RowL.fit hown)
              have HM5 := Lib.hid (HM.out.below (Nat.le_refl _) hbel5)
              clear hown hgrow x0 x1 x2 x3 x4 x5 zq Q4 R4 HM4 hbel4 hsz4 HRQ hii hz0 hz1 hz2
              go_wp2_with fail
              cases hmu : mustB n L z
              · have HMU := Lib.hid hmu
                have HE4 := Lib.hid (HE3.out.trans (by rw [HMU.out, if_neg (by simp)]))
                clear hmu HE3
                refine (must_any m n L nw W D z w5 (HM5).out hn hzn).mono ?_
                rintro e w6 ⟨rfl, rfl⟩
                rw [HMU.out]
                go_wp2_with fail
                go_roundw
                case rel =>
                  refine ⟨z + 1, xs ++ [⟨a, z, Nt, St, Rs, Wd⟩], by go_num, by omega, by omega, ?_, by (first | omega | (simp; done) | (simp; omega)), (RA5).out, hbel5⟩
                  rw [HF2.out, HE4.out]
                  first | (rw [HNE.out]) | (simp; done) | (rw [show (xs ++ [(⟨a, z, Nt, St, Rs, Wd⟩ : Line)]).isEmpty = false by simp]; simp)
                case measure => simp [intOf]; omega
              · have HMU := Lib.hid hmu
                have HE4 := Lib.hid (HE3.out.trans (by rw [HMU.out, if_pos rfl]))
                clear hmu HE3
                refine (must_any m n L nw W D z w5 (HM5).out hn hzn).mono ?_
                rintro e w6 ⟨rfl, rfl⟩
                rw [HMU.out]
                go_wp2_with fail
                go_ret
                refine ⟨_, rfl, ?_, hbel5⟩
                rw [HE4.out]
                first | exact (RA5).out | (rw [List.append_nil]; exact (RA5).out)
            · exact absurd (HFB.out rfl) (by simp)
          · cases xs with
            | nil =>
              have HE3 := Lib.hid (HADD.out rfl)
              cases br
              · clear HADD HSKIP HBARE HFB
                obtain ⟨ii, hii, hz0, hz1, hz2⟩ := HI.out
                go_wp2_with (at_builtin; go_loud (refine wpList_append_own _ rfl _ _ 61 rfl w.heap.size 74 ii _ 6 48 Try.underlying61 hii hz0 hz1 hz2 rfl (by decide) _ _ _ rfl (RowL.alloc R4.out _) ⟨w4.heap.size, 0, none⟩ 1 1 [.int .i64 (a : Int), .int .i64 (z : Int), .int .i64 Nt, .int .i64 St, .int .i64 Rs, .int .i64 Wd] rfl rfl ?k1pd ?k2pd ?k3pd ?k4pd ?k5pd ?_))
                case k1pd =>
                  intro j u hj
                  have e : Addr.add ⟨w4.heap.size, 0, none⟩ j = ⟨w4.heap.size, j, none⟩ := by simp [Addr.add]; omega
                  rw [e]
                  exact cellNew (by simpa using hj)
                case k2pd => intro u hu; simp at hu; rcases hu with rfl | rfl | rfl | rfl | rfl | rfl <;> rfl
                case k3pd => unfold maxLen; (try simp); (try omega)
                case k4pd => (try simp); (try omega)
                case k5pd => (try simp); (try omega)
                intro v5 w5 hown hgrow _
                have hbel5 : Below w.heap.size w w5 := Below.grown (B := w.heap.size) (a := w) (hbel4.alloc hsz4 _) hgrow (by simp; omega) (fun k hk => RowL.ge R4.out k hk)
                have RA5 := Lib.hid (RowL.fit hown)
                have HM5 := Lib.hid (HM.out.below (Nat.le_refl _) hbel5)
                clear hown hgrow x0 x1 x2 x3 x4 x5 zq Q4 R4 HM4 hbel4 hsz4 HRQ hii hz0 hz1 hz2
                go_wp2_with fail
                cases hmu : mustB n L z
                · have HMU := Lib.hid hmu
                  have HE4 := Lib.hid (HE3.out.trans (by rw [HMU.out, if_neg (by simp)]))
                  clear hmu HE3
                  refine (must_any m n L nw W D z w5 (HM5).out hn hzn).mono ?_
                  rintro e w6 ⟨rfl, rfl⟩
                  rw [HMU.out]
                  go_wp2_with fail
                  go_roundw
                  case rel =>
                    refine ⟨z + 1, [] ++ [⟨a, z, Nt, St, Rs, Wd⟩], by go_num, by omega, by omega, ?_, by (first | omega | (simp; done) | (simp; omega)), (RA5).out, hbel5⟩
                    rw [HF2.out, HE4.out]
                    first | (rw [HNE.out]) | (simp; done) | (rw [show (xs ++ [(⟨a, z, Nt, St, Rs, Wd⟩ : Line)]).isEmpty = false by simp]; simp)
                  case measure => simp [intOf]; omega
                · have HMU := Lib.hid hmu
                  have HE4 := Lib.hid (HE3.out.trans (by rw [HMU.out, if_pos rfl]))
                  clear hmu HE3
                  refine (must_any m n L nw W D z w5 (HM5).out hn hzn).mono ?_
                  rintro e w6 ⟨rfl, rfl⟩
                  rw [HMU.out]
                  go_wp2_with fail
                  go_ret
                  refine ⟨_, rfl, ?_, hbel5⟩
                  rw [HE4.out]
                  first | exact (RA5).out | (rw [List.append_nil]; exact (RA5).out)
              · have HB0 := Lib.hid (HBARE.out rfl)
                clear HADD HSKIP HBARE HFB
                obtain ⟨ii, hii, hz0, hz1, hz2⟩ := HI.out
                go_wp2_with (at_builtin; go_loud (refine wpList_append_own _ rfl _ _ 61 rfl w.heap.size 74 ii _ 6 48 Try.underlying61 hii hz0 hz1 hz2 rfl (by decide) _ _ _ rfl (RowL.alloc R4.out _) ⟨w4.heap.size, 0, none⟩ 1 1 [.int .i64 (a : Int), .int .i64 (z : Int), .int .i64 Nt, .int .i64 St, .int .i64 Rs, .int .i64 Wd] rfl rfl ?k1pe ?k2pe ?k3pe ?k4pe ?k5pe ?_))
                case k1pe =>
                  intro j u hj
                  have e : Addr.add ⟨w4.heap.size, 0, none⟩ j = ⟨w4.heap.size, j, none⟩ := by simp [Addr.add]; omega
                  rw [e]
                  exact cellNew (by simpa using hj)
                case k2pe => intro u hu; simp at hu; rcases hu with rfl | rfl | rfl | rfl | rfl | rfl <;> rfl
                case k3pe => unfold maxLen; (try simp); (try omega)
                case k4pe => (try simp); (try omega)
                case k5pe => (try simp); (try omega)
                intro v5 w5 hown hgrow _
                have hbel5 : Below w.heap.size w w5 := Below.grown (B := w.heap.size) (a := w) (hbel4.alloc hsz4 _) hgrow (by simp; omega) (fun k hk => RowL.ge R4.out k hk)
                have RA5 := Lib.hid (RowL.fit hown)
                have HM5 := Lib.hid (HM.out.below (Nat.le_refl _) hbel5)
                clear hown hgrow x0 x1 x2 x3 x4 x5 zq Q4 R4 HM4 hbel4 hsz4 HRQ hii hz0 hz1 hz2
                go_wp2_with fail
                go_wp2_with fail
                go_ret
                refine ⟨_, rfl, ?_, hbel5⟩
                rw [HE3.out, HB0.out, ite_self]
                exact RA5.out
            | cons x0 xs0 =>
              have HE3 := Lib.hid (HSKIP.out rfl)
              obtain ⟨ys, hys⟩ : ∃ ys, ys = x0 :: xs0 := ⟨_, rfl⟩
              have HNE := Lib.hid (show ys.isEmpty = false by rw [hys]; rfl)
              have hyl : ¬ (ys.length = 0) := by rw [hys]; simp
              rw [← hys] at HE3 R4 HRQ hxl ⊢
              clear hys
              cases br
              · clear HADD HSKIP HBARE HFB
                go_wp2_with fail
                cases hmu : mustB n L z
                · have HMU := Lib.hid hmu
                  have HE4 := Lib.hid (HE3.out.trans (by rw [HMU.out, if_neg (by simp)]))
                  clear hmu HE3
                  refine (must_any m n L nw W D z w4 (HM4).out hn hzn).mono ?_
                  rintro e w6 ⟨rfl, rfl⟩
                  rw [HMU.out]
                  go_wp2_with fail
                  go_roundw
                  case rel =>
                    refine ⟨z + 1, ys, by go_num, by omega, by omega, ?_, by (first | omega | (simp; done) | (simp; omega)), (R4).out, hbel4⟩
                    rw [HF2.out, HE4.out]
                    first | (rw [HNE.out]) | (simp; done) | (rw [show (xs ++ [(⟨a, z, Nt, St, Rs, Wd⟩ : Line)]).isEmpty = false by simp]; simp)
                  case measure => simp [intOf]; omega
                · have HMU := Lib.hid hmu
                  have HE4 := Lib.hid (HE3.out.trans (by rw [HMU.out, if_pos rfl]))
                  clear hmu HE3
                  refine (must_any m n L nw W D z w4 (HM4).out hn hzn).mono ?_
                  rintro e w6 ⟨rfl, rfl⟩
                  rw [HMU.out]
                  go_wp2_with fail
                  go_ret
                  refine ⟨_, rfl, ?_, hbel4⟩
                  rw [HE4.out]
                  first | exact (R4).out | (rw [List.append_nil]; exact (R4).out)
              · have HB0 := Lib.hid (HBARE.out rfl)
                clear HADD HSKIP HBARE HFB
                go_wp2_with fail
                go_ret
                refine ⟨_, rfl, ?_, hbel4⟩
                rw [HE3.out, HB0.out, ite_self, List.append_nil]
                exact R4.out
        · have hlt : ¬ (a : Int) < (z : Int) := by omega
          have hmu : mustB n L z = true := by
            unfold okB at ho
            rw [hma] at ho
            simpa [hlt0] using ho
          have HMU := Lib.hid hmu
          clear ho hma hlt0 hmu
          go_wp2_with fail
          refine (may_any m n L nw W D z wr (HM.out.below (Nat.le_refl _) hbel) hn hzn hok).mono ?_
          rintro e w1 ⟨rfl, hb1⟩
          rw [HB1.out]
          have hbel1 := hbel.trans (hb1.mono hsz)
          have R1 := Lib.hid (RowL.below HROW.out hb1 (Nat.le_refl _))
          have HM1 := Lib.hid (HM.out.below (Nat.le_refl _) hbel1)
          clear m0 zm
          have m0 : w1.cell? ⟨m, 0, none⟩ = some (.slice aP n cP) := cell_below HM00.out (Nat.le_refl _) hbel1
          have zm : m < w1.heap.size := lt_of_cell m0
          clear hb1 hbel hsz HROW HB1
          go_wp2_with fail
          refine (must_any m n L nw W D z w1 HM1.out hn hzn).mono ?_
          rintro e w2 ⟨rfl, rfl⟩
          rw [HMU.out]
          go_wp2_with fail
          refine (line_any m n L nw W D a z num w1 HM1.out hn haz hzn hok hnw hnum).mono ?_
          rintro e w2 ⟨rfl, hb2⟩
          rw [HX.out]
          rw [show lineV ⟨a, z, Nt, St, Rs, Wd⟩ = .agg #[.int .i64 a, .int .i64 z, .int .i64 Nt, .int .i64 St, .int .i64 Rs, .int .i64 Wd] from rfl]
          have hbel2 := hbel1.trans (hb2.mono hbel1.size)
          have hsz2 := hbel2.size
          have R2 := Lib.hid (RowL.below R1.out hb2 (Nat.le_refl _))
          clear m0 zm hb2 hbel1 R1 HM1
          go_wp2_with fail
          obtain ⟨w3, hw3⟩ : ∃ w3, w3 = w2.alloc (Obj.cells #[.int .i64 a, .int .i64 z, .int .i64 Nt, .int .i64 St, .int .i64 Rs, .int .i64 Wd] 74) := ⟨_, rfl⟩
          rw [← hw3]
          have q3 : Blk w3 w2.heap.size #[.int .i64 a, .int .i64 z, .int .i64 Nt, .int .i64 St, .int .i64 Rs, .int .i64 Wd] 74 := by rw [hw3]; exact Blk.new _ _ _
          have r3 := RowL.alloc R2.out (Obj.cells #[.int .i64 a, .int .i64 z, .int .i64 Nt, .int .i64 St, .int .i64 Rs, .int .i64 Wd] 74)
          rw [← hw3] at r3
          have hbel3 : Below w.heap.size w w3 := by rw [hw3]; exact hbel2.alloc hsz2 _
          have HRQ := Lib.hid (RowL.blk_lt R2.out)
          obtain ⟨q, hq⟩ : ∃ q, q = w2.heap.size := ⟨_, rfl⟩
          rw [← hq] at q3 HRQ ⊢
          have hwq : w.heap.size ≤ q := by rw [hq]; exact hsz2
          clear hw3 hq hsz2 hbel2 R2
          have hSQ : SQ q a z Nt St Rs Wd w3.drew := SQ.of q3.drew
          refine wp_region_held_drew (S := SQ q a z Nt St Rs Wd) (by kernel_rfl) hSQ ?_
          intro hHeld
          refine takeD (i := 0) (oi := { dst := some 41, op := _, type := _, pos := _, after := _, guard := _ }) (d := some 41) (v := ?vvqa41) rfl rfl (by kernel_rfl) (by kernel_rfl) (by kernel_rfl) ?ddqa41 (by rfl) ?yyqa41 hHeld ?rrqa41
          case ddqa41 => exact fun _ _ _ h => h
          case yyqa41 => (intro wx hSw; obtain ⟨y0, y1, y2, y3, y4, y5⟩ := hSw; go_simp; try (with_reducible rfl))
          try simp only [Act.put, List.setIfInBounds_toArray, List.set_cons_zero, List.set_cons_succ]
          refine takeD (i := 1) (oi := { dst := some 42, op := _, type := _, pos := _, after := _, guard := _ }) (d := some 42) (v := ?vvqa42) rfl rfl (by kernel_rfl) (by kernel_rfl) (by kernel_rfl) ?ddqa42 (by rfl) ?yyqa42 hHeld ?rrqa42
          case ddqa42 => exact fun _ _ _ h => h
          case yyqa42 => (intro wx hSw; obtain ⟨y0, y1, y2, y3, y4, y5⟩ := hSw; go_simp; try (with_reducible rfl))
          try simp only [Act.put, List.setIfInBounds_toArray, List.set_cons_zero, List.set_cons_succ]
          refine takeD (i := 2) (oi := { dst := some 43, op := _, type := _, pos := _, after := _, guard := _ }) (d := some 43) (v := ?vvqa43) rfl rfl (by kernel_rfl) (by kernel_rfl) (by kernel_rfl) ?ddqa43 (by rfl) ?yyqa43 hHeld ?rrqa43
          case ddqa43 => exact fun _ _ _ h => h
          case yyqa43 => (intro wx hSw; obtain ⟨y0, y1, y2, y3, y4, y5⟩ := hSw; go_simp; try (with_reducible rfl))
          try simp only [Act.put, List.setIfInBounds_toArray, List.set_cons_zero, List.set_cons_succ]
          refine wpAnyH_ready (rs := [3]) (by kernel_rfl) (by simp) ?_
          refine AllReadyH.cons (o := { dst := some 44, op := _, type := _, pos := _, after := _, guard := _ }) rfl (fun K hK => ?_) AllReadyH.nil
          go_simp
          refine (added_any m n L nw W D z _ (HM.out.below (Nat.le_refl _) hbel3.drew) hn hzn).mono ?_
          rintro e w4 ⟨rfl, rfl⟩
          rw [← HAD.out]
          refine hK.out _ _ hSQ (fun hHeld2 => ?_)
          clear hK K
          try simp only [Act.put, List.setIfInBounds_toArray, List.set_cons_zero, List.set_cons_succ]
          refine wpAnyH_ready (rs := [4]) (by kernel_rfl) (by simp) ?_
          refine AllReadyH.cons (o := { dst := some 45, op := _, type := _, pos := _, after := _, guard := _ }) rfl (fun K hK => ?_) AllReadyH.nil
          go_simp
          refine (full_any ⟨a, z, Nt, St, Rs, Wd⟩ ad _ bd1 bd3 ⟨had.1, by omega⟩).mono ?_
          rintro e w4 ⟨rfl, hb4⟩
          rw [← HFL.out, ← HBR.out]
          have hb4' := (Below.refl w3.heap.size w3).drew.trans hb4
          have q4 := q3.below hb4' q3.lt
          have r4 := RowL.below r3 hb4' (Nat.le_refl _)
          have hbel4 := hbel3.trans (hb4'.mono hbel3.size)
          refine hK.out _ _ (SQ.of q4) (fun hHeld3 => ?_)
          clear hK K
          try simp only [Act.put, List.setIfInBounds_toArray, List.set_cons_zero, List.set_cons_succ]
          refine takeD (i := 5) (oi := { dst := some 40, op := _, type := _, pos := _, after := _, guard := _ }) (d := some 40) (v := ?vvqb40) rfl rfl (by kernel_rfl) (by kernel_rfl) (by kernel_rfl) ?ddqb40 (by rfl) ?yyqb40 hHeld3 ?rrqb40
          case ddqb40 => exact fun _ _ _ h => h
          case yyqb40 => (intro wx hSw; obtain ⟨y0, y1, y2, y3, y4, y5⟩ := hSw; go_simp; try (with_reducible rfl))
          try simp only [Act.put, List.setIfInBounds_toArray, List.set_cons_zero, List.set_cons_succ]
          refine takeD (i := 6) (oi := { dst := some 46, op := _, type := _, pos := _, after := _, guard := _ }) (d := some 46) (v := ?vvqb46) rfl rfl (by kernel_rfl) (by kernel_rfl) (by kernel_rfl) ?ddqb46 (by rfl) ?yyqb46 hHeld3 ?rrqb46
          case ddqb46 => exact fun _ _ _ h => h
          case yyqb46 => (intro wx hSw; obtain ⟨y0, y1, y2, y3, y4, y5⟩ := hSw; go_simp; try (with_reducible rfl))
          try simp only [Act.put, List.setIfInBounds_toArray, List.set_cons_zero, List.set_cons_succ]
          refine takeD (i := 7) (oi := { dst := some 47, op := _, type := _, pos := _, after := _, guard := _ }) (d := some 47) (v := ?vvqb47) rfl rfl (by kernel_rfl) (by kernel_rfl) (by kernel_rfl) ?ddqb47 (by rfl) ?yyqb47 hHeld3 ?rrqb47
          case ddqb47 => exact fun _ _ _ h => h
          case yyqb47 => (intro wx hSw; obtain ⟨y0, y1, y2, y3, y4, y5⟩ := hSw; go_simp; try (with_reducible rfl))
          try simp only [Act.put, List.setIfInBounds_toArray, List.set_cons_zero, List.set_cons_succ]
          refine takeD (i := 8) (oi := { dst := some 10, op := _, type := _, pos := _, after := _, guard := _ }) (d := some 10) (v := ?vvqb10) rfl rfl (by kernel_rfl) (by kernel_rfl) (by kernel_rfl) ?ddqb10 (by rfl) ?yyqb10 hHeld3 ?rrqb10
          case ddqb10 => exact fun _ _ _ h => h
          case yyqb10 => (intro wx hSw; obtain ⟨y0, y1, y2, y3, y4, y5⟩ := hSw; go_simp; try (with_reducible rfl))
          try simp only [Act.put, List.setIfInBounds_toArray, List.set_cons_zero, List.set_cons_succ]
          refine takeD (i := 9) (oi := { dst := some 11, op := _, type := _, pos := _, after := _, guard := _ }) (d := some 11) (v := ?vvqb11) rfl rfl (by kernel_rfl) (by kernel_rfl) (by kernel_rfl) ?ddqb11 (by rfl) ?yyqb11 hHeld3 ?rrqb11
          case ddqb11 => exact fun _ _ _ h => h
          case yyqb11 => (intro wx hSw; obtain ⟨y0, y1, y2, y3, y4, y5⟩ := hSw; go_simp; try (with_reducible rfl))
          try simp only [Act.put, List.setIfInBounds_toArray, List.set_cons_zero, List.set_cons_succ]
          refine wpAnyH_done (by kernel_rfl) ?_ _
          clear hHeld hHeld2 hHeld3 hSQ hb4 hb4' q3 r3 hbel3 HAD HFL HBR
          have Q4 := Lib.hid q4
          have R4 := Lib.hid r4
          have x0 : w4.cell? ⟨q, 0, none⟩ = some (.int .i64 a) := q4.cell (i := 0) rfl
          have x1 : w4.cell? ⟨q, 1, none⟩ = some (.int .i64 z) := q4.cell (i := 1) rfl
          have x2 : w4.cell? ⟨q, 2, none⟩ = some (.int .i64 Nt) := q4.cell (i := 2) rfl
          have x3 : w4.cell? ⟨q, 3, none⟩ = some (.int .i64 St) := q4.cell (i := 3) rfl
          have x4 : w4.cell? ⟨q, 4, none⟩ = some (.int .i64 Rs) := q4.cell (i := 4) rfl
          have x5 : w4.cell? ⟨q, 5, none⟩ = some (.int .i64 Wd) := q4.cell (i := 5) rfl
          have zq := q4.lt
          have HM4 := Lib.hid (HM.out.below (Nat.le_refl _) hbel4)
          have hsz4 := hbel4.size
          clear q4 r4
          cases fl
          · cases br
            · have HE3 := Lib.hid (HADD.out rfl)
              clear HADD HSKIP HBARE HFB
              obtain ⟨ii, hii, hz0, hz1, hz2⟩ := HI.out
              go_wp2_with (at_builtin; go_loud (refine wpList_append_own _ rfl _ _ 61 rfl w.heap.size 74 ii _ 6 48 Try.underlying61 hii hz0 hz1 hz2 rfl (by decide) _ _ _ rfl (RowL.alloc R4.out _) ⟨w4.heap.size, 0, none⟩ 1 1 [.int .i64 (a : Int), .int .i64 (z : Int), .int .i64 Nt, .int .i64 St, .int .i64 Rs, .int .i64 Wd] rfl rfl ?k1qc ?k2qc ?k3qc ?k4qc ?k5qc ?_))
              case k1qc =>
                intro j u hj
                have e : Addr.add ⟨w4.heap.size, 0, none⟩ j = ⟨w4.heap.size, j, none⟩ := by simp [Addr.add]; omega
                rw [e]
                exact cellNew (by simpa using hj)
              case k2qc => intro u hu; simp at hu; rcases hu with rfl | rfl | rfl | rfl | rfl | rfl <;> rfl
              case k3qc => unfold maxLen; (try simp); (try omega)
              case k4qc => (try simp); (try omega)
              case k5qc => (try simp); (try omega)
              intro v5 w5 hown hgrow _
              have hbel5 : Below w.heap.size w w5 := Below.grown (B := w.heap.size) (a := w) (hbel4.alloc hsz4 _) hgrow (by simp; omega) (fun k hk => RowL.ge R4.out k hk)
              have RA5 := Lib.hid (RowL.fit hown)
              have HM5 := Lib.hid (HM.out.below (Nat.le_refl _) hbel5)
              clear hown hgrow x0 x1 x2 x3 x4 x5 zq Q4 R4 HM4 hbel4 hsz4 HRQ hii hz0 hz1 hz2
              go_wp2_with fail
              have HE4 := Lib.hid (HE3.out.trans (by rw [HMU.out, if_pos rfl]))
              clear HE3
              refine (must_any m n L nw W D z w5 (HM5).out hn hzn).mono ?_
              rintro e w6 ⟨rfl, rfl⟩
              rw [HMU.out]
              go_wp2_with fail
              go_ret
              refine ⟨_, rfl, ?_, hbel5⟩
              rw [HE4.out]
              first | exact (RA5).out | (rw [List.append_nil]; exact (RA5).out)
            · exact absurd (HFB.out rfl) (by simp)
          · cases xs with
            | nil =>
              have HE3 := Lib.hid (HADD.out rfl)
              cases br
              · clear HADD HSKIP HBARE HFB
                obtain ⟨ii, hii, hz0, hz1, hz2⟩ := HI.out
                go_wp2_with (at_builtin; go_loud (refine wpList_append_own _ rfl _ _ 61 rfl w.heap.size 74 ii _ 6 48 Try.underlying61 hii hz0 hz1 hz2 rfl (by decide) _ _ _ rfl (RowL.alloc R4.out _) ⟨w4.heap.size, 0, none⟩ 1 1 [.int .i64 (a : Int), .int .i64 (z : Int), .int .i64 Nt, .int .i64 St, .int .i64 Rs, .int .i64 Wd] rfl rfl ?k1qd ?k2qd ?k3qd ?k4qd ?k5qd ?_))
                case k1qd =>
                  intro j u hj
                  have e : Addr.add ⟨w4.heap.size, 0, none⟩ j = ⟨w4.heap.size, j, none⟩ := by simp [Addr.add]; omega
                  rw [e]
                  exact cellNew (by simpa using hj)
                case k2qd => intro u hu; simp at hu; rcases hu with rfl | rfl | rfl | rfl | rfl | rfl <;> rfl
                case k3qd => unfold maxLen; (try simp); (try omega)
                case k4qd => (try simp); (try omega)
                case k5qd => (try simp); (try omega)
                intro v5 w5 hown hgrow _
                have hbel5 : Below w.heap.size w w5 := Below.grown (B := w.heap.size) (a := w) (hbel4.alloc hsz4 _) hgrow (by simp; omega) (fun k hk => RowL.ge R4.out k hk)
                have RA5 := Lib.hid (RowL.fit hown)
                have HM5 := Lib.hid (HM.out.below (Nat.le_refl _) hbel5)
                clear hown hgrow x0 x1 x2 x3 x4 x5 zq Q4 R4 HM4 hbel4 hsz4 HRQ hii hz0 hz1 hz2
                go_wp2_with fail
                have HE4 := Lib.hid (HE3.out.trans (by rw [HMU.out, if_pos rfl]))
                clear HE3
                refine (must_any m n L nw W D z w5 (HM5).out hn hzn).mono ?_
                rintro e w6 ⟨rfl, rfl⟩
                rw [HMU.out]
                go_wp2_with fail
                go_ret
                refine ⟨_, rfl, ?_, hbel5⟩
                rw [HE4.out]
                first | exact (RA5).out | (rw [List.append_nil]; exact (RA5).out)
              · have HB0 := Lib.hid (HBARE.out rfl)
                clear HADD HSKIP HBARE HFB
                obtain ⟨ii, hii, hz0, hz1, hz2⟩ := HI.out
                go_wp2_with (at_builtin; go_loud (refine wpList_append_own _ rfl _ _ 61 rfl w.heap.size 74 ii _ 6 48 Try.underlying61 hii hz0 hz1 hz2 rfl (by decide) _ _ _ rfl (RowL.alloc R4.out _) ⟨w4.heap.size, 0, none⟩ 1 1 [.int .i64 (a : Int), .int .i64 (z : Int), .int .i64 Nt, .int .i64 St, .int .i64 Rs, .int .i64 Wd] rfl rfl ?k1qe ?k2qe ?k3qe ?k4qe ?k5qe ?_))
                case k1qe =>
                  intro j u hj
                  have e : Addr.add ⟨w4.heap.size, 0, none⟩ j = ⟨w4.heap.size, j, none⟩ := by simp [Addr.add]; omega
                  rw [e]
                  exact cellNew (by simpa using hj)
                case k2qe => intro u hu; simp at hu; rcases hu with rfl | rfl | rfl | rfl | rfl | rfl <;> rfl
                case k3qe => unfold maxLen; (try simp); (try omega)
                case k4qe => (try simp); (try omega)
                case k5qe => (try simp); (try omega)
                intro v5 w5 hown hgrow _
                have hbel5 : Below w.heap.size w w5 := Below.grown (B := w.heap.size) (a := w) (hbel4.alloc hsz4 _) hgrow (by simp; omega) (fun k hk => RowL.ge R4.out k hk)
                have RA5 := Lib.hid (RowL.fit hown)
                have HM5 := Lib.hid (HM.out.below (Nat.le_refl _) hbel5)
                clear hown hgrow x0 x1 x2 x3 x4 x5 zq Q4 R4 HM4 hbel4 hsz4 HRQ hii hz0 hz1 hz2
                go_wp2_with fail
                go_wp2_with fail
                go_ret
                refine ⟨_, rfl, ?_, hbel5⟩
                rw [HE3.out, HB0.out, ite_self]
                exact RA5.out
            | cons x0 xs0 =>
              have HE3 := Lib.hid (HSKIP.out rfl)
              obtain ⟨ys, hys⟩ : ∃ ys, ys = x0 :: xs0 := ⟨_, rfl⟩
              have HNE := Lib.hid (show ys.isEmpty = false by rw [hys]; rfl)
              have hyl : ¬ (ys.length = 0) := by rw [hys]; simp
              rw [← hys] at HE3 R4 HRQ hxl ⊢
              clear hys
              cases br
              · clear HADD HSKIP HBARE HFB
                go_wp2_with fail
                have HE4 := Lib.hid (HE3.out.trans (by rw [HMU.out, if_pos rfl]))
                clear HE3
                refine (must_any m n L nw W D z w4 (HM4).out hn hzn).mono ?_
                rintro e w6 ⟨rfl, rfl⟩
                rw [HMU.out]
                go_wp2_with fail
                go_ret
                refine ⟨_, rfl, ?_, hbel4⟩
                rw [HE4.out]
                first | exact (R4).out | (rw [List.append_nil]; exact (R4).out)
              · have HB0 := Lib.hid (HBARE.out rfl)
                clear HADD HSKIP HBARE HFB
                go_wp2_with fail
                go_ret
                refine ⟨_, rfl, ?_, hbel4⟩
                rw [HE3.out, HB0.out, ite_self, List.append_nil]
                exact R4.out
    · obtain rfl : z = n + 1 := by omega
      have HE2 := Lib.hid (show R = xs by
        have h := HE.out
        rw [Nat.sub_self] at h
        rw [h]; simp [endG])
      clear HE
      go_wp2_with fail
      go_ret
      exact ⟨_, rfl, by rw [HE2.out]; exact HROW.out, hbel⟩
end Go.Proofs.Ytnigebnibikolaa.LN
