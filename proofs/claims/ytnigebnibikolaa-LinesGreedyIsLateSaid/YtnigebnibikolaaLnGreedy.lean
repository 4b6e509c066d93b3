

/-
  Greedy.
-/
import Derived.Test.YtnigebnibikolaaLnLateR
import Derived.Test.YtnigebnibikolaaLnBreak
namespace Go.Proofs.Ytnigebnibikolaa.LN
open Go.RowKit Go.Law Go.Law.Ln
set_option linter.unusedVariables false
set_option linter.unusedSimpArgs false
set_option maxRecDepth 100000
def GreedyPost (w : World) (P : List Line × Int) (e : Ending) (w' : World) : Prop :=
  ∃ v, e = .returned (.tuple #[v, .int .i64 P.2, .int .i64 0]) ∧ RowL w' w.heap.size 74 6 v P.1.length (linesC P.1) ∧ Below w.heap.size w w'
theorem greedy_bad (n : Nat) (L : Nat → Part) (nw : Nat) (W : Nat → Int) (D : Int) (aP aW : Option Addr) (cP cW : Nat) (w : World) (hp : CellsF w aP n 6 (fun i => (L i).V)) (ha : IntsF w aW nw W) (hn : n ≤ 1000000000000000000) (hE : bothE n L nw W D ≠ 0) :
    Calls Try.prog 28 #[.slice aP n cP, .agg #[.slice aW nw cW, .int .i64 D]] w fun e w' => e = .returned (.tuple #[.slice none 0 0, .int .i64 0, .int .i64 (bothE n L nw W D)]) ∧ Below w.heap.size w w' := by
  have HA := Lib.hid ha
  have HP := Lib.hid hp
  obtain ⟨E, hE'⟩ : ∃ E, E = bothE n L nw W D := ⟨_, rfl⟩
  rw [← hE'] at hE ⊢
  have HE := Lib.hid hE'
  have g0 : (E != 0) = true := by simpa using hE
  clear ha hp hE hE'
  go_enter Try.func28, Try.ntmps28
  go_wp2_with fail
  have hb0 : Below w.heap.size w (w.alloc (Obj.cells #[.slice aW nw cW, .int .i64 D] 60)) := (Below.refl _ _).alloc (Nat.le_refl _) _
  refine (checkBoth_any n L nw W D aP aW cP cW _ (HP.out.below (Nat.le_refl _) hb0) (HA.out.below (Nat.le_refl _) hb0) hn).mono ?_
  rintro e w2 ⟨rfl, hb2⟩
  rw [← HE.out]
  have hb := hb0.trans (hb2.mono hb0.size)
  clear hb0 hb2
  go_wp2_with fail
  go_ret3
  exact ⟨rfl, hb⟩
/-- while Greedy runs: wm is the world behind prepare -/
structure GrS (wm : World) (v : Value) (xs : List Line) (wr : World) : Prop where
  below : Below wm.heap.size wm wr
  lines : RowL wr wm.heap.size 74 6 v xs.length (linesC xs)
theorem GrS.under {wm : World} {v : Value} {xs : List Line} {wr w' : World} (h : GrS wm v xs wr) (hb : Below wr.heap.size wr w') : GrS wm v xs w' :=
  ⟨h.below.trans (hb.mono h.below.size), h.lines.below hb (Nat.le_refl _)⟩
theorem GrS.append {wm : World} {v : Value} {xs : List Line} {wr w' : World} (h : GrS wm v xs wr) {o : Obj} {v' : Value} {xs' : List Line} (hg : (wr.alloc o).grownBy w' v.ownBlock) (hr : RowL w' wm.heap.size 74 6 v' xs'.length (linesC xs')) : GrS wm v' xs' w' :=
  ⟨Below.grown (B := wm.heap.size) (a := wm) (h.below.alloc h.below.size o) hg (by have := h.below.size; simp; omega) (fun k hk => RowL.ge h.lines k hk), hr⟩
set_option maxHeartbeats 8000000 in
theorem greedy_ok (n : Nat) (L : Nat → Part) (nw : Nat) (W : Nat → Int) (D : Int) (aP aW : Option Addr) (cP cW : Nat) (w : World) (hp : CellsF w aP n 6 (fun i => (L i).V)) (ha : IntsF w aW nw W) (hn : n ≤ 1000) (hE : bothE n L nw W D = 0) :
    Calls Try.prog 28 #[.slice aP n cP, .agg #[.slice aW nw cW, .int .i64 D]] w (GreedyPost w (lateF n L nw W D (begF n L 0) 0 false)) := by
  have HA := Lib.hid ha
  have HP := Lib.hid hp
  have HE := Lib.hid hE
  have hgood := both_good hE
  have HG := Lib.hid hgood
  have hnw := hgood.some
  have hDD := hgood.double
  have hbg := begF_ge (n := n) (L := L) (i := 0) (by omega)
  obtain ⟨b0, hb0'⟩ : ∃ b, b = begF n L 0 := ⟨_, rfl⟩
  rw [← hb0'] at hbg ⊢
  have HB0 := Lib.hid hb0'
  obtain ⟨P, hP⟩ : ∃ P, P = lateF n L nw W D b0 0 false := ⟨_, rfl⟩
  rw [← hP]
  have HP1 := Lib.hid (show P.1 = [] ++ (lateF n L nw W D b0 0 false).1 by rw [hP]; rfl)
  have HP2 := Lib.hid (show P.2 = 0 + (lateF n L nw W D b0 0 false).2 by rw [hP]; omega)
  obtain ⟨P1, P2⟩ := P
  simp only at HP1 HP2
  have hI := info_parts (show (Try.prog.info? 74).map (fun i => (i.zero, i.size, i.bytes)) = some (some (.agg #[.int .i64 0, .int .i64 0, .int .i64 0, .int .i64 0, .int .i64 0, .int .i64 0]), 6, 48) by kernel_rfl)
  have HI := Lib.hid hI
  clear ha hp hE hgood hb0' hP hI
  go_enter Try.func28, Try.ntmps28
  go_wp2_with fail
  obtain ⟨w1, hw1⟩ : ∃ w1, w1 = w.alloc (Obj.cells #[.slice aW nw cW, .int .i64 D] 60) := ⟨_, rfl⟩
  have hb1 : Below w.heap.size w w1 := by rw [hw1]; exact (Below.refl _ _).alloc (Nat.le_refl _) _
  have q1 : Blk w1 w.heap.size #[.slice aW nw cW, .int .i64 D] 60 := by rw [hw1]; exact Blk.new _ _ _
  rw [← hw1]
  clear hw1
  refine (checkBoth_any n L nw W D aP aW cP cW _ (HP.out.below (Nat.le_refl _) hb1) (HA.out.below (Nat.le_refl _) hb1) (by omega)).mono ?_
  rintro e w2 ⟨rfl, hb2⟩
  rw [HE.out]
  have q2 := q1.below hb2 q1.lt
  have hb02 := hb1.trans (hb2.mono hb1.size)
  have s0 : w2.cell? ⟨w.heap.size, 0, none⟩ = some (.slice aW nw cW) := q2.cell (i := 0) rfl
  have s1 : w2.cell? ⟨w.heap.size, 1, none⟩ = some (.int .i64 D) := q2.cell (i := 1) rfl
  have zs := q2.lt
  clear q1 hb1 hb2
  go_wp2_with fail
  refine (prep_any n L nw W D aP aW cP cW _ (HP.out.below (Nat.le_refl _) hb02) (HA.out.below (Nat.le_refl _) hb02) (by omega) HG.out.parts).mono ?_
  rintro e wm ⟨m, rfl, hM3, hb3⟩
  have hb0m := hb02.trans (hb3.mono hb02.size)
  have q3 := q2.below hb3 q2.lt
  have Q3 := Lib.hid q3
  have HM3 := Lib.hid hM3
  have hM3c := hM3
  obtain ⟨_, _, _, _, gw, gg, gy, gb, ⟨_, _, _, _, _, _, m6⟩, _, _, _, _, _, mbg⟩ := hM3c
  have m6b := mbg 0 (by omega)
  rw [← HB0.out] at m6b
  have zm := lt_of_cell m6
  have zg := lt_of_cell m6b
  simp only at zm zg
  have e0 : (0 : Int) < (n : Int) + 2 := by omega
  clear hb3 mbg s0 s1 zs hb02 q2 q3 hM3
  go_wp2_with fail
  go_quiet (fail)
  obtain ⟨w4, hw4⟩ : ∃ w4, w4 = wm.drewN nq := ⟨_, rfl⟩
  rw [← hw4]
  have hS0 : GrS wm (.slice none 0 0) [] w4 := ⟨by rw [hw4]; exact below_drewN (Below.refl _ _) _, RowL.nil _ _ _ _⟩
  have HS0 := Lib.hid hS0
  clear hw4 hS0 m6 m6b zm zg
  go_wp2_with fail
  go_loopw [9, 10, 11, 12, 13] (fun v cv av fv nv wr => ∃ (a num : Nat) (flag : Bool) (xs : List Line) (C : Int), cv = .int .i64 C ∧ av = .int .i64 a ∧ fv = .bool flag ∧ nv = .int .i64 num ∧ a ≤ n ∧ num ≤ a ∧ (-(3000000000000 * (num : Int)) ≤ C ∧ C ≤ 3000000000000 * (num : Int)) ∧ P1 = xs ++ (lateF n L nw W D a num flag).1 ∧ P2 = C + (lateF n L nw W D a num flag).2 ∧ xs.length ≤ num ∧ GrS wm v xs wr) (fun _ _ av _ _ _ => n + 1 - (intOf av).toNat)
  case atStart => exact ⟨b0, 0, false, [], 0, rfl, rfl, rfl, rfl, hbg.2, Nat.zero_le _, by omega, HP1.out, HP2.out, Nat.le_refl _, HS0.out⟩
  case round =>
    obtain ⟨a, num, flag, xs, C, rfl, rfl, rfl, rfl, ha, hna, hCb, hP1, hP2, hxl, hS⟩ := hrel
    have HQ1 := Lib.hid hP1
    have HQ2 := Lib.hid hP2
    have HS := Lib.hid hS
    obtain ⟨av, cv, hv, _, _⟩ := RowL.slice hS.lines
    subst hv
    have HROW0 := Lib.hid hS.lines
    clear hP1 hP2 hS HP1 HP2 HS0
    obtain ⟨x, hx⟩ : ∃ x, x = lastE n L nw W a num := ⟨_, rfl⟩
    have hmem := lastE_mem (L := L) (nw := nw) (W := W) (num := num) ha
    have hget := lastE_get (L := L) (nw := nw) (W := W) (num := num) ha
    have hpos := endF_pos (L := L) (nw := nw) (W := W) (num := num) ha
    have hlen := endF_len (n := n) (L := L) (nw := nw) (W := W) (a := a) (num := num)
    rw [← hx] at hmem hget
    obtain ⟨hxe, hxa, hxn⟩ := hmem
    have hbd := line_bd (nw := nw) (W := W) (num := num) (n := n) (L := L) (a := a) (z := x.z) (by omega) HG.out.parts hxa hxn
    have hwd := lineW HG.out a x.z num
    have hcb := costF_bound HG.out hxa hxn (num := num)
    have hdb := dblF_bound HG.out flag x.z
    rw [← hxe] at hbd hwd hcb
    have HLASTP := Lib.hid (show lastB n L x.z = true → P1 = xs ++ [x] ∧ P2 = C + (costF n L x + dblF n L D flag x.z) from fun h => by
      rw [hx] at h ⊢
      rw [HQ1.out, HQ2.out, lateF_last ha h]; exact ⟨rfl, rfl⟩)
    have HNEXTP := Lib.hid (show lastB n L x.z = false → P1 = (xs ++ [x]) ++ (lateF n L nw W D (aftF n L x.z) (num + 1) (flgB n L x.z)).1 ∧ P2 = (C + (costF n L x + dblF n L D flag x.z)) + (lateF n L nw W D (aftF n L x.z) (num + 1) (flgB n L x.z)).2 from fun h => by
      rw [hx] at h ⊢
      rw [HQ1.out, HQ2.out, lateF_next ha h]
      exact ⟨by rw [List.append_cons], by omega⟩)
    obtain ⟨xs2, hxs2⟩ : ∃ l, l = endF n L nw W a num := ⟨_, rfl⟩
    rw [← hxs2] at hget hpos hlen
    have HXS2 := Lib.hid hxs2
    obtain ⟨xa, z, Nt, St, Rs, Wd⟩ := x
    simp only at hxa hxn hbd hwd hdb HLASTP HNEXTP
    obtain ⟨C0, hC0⟩ : ∃ c, c = costF n L ⟨xa, z, Nt, St, Rs, Wd⟩ := ⟨_, rfl⟩
    obtain ⟨fb, hfb⟩ : ∃ b, b = flgB n L z := ⟨_, rfl⟩
    obtain ⟨DC, hDC⟩ : ∃ y, y = C0 + dblF n L D flag z := ⟨_, rfl⟩
    have hdc : -200000000 ≤ DC ∧ DC ≤ 2600000000000 := by rw [hDC]; omega
    have hcc0 : -200000000 ≤ C0 ∧ C0 ≤ 2600000000000 := by omega
    rw [← hC0, ← hDC, ← hfb] at HNEXTP
    rw [← hC0, ← hDC] at HLASTP
    have HC0 := Lib.hid hC0
    have HFB := Lib.hid hfb
    have HDC := Lib.hid (show DC = C0 + (if (flag && fb) = true then D else 0) by rw [hDC, hfb]; rfl)
    clear hx hxe hcb hdb hxs2 hDC hC0 hfb HQ1 HQ2
    obtain ⟨bd1, bd2, bd3⟩ := hbd
    go_wp2_with fail
    refine (ends_any m n L nw W D a num wr (HM3.out.below (Nat.le_refl _) HS.out.below) (by omega) ha HG.out.parts hnw (by omega)).mono ?_
    rintro e w3 ⟨v3, rfl, hrow3, hb3⟩
    rw [← HXS2.out] at hrow3
    have HS3 := Lib.hid (HS.out.under hb3)
    have hsz3 := hb3.size
    obtain ⟨g3, c3, hv3, hg31, hg32, hc31, hc32, hfz3, hcells⟩ := RowL.at hrow3 hpos
    subst hv3
    have l0 : w3.cell? ⟨g3, (xs2.length - 1) * 6 + 0, none⟩ = some (.int .i64 xa) := hcells _ _ (linesC_get hget (j := 0) rfl)
    have l1 : w3.cell? ⟨g3, (xs2.length - 1) * 6 + 1, none⟩ = some (.int .i64 z) := hcells _ _ (linesC_get hget (j := 1) rfl)
    have l2 : w3.cell? ⟨g3, (xs2.length - 1) * 6 + 2, none⟩ = some (.int .i64 Nt) := hcells _ _ (linesC_get hget (j := 2) rfl)
    have l3 : w3.cell? ⟨g3, (xs2.length - 1) * 6 + 3, none⟩ = some (.int .i64 St) := hcells _ _ (linesC_get hget (j := 3) rfl)
    have l4 : w3.cell? ⟨g3, (xs2.length - 1) * 6 + 4, none⟩ = some (.int .i64 Rs) := hcells _ _ (linesC_get hget (j := 4) rfl)
    have l5 : w3.cell? ⟨g3, (xs2.length - 1) * 6 + 5, none⟩ = some (.int .i64 Wd) := hcells _ _ (linesC_get hget (j := 5) rfl)
    rw [Nat.add_zero] at l0
    have hpi : 1 ≤ (xs2.length : Int) := by omega
    clear hcells hfz3 hget hrow3 HXS2 hb3 HS
    go_upto_region 11 with (fail)
    obtain ⟨w4, hw4⟩ : ∃ w4, w4 = w3.alloc (Obj.cells #[.int .i64 xa, .int .i64 z, .int .i64 Nt, .int .i64 St, .int .i64 Rs, .int .i64 Wd] 74) := ⟨_, rfl⟩
    have hb34 : Below w3.heap.size w3 w4 := by rw [hw4]; exact (Below.refl _ _).alloc (Nat.le_refl _) _
    have q4 : Blk w4 w3.heap.size #[.int .i64 xa, .int .i64 z, .int .i64 Nt, .int .i64 St, .int .i64 Rs, .int .i64 Wd] 74 := by rw [hw4]; exact Blk.new _ _ _
    rw [← hw4]
    obtain ⟨px, hpx⟩ : ∃ px, px = w3.heap.size := ⟨_, rfl⟩
    rw [← hpx] at q4 ⊢
    have hpl : wr.heap.size ≤ px := by rw [hpx]; exact hsz3
    have HS4 := Lib.hid (HS3.out.under hb34)
    have HX4 := Lib.hid q4
    have x0 := q4.cell (i := 0) rfl
    have x1 := q4.cell (i := 1) rfl
    have x2 := q4.cell (i := 2) rfl
    have x3 := q4.cell (i := 3) rfl
    have x4 := q4.cell (i := 4) rfl
    have x5 := q4.cell (i := 5) rfl
    have zx := q4.lt
    clear hw4 hpx hb34 q4 l0 l1 l2 l3 l4 l5 HS3
    obtain ⟨ii, hii, hz0, hz1, hz2⟩ := HI.out
    go_wp2_with (at_builtin; go_loud (refine wpList_append_own _ rfl _ _ 61 rfl wm.heap.size 74 ii _ 6 48 Try.underlying61 hii hz0 hz1 hz2 rfl (by decide) _ _ _ rfl (RowL.alloc (HS4).out.lines _) ⟨w4.heap.size, 0, none⟩ 1 1 [.int .i64 (xa : Int), .int .i64 (z : Int), .int .i64 Nt, .int .i64 St, .int .i64 Rs, .int .i64 Wd] rfl rfl ?k1a ?k2a ?k3a ?k4a ?k5a ?_))
    case k1a =>
      intro j u hj
      have e : Addr.add ⟨w4.heap.size, 0, none⟩ j = ⟨w4.heap.size, j, none⟩ := by simp [Addr.add]; omega
      rw [e]
      exact cellNew (by simpa using hj)
    case k2a => intro u hu; simp at hu; rcases hu with rfl | rfl | rfl | rfl | rfl | rfl <;> rfl
    case k3a => unfold maxLen; (try simp); (try omega)
    case k4a => (try simp); (try omega)
    case k5a => have := (HS4).out.below.size; (try simp); (try omega)
    intro v6 w6 hown hgrow _
    have HS6 := Lib.hid ((HS4).out.append hgrow (RowL.fit hown))
    have HX6 := Lib.hid (blk_grown (HX4).out hgrow HROW0.out hpl)
    clear hown hgrow hii hz0 hz1 hz2 HS4 HX4
    clear x0 x1 x2 x3 x4 x5 zx
    have x0 := HX6.out.cell (i := 0) rfl
    have x1 := HX6.out.cell (i := 1) rfl
    have x2 := HX6.out.cell (i := 2) rfl
    have x3 := HX6.out.cell (i := 3) rfl
    have x4 := HX6.out.cell (i := 4) rfl
    have x5 := HX6.out.cell (i := 5) rfl
    have zx := HX6.out.lt
    go_wp2_with fail
    refine (cost_any m n L nw W D xa z Nt St Rs Wd w6 (HM3.out.below (Nat.le_refl _) HS6.out.below) (by omega) hxn HG.out.parts bd1 bd2 bd3 hwd).mono ?_
    rintro e w7 ⟨rfl, hb7⟩
    rw [← HC0.out]
    have HS7 := Lib.hid (HS6.out.under hb7)
    have HX7 := Lib.hid (HX6.out.below hb7 HX6.out.lt)
    clear x0 x1 x2 x3 x4 x5 zx HS6 HX6 hb7
    have x1 := HX7.out.cell (i := 1) rfl
    have zx := HX7.out.lt
    have q7 := Q3.out.below HS7.out.below Q3.out.lt
    have q1 := q7.cell (i := 1) rfl
    have zq := q7.lt
    have HM7 := Lib.hid (HM3.out.below (Nat.le_refl _) HS7.out.below)
    clear q7
    cases flag
    · have HD2 := Lib.hid (show DC = C0 by rw [HDC.out]; simp)
      clear HDC q1 zq
      go_wp2_with fail
      refine (last_any m n L nw W D z w7 HM7.out (by omega) hxn).mono ?_
      rintro e w8 ⟨rfl, kk, rfl⟩
      cases hlb : lastB n L z
      · have HN := Lib.hid (HNEXTP.out hlb)
        have hafb := aftF_gt hxn hlb
        have HA1 := Lib.hid (fun kq => after_any m n L nw W D z ((w7.drewN kk).drewN kq) (HM7.out.below (Nat.le_refl _) (below_drewN (below_drewN (Below.refl _ _) kk) kq)) (by omega) hxn)
        have HA2 := Lib.hid (fun kq => flagged_any m n L nw W D z ((w7.drewN kk).drewN kq) (HM7.out.below (Nat.le_refl _) (below_drewN (below_drewN (Below.refl _ _) kk) kq)) (by omega) hxn)
        have x1' : (w7.drewN kk).cell? ⟨px, 1, none⟩ = some (.int .i64 (z : Nat)) := x1
        have zx' : px < (w7.drewN kk).heap.size := zx
        have hS8 := HS7.out.under (below_drewN (Below.refl _ _) kk)
        obtain ⟨w8, hw8⟩ : ∃ w8, w8 = w7.drewN kk := ⟨_, rfl⟩
        rw [← hw8] at hS8 HA1 HA2 x1' zx' ⊢
        have HS8 := Lib.hid hS8
        have hn1 : IntKind.i64.wrap ((num : Int) + 1) = (num : Int) + 1 := IntWalk.i64_in _ ⟨by omega, by omega⟩
        clear hw8 hS8 x1 zx hlb HLASTP HNEXTP HS7 HM7
        go_wp2_with fail
        go_quiet (first | (go_at_call 59; exact quiet_call (HA1.out _)) | (go_at_call 60; exact quiet_call (HA2.out _)))
        go_wp2_with fail
        go_roundw
        case rel =>
          refine ⟨aftF n L z, num + 1, flgB n L z, xs ++ [⟨xa, z, Nt, St, Rs, Wd⟩], C + DC, ?_, rfl, rfl, by go_num, by omega, by omega, by omega, ?_, by rw [← HFB.out]; exact HN.out.2, by simp; omega, HS8.out.under (below_drewN (Below.refl _ _) _)⟩
          · rw [HD2.out]; try (first | rfl | (rw [Int.add_assoc]))
          · rw [HN.out.1, ← HFB.out]
        case measure => simp [intOf]; omega
      · have HN := Lib.hid (HLASTP.out hlb)
        have HS8 := Lib.hid (HS7.out.under (below_drewN (Below.refl _ _) kk))
        clear hlb HLASTP HNEXTP HS7
        go_wp2_with fail
        go_ret3
        refine ⟨v6, ?_, ?_, hb0m.trans (HS8.out.below.mono hb0m.size)⟩
        · rw [HN.out.2, HD2.out]; first | rfl | (rw [← Int.add_assoc]; rfl)
        · simp only
          rw [HN.out.1]
          exact HS8.out.lines.mono hb0m.size
    · cases fb
      · have HD2 := Lib.hid (show DC = C0 by rw [HDC.out]; simp)
        clear HDC q1 zq
        go_wp2_with fail
        refine (flagged_any m n L nw W D z w7 HM7.out (by omega) hxn).mono ?_
        rintro e w8 ⟨rfl, rfl⟩
        rw [← HFB.out]
        go_wp2_with fail
        refine (last_any m n L nw W D z w7 HM7.out (by omega) hxn).mono ?_
        rintro e w8 ⟨rfl, kk, rfl⟩
        cases hlb : lastB n L z
        · have HN := Lib.hid (HNEXTP.out hlb)
          have hafb := aftF_gt hxn hlb
          have HA1 := Lib.hid (fun kq => after_any m n L nw W D z ((w7.drewN kk).drewN kq) (HM7.out.below (Nat.le_refl _) (below_drewN (below_drewN (Below.refl _ _) kk) kq)) (by omega) hxn)
          have HA2 := Lib.hid (fun kq => flagged_any m n L nw W D z ((w7.drewN kk).drewN kq) (HM7.out.below (Nat.le_refl _) (below_drewN (below_drewN (Below.refl _ _) kk) kq)) (by omega) hxn)
          have x1' : (w7.drewN kk).cell? ⟨px, 1, none⟩ = some (.int .i64 (z : Nat)) := x1
          have zx' : px < (w7.drewN kk).heap.size := zx
          have hS8 := HS7.out.under (below_drewN (Below.refl _ _) kk)
          obtain ⟨w8, hw8⟩ : ∃ w8, w8 = w7.drewN kk := ⟨_, rfl⟩
          rw [← hw8] at hS8 HA1 HA2 x1' zx' ⊢
          have HS8 := Lib.hid hS8
          have hn1 : IntKind.i64.wrap ((num : Int) + 1) = (num : Int) + 1 := IntWalk.i64_in _ ⟨by omega, by omega⟩
          clear hw8 hS8 x1 zx hlb HLASTP HNEXTP HS7 HM7
          go_wp2_with fail
          go_quiet (first | (go_at_call 59; exact quiet_call (HA1.out _)) | (go_at_call 60; exact quiet_call (HA2.out _)))
          go_wp2_with fail
          go_roundw
          case rel =>
            refine ⟨aftF n L z, num + 1, flgB n L z, xs ++ [⟨xa, z, Nt, St, Rs, Wd⟩], C + DC, ?_, rfl, rfl, by go_num, by omega, by omega, by omega, ?_, by rw [← HFB.out]; exact HN.out.2, by simp; omega, HS8.out.under (below_drewN (Below.refl _ _) _)⟩
            · rw [HD2.out]; try (first | rfl | (rw [Int.add_assoc]))
            · rw [HN.out.1, ← HFB.out]
          case measure => simp [intOf]; omega
        · have HN := Lib.hid (HLASTP.out hlb)
          have HS8 := Lib.hid (HS7.out.under (below_drewN (Below.refl _ _) kk))
          clear hlb HLASTP HNEXTP HS7
          go_wp2_with fail
          go_ret3
          refine ⟨v6, ?_, ?_, hb0m.trans (HS8.out.below.mono hb0m.size)⟩
          · rw [HN.out.2, HD2.out]; first | rfl | (rw [← Int.add_assoc]; rfl)
          · simp only
            rw [HN.out.1]
            exact HS8.out.lines.mono hb0m.size
      · have HD2 := Lib.hid (show DC = C0 + D by rw [HDC.out]; simp)
        clear HDC
        go_wp2_with fail
        refine (flagged_any m n L nw W D z w7 HM7.out (by omega) hxn).mono ?_
        rintro e w8 ⟨rfl, rfl⟩
        rw [← HFB.out]
        go_wp2_with fail
        refine (last_any m n L nw W D z w7 HM7.out (by omega) hxn).mono ?_
        rintro e w8 ⟨rfl, kk, rfl⟩
        cases hlb : lastB n L z
        · have HN := Lib.hid (HNEXTP.out hlb)
          have hafb := aftF_gt hxn hlb
          have HA1 := Lib.hid (fun kq => after_any m n L nw W D z ((w7.drewN kk).drewN kq) (HM7.out.below (Nat.le_refl _) (below_drewN (below_drewN (Below.refl _ _) kk) kq)) (by omega) hxn)
          have HA2 := Lib.hid (fun kq => flagged_any m n L nw W D z ((w7.drewN kk).drewN kq) (HM7.out.below (Nat.le_refl _) (below_drewN (below_drewN (Below.refl _ _) kk) kq)) (by omega) hxn)
          have x1' : (w7.drewN kk).cell? ⟨px, 1, none⟩ = some (.int .i64 (z : Nat)) := x1
          have zx' : px < (w7.drewN kk).heap.size := zx
          have hS8 := HS7.out.under (below_drewN (Below.refl _ _) kk)
          obtain ⟨w8, hw8⟩ : ∃ w8, w8 = w7.drewN kk := ⟨_, rfl⟩
          rw [← hw8] at hS8 HA1 HA2 x1' zx' ⊢
          have HS8 := Lib.hid hS8
          have hn1 : IntKind.i64.wrap ((num : Int) + 1) = (num : Int) + 1 := IntWalk.i64_in _ ⟨by omega, by omega⟩
          clear hw8 hS8 x1 zx hlb HLASTP HNEXTP HS7 HM7
          go_wp2_with fail
          go_quiet (first | (go_at_call 59; exact quiet_call (HA1.out _)) | (go_at_call 60; exact quiet_call (HA2.out _)))
          go_wp2_with fail
          go_roundw
          case rel =>
            refine ⟨aftF n L z, num + 1, flgB n L z, xs ++ [⟨xa, z, Nt, St, Rs, Wd⟩], C + DC, ?_, rfl, rfl, by go_num, by omega, by omega, by omega, ?_, by rw [← HFB.out]; exact HN.out.2, by simp; omega, HS8.out.under (below_drewN (Below.refl _ _) _)⟩
            · rw [HD2.out]; try (first | rfl | (rw [Int.add_assoc]))
            · rw [HN.out.1, ← HFB.out]
          case measure => simp [intOf]; omega
        · have HN := Lib.hid (HLASTP.out hlb)
          have HS8 := Lib.hid (HS7.out.under (below_drewN (Below.refl _ _) kk))
          clear hlb HLASTP HNEXTP HS7
          go_wp2_with fail
          go_ret3
          refine ⟨v6, ?_, ?_, hb0m.trans (HS8.out.below.mono hb0m.size)⟩
          · rw [HN.out.2, HD2.out]; first | rfl | (rw [← Int.add_assoc]; rfl)
          · simp only
            rw [HN.out.1]
            exact HS8.out.lines.mono hb0m.size
end Go.Proofs.Ytnigebnibikolaa.LN
