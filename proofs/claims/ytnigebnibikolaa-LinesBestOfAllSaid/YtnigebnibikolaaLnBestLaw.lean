

/-
  BestLines, and LinesBestOfAll: the walks.
-/
import Derived.Test.YtnigebnibikolaaLnWay
import Derived.Test.YtnigebnibikolaaLnBroken
namespace Go.Proofs.Ytnigebnibikolaa.LN
open Go.RowKit Go.Law Go.Law.Ln
set_option linter.unusedVariables false
set_option linter.unusedSimpArgs false
set_option maxRecDepth 100000
/-- the box of a shape, cell by cell -/
def BlC (q : Nat) (aW : Option Addr) (nw cW : Nat) (D : Int) (w : World) : Prop := w.cell? ⟨q, 0, none⟩ = some (.slice aW nw cW) ∧ w.cell? ⟨q, 1, none⟩ = some (.int .i64 D)
theorem BlC.of {q : Nat} {aW : Option Addr} {nw cW : Nat} {D : Int} {w : World} {T : TypeId} (h : Blk w q #[.slice aW nw cW, .int .i64 D] T) : BlC q aW nw cW D w := ⟨h.cell (i := 0) rfl, h.cell (i := 1) rfl⟩
set_option maxHeartbeats 4000000 in
theorem bestLines_any (n : Nat) (L : Nat → Part) (nw : Nat) (W : Nat → Int) (D : Int) (aP aW : Option Addr) (cP cW : Nat) (w0 : World) (sb : Nat) (mP : CellsF w0 aP n 6 (fun i => (L i).V)) (mW : IntsF w0 aW nw W) (hn : n ≤ 1000) (hcP : n ≤ cP) (hcM : cP ≤ 1000000000000000) (hg : Go.Law.Ln.Good n L nw W D) (hsb : w0.heap.size ≤ sb)
    (k : Int) (w : World) (hB : Below w0.heap.size w0 w) (hq : Blk w sb #[.int .i64 k] 3) (hk0 : 0 ≤ k) (hkM : k ≤ 100000) :
    Calls Try.prog 26 #[.slice aP n cP, .agg #[.slice aW nw cW, .int .i64 D], .pointer (some ⟨sb, 0, none⟩)] w (BfPost sb k w (pathF n L nw W D (begF n L 0) 0 false) (bestF n L nw W D (begF n L 0) 0 false).2.1) := by
  have hbest := bestR_any n L nw W D aP aW cP cW w0 sb mP mW hn hcP hcM hg hsb
  have HBE := Lib.hid hbest
  have hbg := begF_ge (n := n) (L := L) (show 0 ≤ n by omega)
  have hbeg := fun w1 (hb : Below w0.heap.size w0 w1) => begin_any n L aP cP 0 w1 (mP.below (Nat.le_refl _) hb) (by omega) (by omega)
  obtain ⟨P, hP⟩ : ∃ P, P = pathF n L nw W D (begF n L 0) 0 false := ⟨_, rfl⟩
  obtain ⟨C, hC⟩ : ∃ C, C = (bestF n L nw W D (begF n L 0) 0 false).2.1 := ⟨_, rfl⟩
  obtain ⟨B, hBB⟩ : ∃ B, B = begF n L 0 := ⟨_, rfl⟩
  rw [← hP, ← hC]
  rw [← hBB] at hbg hbeg hP hC
  have HP := Lib.hid hP
  have HC := Lib.hid hC
  have HBG := Lib.hid hbeg
  have HB := Lib.hid hB
  have HQ := Lib.hid hq
  clear mP mW hbest hP hC hBB hbeg hB hq hg
  go_enter Try.func26, Try.ntmps26
  go_wp2_with fail
  obtain ⟨w1, hw1⟩ : ∃ w1, w1 = (w.alloc (Obj.cells #[.slice aW nw cW, .int .i64 D] 60)).drew := ⟨_, rfl⟩
  have hO1 : Only sb w w1 := by rw [hw1]; exact ((Aside.refl _ _ _).alloc _).drew
  have hQ1 : Blk w1 sb #[.int .i64 k] 3 := by rw [hw1]; exact (HQ.out.alloc _).drew
  have hS1 : Blk w1 w.heap.size #[.slice aW nw cW, .int .i64 D] 60 := by rw [hw1]; exact (Blk.new _ _ _).drew
  have hs1 : w1.heap.size = w.heap.size + 1 := by rw [hw1]; simp
  have hB1 : Below w0.heap.size w0 w1 := by rw [hw1]; exact (HB.out.alloc HB.out.size _).drew
  refine wp_region_held_drew (S := BlC w.heap.size aW nw cW D) (by kernel_rfl) (by rw [← hw1]; exact BlC.of hS1) ?_
  intro hHeld
  rw [← hw1] at hHeld ⊢
  have HS1 := Lib.hid hs1
  clear hw1 hs1
  refine takeD (i := 0) (oi := { dst := some 8, op := _, type := _, pos := _, after := _, guard := _ }) (d := some 8) (v := ?vva8) rfl rfl (by kernel_rfl) (by kernel_rfl) (by kernel_rfl) ?dda8 (by rfl) ?yya8 hHeld ?rra8
  case dda8 => exact fun _ _ _ h => h
  case yya8 => (intro wx hSw; obtain ⟨y0, y1⟩ := hSw; go_simp; try (with_reducible rfl))
  try simp only [Act.put, List.setIfInBounds_toArray, List.set_cons_zero, List.set_cons_succ]
  refine takeD (i := 1) (oi := { dst := some 9, op := _, type := _, pos := _, after := _, guard := _ }) (d := some 9) (v := ?vva9) rfl rfl (by kernel_rfl) (by kernel_rfl) (by kernel_rfl) ?dda9 (by rfl) ?yya9 hHeld ?rra9
  case dda9 => exact fun _ _ _ h => h
  case yya9 => (intro wx hSw; obtain ⟨y0, y1⟩ := hSw; go_simp; try (with_reducible rfl))
  try simp only [Act.put, List.setIfInBounds_toArray, List.set_cons_zero, List.set_cons_succ]
  refine takeD (i := 2) (oi := { dst := some 10, op := _, type := _, pos := _, after := _, guard := _ }) (d := some 10) (v := ?vva10) rfl rfl (by kernel_rfl) (by kernel_rfl) (by kernel_rfl) ?dda10 (by rfl) ?yya10 hHeld ?rra10
  case dda10 => exact fun _ _ _ h => h
  case yya10 => (intro wx hSw; obtain ⟨y0, y1⟩ := hSw; go_simp; try (with_reducible rfl))
  try simp only [Act.put, List.setIfInBounds_toArray, List.set_cons_zero, List.set_cons_succ]
  refine takeD (i := 4) (oi := { dst := some 12, op := _, type := _, pos := _, after := _, guard := _ }) (d := some 12) (v := ?vva12) rfl rfl (by kernel_rfl) (by kernel_rfl) (by kernel_rfl) ?dda12 (by rfl) ?yya12 hHeld ?rra12
  case dda12 => exact fun _ _ _ h => h
  case yya12 => (intro wx hSw; obtain ⟨y0, y1⟩ := hSw; go_simp; try (with_reducible rfl))
  try simp only [Act.put, List.setIfInBounds_toArray, List.set_cons_zero, List.set_cons_succ]
  refine wpAnyH_ready (rs := [3]) (by kernel_rfl) (by simp) ?_
  refine AllReadyH.cons (o := { dst := some 11, op := _, type := _, pos := _, after := _, guard := _ }) rfl (fun K hK => ?_) AllReadyH.nil
  go_simp
  refine (HBG.out w1 hB1).mono ?_
  rintro e w2 ⟨rfl, rfl⟩
  refine hK.out _ _ (BlC.of hS1) (fun hHeld2 => ?_)
  clear hK K
  try simp only [Act.put, List.setIfInBounds_toArray, List.set_cons_zero, List.set_cons_succ]
  refine wpAnyH_ready (rs := [5]) (by kernel_rfl) (by simp) ?_
  refine AllReadyH.cons (o := { dst := some 13, op := _, type := _, pos := _, after := _, guard := _ }) rfl (fun K hK => ?_) AllReadyH.nil
  go_simp
  refine (HBE.out (n + 1 - B) B 0 false k w1 hbg.2 (Nat.le_refl _) (Nat.zero_le _) hB1 hQ1 hk0 hkM).mono ?_
  rintro e w3 ⟨k', hq3, hO3, hk1, hk2, hres⟩
  have hS3 : Blk w3 w.heap.size #[.slice aW nw cW, .int .i64 D] 60 := by
    have := HB.out.size
    have := HQ.out.lt
    exact hS1.block (hO3.block _ hS1.lt (by omega) (by simp [Value.ownBlock]))
  rw [← HP.out, ← HC.out, HS1.out] at hres
  rcases hres with ⟨hneg, rfl⟩ | ⟨hnn, v, rfl, hrow⟩
  · refine hK.out _ _ (BlC.of hS3) (fun hHeld3 => ?_)
    clear hK K
    try simp only [Act.put, List.setIfInBounds_toArray, List.set_cons_zero, List.set_cons_succ]
    refine takeD (i := 6) (oi := { dst := some 14, op := _, type := _, pos := _, after := _, guard := _ }) (d := some 14) (v := ?vvb14) rfl rfl (by kernel_rfl) (by kernel_rfl) (by kernel_rfl) ?ddb14 (by rfl) ?yyb14 hHeld3 ?rrb14
    case ddb14 => exact fun _ _ _ h => h
    case yyb14 => (intro wx hSw; obtain ⟨y0, y1⟩ := hSw; go_simp; try (with_reducible rfl))
    try simp only [Act.put, List.setIfInBounds_toArray, List.set_cons_zero, List.set_cons_succ]
    refine takeD (i := 7) (oi := { dst := some 15, op := _, type := _, pos := _, after := _, guard := _ }) (d := some 15) (v := ?vvb15) rfl rfl (by kernel_rfl) (by kernel_rfl) (by kernel_rfl) ?ddb15 (by rfl) ?yyb15 hHeld3 ?rrb15
    case ddb15 => exact fun _ _ _ h => h
    case yyb15 => (intro wx hSw; obtain ⟨y0, y1⟩ := hSw; go_simp; try (with_reducible rfl))
    try simp only [Act.put, List.setIfInBounds_toArray, List.set_cons_zero, List.set_cons_succ]
    refine takeD (i := 8) (oi := { dst := some 6, op := _, type := _, pos := _, after := _, guard := _ }) (d := some 6) (v := ?vvb6) rfl rfl (by kernel_rfl) (by kernel_rfl) (by kernel_rfl) ?ddb6 (by rfl) ?yyb6 hHeld3 ?rrb6
    case ddb6 => exact fun _ _ _ h => h
    case yyb6 => (intro wx hSw; obtain ⟨y0, y1⟩ := hSw; go_simp; try (with_reducible rfl))
    try simp only [Act.put, List.setIfInBounds_toArray, List.set_cons_zero, List.set_cons_succ]
    refine takeD (i := 9) (oi := { dst := some 7, op := _, type := _, pos := _, after := _, guard := _ }) (d := some 7) (v := ?vvb7) rfl rfl (by kernel_rfl) (by kernel_rfl) (by kernel_rfl) ?ddb7 (by rfl) ?yyb7 hHeld3 ?rrb7
    case ddb7 => exact fun _ _ _ h => h
    case yyb7 => (intro wx hSw; obtain ⟨y0, y1⟩ := hSw; go_simp; try (with_reducible rfl))
    try simp only [Act.put, List.setIfInBounds_toArray, List.set_cons_zero, List.set_cons_succ]
    refine wpAnyH_done (by kernel_rfl) ?_ _
    go_wp2_with fail
    go_ret2
    exact ⟨k', hq3, Aside.trans hO1 hO3, hk1, hk2, .inl ⟨hneg, rfl⟩⟩
  · refine hK.out _ _ (BlC.of hS3) (fun hHeld3 => ?_)
    clear hK K
    try simp only [Act.put, List.setIfInBounds_toArray, List.set_cons_zero, List.set_cons_succ]
    refine takeD (i := 6) (oi := { dst := some 14, op := _, type := _, pos := _, after := _, guard := _ }) (d := some 14) (v := ?vvc14) rfl rfl (by kernel_rfl) (by kernel_rfl) (by kernel_rfl) ?ddc14 (by rfl) ?yyc14 hHeld3 ?rrc14
    case ddc14 => exact fun _ _ _ h => h
    case yyc14 => (intro wx hSw; obtain ⟨y0, y1⟩ := hSw; go_simp; try (with_reducible rfl))
    try simp only [Act.put, List.setIfInBounds_toArray, List.set_cons_zero, List.set_cons_succ]
    refine takeD (i := 7) (oi := { dst := some 15, op := _, type := _, pos := _, after := _, guard := _ }) (d := some 15) (v := ?vvc15) rfl rfl (by kernel_rfl) (by kernel_rfl) (by kernel_rfl) ?ddc15 (by rfl) ?yyc15 hHeld3 ?rrc15
    case ddc15 => exact fun _ _ _ h => h
    case yyc15 => (intro wx hSw; obtain ⟨y0, y1⟩ := hSw; go_simp; try (with_reducible rfl))
    try simp only [Act.put, List.setIfInBounds_toArray, List.set_cons_zero, List.set_cons_succ]
    refine takeD (i := 8) (oi := { dst := some 6, op := _, type := _, pos := _, after := _, guard := _ }) (d := some 6) (v := ?vvc6) rfl rfl (by kernel_rfl) (by kernel_rfl) (by kernel_rfl) ?ddc6 (by rfl) ?yyc6 hHeld3 ?rrc6
    case ddc6 => exact fun _ _ _ h => h
    case yyc6 => (intro wx hSw; obtain ⟨y0, y1⟩ := hSw; go_simp; try (with_reducible rfl))
    try simp only [Act.put, List.setIfInBounds_toArray, List.set_cons_zero, List.set_cons_succ]
    refine takeD (i := 9) (oi := { dst := some 7, op := _, type := _, pos := _, after := _, guard := _ }) (d := some 7) (v := ?vvc7) rfl rfl (by kernel_rfl) (by kernel_rfl) (by kernel_rfl) ?ddc7 (by rfl) ?yyc7 hHeld3 ?rrc7
    case ddc7 => exact fun _ _ _ h => h
    case yyc7 => (intro wx hSw; obtain ⟨y0, y1⟩ := hSw; go_simp; try (with_reducible rfl))
    try simp only [Act.put, List.setIfInBounds_toArray, List.set_cons_zero, List.set_cons_succ]
    refine wpAnyH_done (by kernel_rfl) ?_ _
    go_wp2_with fail
    go_ret2
    exact ⟨k', hq3, Aside.trans hO1 hO3, hk1, hk2, .inr ⟨hnn, v, rfl, hrow.mono (by omega)⟩⟩
set_option maxHeartbeats 8000000 in
theorem beLaw_any (n0 : Nat) (L : Nat → Part) (nw : Nat) (W : Nat → Int) (D : Int) (aP aW : Option Addr) (cP cW : Nat) (w : World) (hp : CellsF w aP n0 6 (fun i => (L i).V)) (ha : IntsF w aW nw W) (hcP : n0 ≤ cP) (hcM : cP ≤ 1000000000000000) :
    Calls Try.prog 5 #[.slice aP n0 cP, .agg #[.slice aW nw cW, .int .i64 D]] w fun e w' => e = .returned (.bool true) ∧ Below w.heap.size w w' := by
  obtain ⟨n, hn⟩ : ∃ n, n = min n0 16 := ⟨_, rfl⟩
  have HP := Lib.hid (hp.take (show n ≤ n0 by omega))
  have HW := Lib.hid ha
  have hn100 : n ≤ 16 := by omega
  have hnc : n ≤ cP := by omega
  obtain ⟨E, hE⟩ : ∃ E, E = bothE n L nw W D := ⟨_, rfl⟩
  have HE := Lib.hid hE
  have HN := Lib.hid hn
  clear hp ha hE hn
  go_enter Try.func5, Try.ntmps5
  go_wp2_with fail
  obtain ⟨w1, hw1⟩ : ∃ w1, w1 = w.alloc (Obj.cells #[.slice aW nw cW, .int .i64 D] 60) := ⟨_, rfl⟩
  have hb1 : Below w.heap.size w w1 := by rw [hw1]; exact (Below.refl _ _).alloc (Nat.le_refl _) _
  have q1 : Blk w1 w.heap.size #[.slice aW nw cW, .int .i64 D] 60 := by rw [hw1]; exact Blk.new _ _ _
  rw [← hw1]
  clear hw1
  refine (broken_any w1).mono ?_
  rintro e w2 ⟨rfl, hb2⟩
  have q2 := Lib.hid (q1.below hb2 q1.lt)
  have HB2 := Lib.hid (hb1.trans (hb2.mono hb1.size))
  clear q1 hb1 hb2
  go_upto_if 16 with (fail)
  go_cut [0] from 12 (fun tv wx => tv = .slice aP n cP ∧ wx = w2)
  case first =>
    by_cases h100 : 16 < n0
    · have h100i : (16 : Int) < (n0 : Int) := by omega
      have HE' := Lib.hid (show n = 16 by rw [HN.out]; omega)
      have hcc : (16 : Int) ≤ (cP : Int) := by omega
      go_wp2_with fail
      go_meet
      exact ⟨by rw [HE'.out], rfl⟩
    · have h100i : ¬ (16 : Int) < (n0 : Int) := by omega
      have HE' := Lib.hid (show n = n0 by rw [HN.out]; omega)
      go_wp2_with fail
      go_meet
      exact ⟨by rw [HE'.out], rfl⟩
  case rest =>
  obtain ⟨rfl, rfl⟩ := hcut
  have s0 := q2.out.cell (i := 0) rfl
  have s1 := q2.out.cell (i := 1) rfl
  have zs := q2.out.lt
  by_cases h0 : E = 0
  · have HE0 := Lib.hid (show bothE n L nw W D = 0 by rw [← HE.out, h0])
    clear h0
    obtain ⟨P, hP⟩ : ∃ P, P = pathF n L nw W D (begF n L 0) 0 false := ⟨_, rfl⟩
    obtain ⟨C, hC⟩ : ∃ C, C = (bestF n L nw W D (begF n L 0) 0 false).2.1 := ⟨_, rfl⟩
    have HPP := Lib.hid hP
    have HCC := Lib.hid hC
    have hPl : P.length ≤ 1000 := by rw [hP]; exact Nat.le_trans (pathG_len _ _ _ _) (by omega)
    clear hP hC
    go_wp2_with fail
    refine (break_ok n L nw W D aP aW cP cW _ (HP.out.below (Nat.le_refl _) HB2.out) (HW.out.below (Nat.le_refl _) HB2.out) (by omega) HE0.out).mono ?_
    rintro e w3 ⟨v3, rfl, hrow3, hb3⟩
    rw [← HPP.out] at hrow3
    rw [← HCC.out]
    have q3 := Lib.hid (q2.out.below hb3 q2.out.lt)
    have HB3 := Lib.hid (HB2.out.trans (hb3.mono HB2.out.size))
    obtain ⟨a3, c3, rfl, _, _⟩ := RowL.slice hrow3
    have HL3 := Lib.hid (HasL.of hrow3)
    have HNE3 := Lib.hid (show ∀ g, a3 = some ⟨g, 0, none⟩ → 0 < P.length → g < w3.heap.size by
      intro g hg hp
      obtain ⟨g', _, h1, _, h2, _⟩ := RowL.at hrow3 hp
      injection h1 with h1
      rw [hg] at h1
      injection h1 with h1
      injection h1 with h1
      omega)
    clear s0 s1 zs q2 HB2 hb3 hrow3
    have s0 := q3.out.cell (i := 0) rfl
    have s1 := q3.out.cell (i := 1) rfl
    have zs := q3.out.lt
    go_wp2_with fail
    refine (lawErr_any n L nw W D aP aW cP cW _ (HP.out.below (Nat.le_refl _) HB3.out) (HW.out.below (Nat.le_refl _) HB3.out) (by omega)).mono ?_
    rintro e w4 ⟨rfl, hb4⟩
    rw [HE0.out]
    have q4 := q3.out.below hb4 q3.out.lt
    have HB4 := Lib.hid (HB3.out.trans (hb4.mono HB3.out.size))
    have HL4 := Lib.hid (HL3.out.below hb4)
    have hb4s := hb4.size
    clear s0 s1 zs q3 HB3 hb4 HL3
    go_upto_region 10 with fail
    obtain ⟨w5, hw5⟩ : ∃ w5, w5 = w4.alloc (Obj.cells #[.int .i64 100000] 3) := ⟨_, rfl⟩
    rw [← hw5]
    have hs5 : w5.heap.size = w4.heap.size + 1 := by rw [hw5]; simp
    have hb45 : Below w4.heap.size w4 w5 := by rw [hw5]; exact (Below.refl _ _).alloc (Nat.le_refl _) _
    have q5 := q4.below hb45 q4.lt
    have k5 : Blk w5 w4.heap.size #[.int .i64 100000] 3 := by rw [hw5]; exact Blk.new _ _ _
    have HB5 := Lib.hid (HB4.out.trans (hb45.mono HB4.out.size))
    have HL5 := Lib.hid (HL4.out.below hb45)
    obtain ⟨sb, hsb⟩ : ∃ sb, sb = w4.heap.size := ⟨_, rfl⟩
    rw [← hsb] at k5 ⊢
    have K5 := Lib.hid k5
    have Q5 := Lib.hid q5
    have hss : w.heap.size ≤ sb := by have := HB4.out.size; omega
    have hne : w.heap.size ≠ sb := by have := q4.lt; omega
    have hr5 := HL5.out
    have HNE := Lib.hid (show ∀ g, a3 = some ⟨g, 0, none⟩ → 0 < P.length → g ≠ sb by
      intro g hg hp
      have := HNE3.out g hg hp
      omega)
    clear hw5 hs5 hb45 q4 q5 k5 hsb HL4 HB4 HNE3 hb4s
    have s0 := Q5.out.cell (i := 0) rfl
    have s1 := Q5.out.cell (i := 1) rfl
    have zs := Q5.out.lt
    go_wp2_with fail
    refine (bestLines_any n L nw W D aP aW cP cW w sb HP.out HW.out (by omega) hnc hcM (both_good HE0.out) hss 100000 w5 HB5.out K5.out (by omega) (by omega)).mono ?_
    rintro e w6 ⟨k', hq6, hO6, hk1, hk2, hres⟩
    rw [← HPP.out, ← HCC.out] at hres
    have d9 := hq6.cell (i := 0) rfl
    have z9 := hq6.lt
    have HB6 := Lib.hid (HB5.out.trans (hO6.to_below HB5.out.size hss))
    clear s0 s1 zs hr5
    rcases hres with ⟨hneg, rfl⟩ | ⟨hnn, v6, rfl, hrow6⟩
    · go_wp2_with fail
      go_ret
      exact ⟨rfl, HB6.out⟩
    · have hnn' : ¬ k' < 0 := by omega
      have hL6 : HasL w6 a3 P := by
        intro hp
        obtain ⟨g, hg, hc⟩ := HL5.out hp
        exact ⟨g, hg, fun i u hu => (hO6.cell (lt_of_cell (hc i u hu)) (HNE.out g hg hp)).trans (hc i u hu)⟩
      obtain ⟨a6, c6, rfl, _, _⟩ := RowL.slice hrow6
      have HL6 := Lib.hid hL6
      have HR6 := Lib.hid (HasL.of hrow6)
      have pp : (C == C) = true := by simp
      clear hL6 hrow6 hO6 hq6
      go_wp2_with fail
      refine (sameLines_same P a3 a6 c3 c6 w6 HL6.out HR6.out (by omega)).mono ?_
      rintro e w7 ⟨rfl, hb7⟩
      go_wp2_with fail
      go_ret
      exact ⟨rfl, HB6.out.trans (hb7.mono HB6.out.size)⟩
  · have g0 : (E != 0) = true := by simpa using h0
    have g1 : (E == E) = true := by simp
    have HE0 := Lib.hid (show bothE n L nw W D ≠ 0 by rw [← HE.out]; exact h0)
    clear h0
    go_wp2_with fail
    refine (break_bad n L nw W D aP aW cP cW _ (HP.out.below (Nat.le_refl _) HB2.out) (HW.out.below (Nat.le_refl _) HB2.out) (by omega) HE0.out).mono ?_
    rintro e w3 ⟨rfl, hb3⟩
    rw [← HE.out]
    have q3 := Lib.hid (q2.out.below hb3 q2.out.lt)
    have HB3 := Lib.hid (HB2.out.trans (hb3.mono HB2.out.size))
    clear s0 s1 zs q2 HB2 hb3
    have s0 := q3.out.cell (i := 0) rfl
    have s1 := q3.out.cell (i := 1) rfl
    have zs := q3.out.lt
    go_wp2_with fail
    refine (lawErr_any n L nw W D aP aW cP cW _ (HP.out.below (Nat.le_refl _) HB3.out) (HW.out.below (Nat.le_refl _) HB3.out) (by omega)).mono ?_
    rintro e w4 ⟨rfl, hb4⟩
    rw [← HE.out]
    have HB4 := Lib.hid (HB3.out.trans (hb4.mono HB3.out.size))
    clear s0 s1 zs q3 HB3 hb4
    go_wp2_with fail
    go_ret
    exact ⟨rfl, HB4.out⟩
end Go.Proofs.Ytnigebnibikolaa.LN
