

/-
  LinesGreedyIsLate: the walk.
-/
import Derived.Test.YtnigebnibikolaaLnGreedy
import Derived.Test.YtnigebnibikolaaLnBroken
namespace Go.Proofs.Ytnigebnibikolaa.LN
open Go.RowKit Go.Law Go.Law.Ln
set_option linter.unusedVariables false
set_option linter.unusedSimpArgs false
set_option maxRecDepth 100000
/-- the box of a shape -/
def SBx (q : Nat) (aW : Option Addr) (nw cW : Nat) (D : Int) (w : World) : Prop := w.cell? ⟨q, 0, none⟩ = some (.slice aW nw cW) ∧ w.cell? ⟨q, 1, none⟩ = some (.int .i64 D)
theorem lateG_len {n : Nat} {L : Nat → Part} {nw : Nat} {W : Nat → Int} {D : Int} : ∀ (f a num : Nat) (flag : Bool), (lateG n L nw W D f a num flag).1.length ≤ f
  | 0, _, _, _ => Nat.le_refl _
  | f + 1, a, num, flag => by
    rw [lateG]
    split
    · simp
    · exact Nat.succ_le_succ (lateG_len f _ _ _)
theorem SBx.of {q : Nat} {aW : Option Addr} {nw cW : Nat} {D : Int} {w : World} {T : TypeId} (h : Blk w q #[.slice aW nw cW, .int .i64 D] T) : SBx q aW nw cW D w := ⟨h.cell (i := 0) rfl, h.cell (i := 1) rfl⟩
set_option maxHeartbeats 8000000 in
theorem grLaw_any (n0 : Nat) (L : Nat → Part) (nw : Nat) (W : Nat → Int) (D : Int) (aP aW : Option Addr) (cP cW : Nat) (w : World) (hp : CellsF w aP n0 6 (fun i => (L i).V)) (ha : IntsF w aW nw W) (hcP : n0 ≤ cP) (hcM : cP ≤ 1000000000000000) :
    Calls Try.prog 6 #[.slice aP n0 cP, .agg #[.slice aW nw cW, .int .i64 D]] w fun e w' => e = .returned (.bool true) ∧ Below w.heap.size w w' := by
  obtain ⟨n, hn⟩ : ∃ n, n = min n0 100 := ⟨_, rfl⟩
  have HP := Lib.hid (hp.take (show n ≤ n0 by omega))
  have HW := Lib.hid ha
  have hn100 : n ≤ 100 := by omega
  have hnc : n ≤ cP := by omega
  obtain ⟨E, hE⟩ : ∃ E, E = bothE n L nw W D := ⟨_, rfl⟩
  have HE := Lib.hid hE
  have HN := Lib.hid hn
  clear hp ha hE hn
  go_enter Try.func6, Try.ntmps6
  go_wp2_with fail
  obtain ⟨w1, hw1⟩ : ∃ w1, w1 = w.alloc (Obj.cells #[.slice aW nw cW, .int .i64 D] 60) := ⟨_, rfl⟩
  have hb1 : Below w.heap.size w w1 := by rw [hw1]; exact (Below.refl _ _).alloc (Nat.le_refl _) _
  have q1 : Blk w1 w.heap.size #[.slice aW nw cW, .int .i64 D] 60 := by rw [hw1]; exact Blk.new _ _ _
  rw [← hw1]
  clear hw1
  refine (broken_any w1).mono ?_
  rintro e w2 ⟨rfl, hb2⟩
  have q2 := Lib.hid (q1.below hb2 q1.lt)
  have HB2 := Lib.hid (hb1.trans (hb2.mono hb1.size))
  clear q1 hb1 hb2
  go_upto_if 15 with (fail)
  go_cut [0] from 13 (fun tv wx => tv = .slice aP n cP ∧ wx = w2)
  case first =>
    by_cases h100 : 100 < n0
    · have h100i : (100 : Int) < (n0 : Int) := by omega
      have HE' := Lib.hid (show n = 100 by rw [HN.out]; omega)
      have hcc : (100 : Int) ≤ (cP : Int) := by omega
      go_wp2_with fail
      go_meet
      exact ⟨by rw [HE'.out], rfl⟩
    · have h100i : ¬ (100 : Int) < (n0 : Int) := by omega
      have HE' := Lib.hid (show n = n0 by rw [HN.out]; omega)
      go_wp2_with fail
      go_meet
      exact ⟨by rw [HE'.out], rfl⟩
  case rest =>
  obtain ⟨rfl, rfl⟩ := hcut
  have s0 := q2.out.cell (i := 0) rfl
  have s1 := q2.out.cell (i := 1) rfl
  have zs := q2.out.lt
  by_cases h0 : E = 0
  · have HE0 := Lib.hid (show bothE n L nw W D = 0 by rw [← HE.out, h0])
    clear h0
    obtain ⟨P, hP⟩ : ∃ P, P = lateF n L nw W D (begF n L 0) 0 false := ⟨_, rfl⟩
    have HPP := Lib.hid hP
    clear hP
    have hlen : ∀ f a num flag, (lateG n L nw W D f a num flag).1.length ≤ f := lateG_len
    have hPl : P.1.length ≤ 1000 := by rw [HPP.out]; exact Nat.le_trans (hlen _ _ _ _) (by omega)
    clear hlen
    obtain ⟨P1, P2⟩ := P
    simp only at hPl
    go_wp2_with fail
    refine (greedy_ok n L nw W D aP aW cP cW _ (HP.out.below (Nat.le_refl _) HB2.out) (HW.out.below (Nat.le_refl _) HB2.out) (by omega) HE0.out).mono ?_
    rintro e w3 ⟨v3, rfl, hrow3, hb3⟩
    rw [← HPP.out] at hrow3
    rw [← HPP.out]
    simp only at hrow3
    have q3 := Lib.hid (q2.out.below hb3 q2.out.lt)
    have HB3 := Lib.hid (HB2.out.trans (hb3.mono HB2.out.size))
    obtain ⟨a3, c3, rfl, _, _⟩ := RowL.slice hrow3
    have HL3 := Lib.hid (HasL.of hrow3)
    clear s0 s1 zs q2 HB2 hb3 hrow3
    have s0 := q3.out.cell (i := 0) rfl
    have s1 := q3.out.cell (i := 1) rfl
    have zs := q3.out.lt
    go_wp2_with fail
    refine (lawErr_any n L nw W D aP aW cP cW _ (HP.out.below (Nat.le_refl _) HB3.out) (HW.out.below (Nat.le_refl _) HB3.out) (by omega)).mono ?_
    rintro e w4 ⟨rfl, hb4⟩
    rw [HE0.out]
    have q4 := Lib.hid (q3.out.below hb4 q3.out.lt)
    have HB4 := Lib.hid (HB3.out.trans (hb4.mono HB3.out.size))
    have HL4 := Lib.hid (HL3.out.below hb4)
    clear s0 s1 zs q3 HB3 hb4 HL3
    have s0 := q4.out.cell (i := 0) rfl
    have s1 := q4.out.cell (i := 1) rfl
    have zs := q4.out.lt
    go_wp2_with fail
    refine (lateR_any n L nw W D aP aW cP cW _ (HP.out.below (Nat.le_refl _) HB4.out) (HW.out.below (Nat.le_refl _) HB4.out) (by omega) hnc hcM (both_good HE0.out)).mono ?_
    rintro e w5 ⟨v5, rfl, hrow5, hb5⟩
    rw [← HPP.out] at hrow5
    rw [← HPP.out]
    simp only at hrow5
    have HB5 := Lib.hid (HB4.out.trans (hb5.mono HB4.out.size))
    have HL5 := Lib.hid (HL4.out.below hb5)
    obtain ⟨a5, c5, rfl, _, _⟩ := RowL.slice hrow5
    have HR5 := Lib.hid (HasL.of hrow5)
    have pp : (P2 == P2) = true := by simp
    clear s0 s1 zs q4 HB4 hb5 HL4 hrow5
    go_wp2_with fail
    refine (sameLines_same P1 a3 a5 c3 c5 w5 HL5.out HR5.out (by omega)).mono ?_
    rintro e w6 ⟨rfl, hb6⟩
    go_wp2_with fail
    go_ret
    exact ⟨rfl, HB5.out.trans (hb6.mono HB5.out.size)⟩
  · have g0 : (E != 0) = true := by simpa using h0
    have g1 : (E == E) = true := by simp
    have HE0 := Lib.hid (show bothE n L nw W D ≠ 0 by rw [← HE.out]; exact h0)
    clear h0
    go_wp2_with fail
    refine (greedy_bad n L nw W D aP aW cP cW _ (HP.out.below (Nat.le_refl _) HB2.out) (HW.out.below (Nat.le_refl _) HB2.out) (by omega) HE0.out).mono ?_
    rintro e w3 ⟨rfl, hb3⟩
    rw [← HE.out]
    have q3 := Lib.hid (q2.out.below hb3 q2.out.lt)
    have HB3 := Lib.hid (HB2.out.trans (hb3.mono HB2.out.size))
    clear s0 s1 zs q2 HB2 hb3
    have s0 := q3.out.cell (i := 0) rfl
    have s1 := q3.out.cell (i := 1) rfl
    have zs := q3.out.lt
    go_wp2_with fail
    refine (lawErr_any n L nw W D aP aW cP cW _ (HP.out.below (Nat.le_refl _) HB3.out) (HW.out.below (Nat.le_refl _) HB3.out) (by omega)).mono ?_
    rintro e w4 ⟨rfl, hb4⟩
    rw [← HE.out]
    have q4 := Lib.hid (q3.out.below hb4 q3.out.lt)
    have HB4 := Lib.hid (HB3.out.trans (hb4.mono HB3.out.size))
    clear s0 s1 zs q3 HB3 hb4
    go_wp2_with fail
    have hS4 : SBx w.heap.size aW nw cW D w4.drew := SBx.of q4.out.drew
    refine wp_region_held_drew (S := SBx w.heap.size aW nw cW D) (by kernel_rfl) hS4 ?_
    intro hHeld
    obtain ⟨w5, hw5⟩ : ∃ w5, w5 = w4.drew := ⟨_, rfl⟩
    have hb45 : Below w4.heap.size w4 w5 := by rw [hw5]; exact (Below.refl _ _).drew
    rw [← hw5] at hHeld ⊢
    have q5 := Lib.hid (q4.out.below hb45 q4.out.lt)
    have HB5 := Lib.hid (HB4.out.trans (hb45.mono HB4.out.size))
    clear hw5 hS4 q4 HB4 hb45
    obtain ⟨E1, hE1⟩ : ∃ y, y = partsE n L := ⟨_, rfl⟩
    obtain ⟨E2, hE2⟩ : ∃ y, y = shapeE nw W D := ⟨_, rfl⟩
    have g2 : (E1 == E1) = true := by simp
    have g3 : (E2 == E2) = true := by simp
    have HE1 := Lib.hid hE1
    have HE2 := Lib.hid hE2
    clear hE1 hE2
    refine takeD (i := 0) (oi := { dst := some 30, op := _, type := _, pos := _, after := _, guard := _ }) (d := some 30) (v := ?vva30) rfl rfl (by kernel_rfl) (by kernel_rfl) (by kernel_rfl) ?dda30 (by rfl) ?yya30 hHeld ?rra30
    case dda30 => exact fun _ _ _ h => h
    case yya30 => (intro wx hSw; obtain ⟨y0, y1⟩ := hSw; go_simp; try (with_reducible rfl))
    try simp only [Act.put, List.setIfInBounds_toArray, List.set_cons_zero, List.set_cons_succ]
    refine takeD (i := 1) (oi := { dst := some 31, op := _, type := _, pos := _, after := _, guard := _ }) (d := some 31) (v := ?vva31) rfl rfl (by kernel_rfl) (by kernel_rfl) (by kernel_rfl) ?dda31 (by rfl) ?yya31 hHeld ?rra31
    case dda31 => exact fun _ _ _ h => h
    case yya31 => (intro wx hSw; obtain ⟨y0, y1⟩ := hSw; go_simp; try (with_reducible rfl))
    try simp only [Act.put, List.setIfInBounds_toArray, List.set_cons_zero, List.set_cons_succ]
    refine takeD (i := 2) (oi := { dst := some 32, op := _, type := _, pos := _, after := _, guard := _ }) (d := some 32) (v := ?vva32) rfl rfl (by kernel_rfl) (by kernel_rfl) (by kernel_rfl) ?dda32 (by rfl) ?yya32 hHeld ?rra32
    case dda32 => exact fun _ _ _ h => h
    case yya32 => (intro wx hSw; obtain ⟨y0, y1⟩ := hSw; go_simp; try (with_reducible rfl))
    try simp only [Act.put, List.setIfInBounds_toArray, List.set_cons_zero, List.set_cons_succ]
    refine takeD (i := 3) (oi := { dst := some 33, op := _, type := _, pos := _, after := _, guard := _ }) (d := some 33) (v := ?vva33) rfl rfl (by kernel_rfl) (by kernel_rfl) (by kernel_rfl) ?dda33 (by rfl) ?yya33 hHeld ?rra33
    case dda33 => exact fun _ _ _ h => h
    case yya33 => (intro wx hSw; obtain ⟨y0, y1⟩ := hSw; go_simp; try (with_reducible rfl))
    try simp only [Act.put, List.setIfInBounds_toArray, List.set_cons_zero, List.set_cons_succ]
    refine takeD (i := 4) (oi := { dst := some 34, op := _, type := _, pos := _, after := _, guard := _ }) (d := some 34) (v := ?vva34) rfl rfl (by kernel_rfl) (by kernel_rfl) (by kernel_rfl) ?dda34 (by rfl) ?yya34 hHeld ?rra34
    case dda34 => exact fun _ _ _ h => h
    case yya34 => (intro wx hSw; obtain ⟨y0, y1⟩ := hSw; go_simp; try (with_reducible rfl))
    try simp only [Act.put, List.setIfInBounds_toArray, List.set_cons_zero, List.set_cons_succ]
    refine takeD (i := 5) (oi := { dst := some 35, op := _, type := _, pos := _, after := _, guard := _ }) (d := some 35) (v := ?vva35) rfl rfl (by kernel_rfl) (by kernel_rfl) (by kernel_rfl) ?dda35 (by rfl) ?yya35 hHeld ?rra35
    case dda35 => exact fun _ _ _ h => h
    case yya35 => (intro wx hSw; obtain ⟨y0, y1⟩ := hSw; go_simp; try (with_reducible rfl))
    try simp only [Act.put, List.setIfInBounds_toArray, List.set_cons_zero, List.set_cons_succ]
    refine takeD (i := 6) (oi := { dst := some 36, op := _, type := _, pos := _, after := _, guard := _ }) (d := some 36) (v := ?vva36) rfl rfl (by kernel_rfl) (by kernel_rfl) (by kernel_rfl) ?dda36 (by rfl) ?yya36 hHeld ?rra36
    case dda36 => exact fun _ _ _ h => h
    case yya36 => (intro wx hSw; obtain ⟨y0, y1⟩ := hSw; go_simp; try (with_reducible rfl))
    try simp only [Act.put, List.setIfInBounds_toArray, List.set_cons_zero, List.set_cons_succ]
    refine takeD (i := 7) (oi := { dst := some 37, op := _, type := _, pos := _, after := _, guard := _ }) (d := some 37) (v := ?vva37) rfl rfl (by kernel_rfl) (by kernel_rfl) (by kernel_rfl) ?dda37 (by rfl) ?yya37 hHeld ?rra37
    case dda37 => exact fun _ _ _ h => h
    case yya37 => (intro wx hSw; obtain ⟨y0, y1⟩ := hSw; go_simp; try (with_reducible rfl))
    try simp only [Act.put, List.setIfInBounds_toArray, List.set_cons_zero, List.set_cons_succ]
    refine takeD (i := 8) (oi := { dst := some 38, op := _, type := _, pos := _, after := _, guard := _ }) (d := some 38) (v := ?vva38) rfl rfl (by kernel_rfl) (by kernel_rfl) (by kernel_rfl) ?dda38 (by rfl) ?yya38 hHeld ?rra38
    case dda38 => exact fun _ _ _ h => h
    case yya38 => (intro wx hSw; obtain ⟨y0, y1⟩ := hSw; go_simp; try (with_reducible rfl))
    try simp only [Act.put, List.setIfInBounds_toArray, List.set_cons_zero, List.set_cons_succ]
    refine takeD (i := 9) (oi := { dst := some 39, op := _, type := _, pos := _, after := _, guard := _ }) (d := some 39) (v := ?vva39) rfl rfl (by kernel_rfl) (by kernel_rfl) (by kernel_rfl) ?dda39 (by rfl) ?yya39 hHeld ?rra39
    case dda39 => exact fun _ _ _ h => h
    case yya39 => (intro wx hSw; obtain ⟨y0, y1⟩ := hSw; go_simp; try (with_reducible rfl))
    try simp only [Act.put, List.setIfInBounds_toArray, List.set_cons_zero, List.set_cons_succ]
    refine takeD (i := 10) (oi := { dst := some 40, op := _, type := _, pos := _, after := _, guard := _ }) (d := some 40) (v := ?vva40) rfl rfl (by kernel_rfl) (by kernel_rfl) (by kernel_rfl) ?dda40 (by rfl) ?yya40 hHeld ?rra40
    case dda40 => exact fun _ _ _ h => h
    case yya40 => (intro wx hSw; obtain ⟨y0, y1⟩ := hSw; go_simp; try (with_reducible rfl))
    try simp only [Act.put, List.setIfInBounds_toArray, List.set_cons_zero, List.set_cons_succ]
    refine takeD (i := 11) (oi := { dst := some 41, op := _, type := _, pos := _, after := _, guard := _ }) (d := some 41) (v := ?vva41) rfl rfl (by kernel_rfl) (by kernel_rfl) (by kernel_rfl) ?dda41 (by rfl) ?yya41 hHeld ?rra41
    case dda41 => exact fun _ _ _ h => h
    case yya41 => (intro wx hSw; obtain ⟨y0, y1⟩ := hSw; go_simp; try (with_reducible rfl))
    try simp only [Act.put, List.setIfInBounds_toArray, List.set_cons_zero, List.set_cons_succ]
    refine takeD (i := 12) (oi := { dst := some 42, op := _, type := _, pos := _, after := _, guard := _ }) (d := some 42) (v := ?vva42) rfl rfl (by kernel_rfl) (by kernel_rfl) (by kernel_rfl) ?dda42 (by rfl) ?yya42 hHeld ?rra42
    case dda42 => exact fun _ _ _ h => h
    case yya42 => (intro wx hSw; obtain ⟨y0, y1⟩ := hSw; go_simp; try (with_reducible rfl))
    try simp only [Act.put, List.setIfInBounds_toArray, List.set_cons_zero, List.set_cons_succ]
    refine takeD (i := 13) (oi := { dst := some 43, op := _, type := _, pos := _, after := _, guard := _ }) (d := some 43) (v := ?vva43) rfl rfl (by kernel_rfl) (by kernel_rfl) (by kernel_rfl) ?dda43 (by rfl) ?yya43 hHeld ?rra43
    case dda43 => exact fun _ _ _ h => h
    case yya43 => (intro wx hSw; obtain ⟨y0, y1⟩ := hSw; go_simp; try (with_reducible rfl))
    try simp only [Act.put, List.setIfInBounds_toArray, List.set_cons_zero, List.set_cons_succ]
    refine takeD (i := 15) (oi := { dst := some 45, op := _, type := _, pos := _, after := _, guard := _ }) (d := some 45) (v := ?vva45) rfl rfl (by kernel_rfl) (by kernel_rfl) (by kernel_rfl) ?dda45 (by rfl) ?yya45 hHeld ?rra45
    case dda45 => exact fun _ _ _ h => h
    case yya45 => (intro wx hSw; obtain ⟨y0, y1⟩ := hSw; go_simp; try (with_reducible rfl))
    try simp only [Act.put, List.setIfInBounds_toArray, List.set_cons_zero, List.set_cons_succ]
    refine wpAnyH_ready (rs := [14]) (by kernel_rfl) (by simp) ?_
    refine AllReadyH.cons (o := { dst := some 44, op := _, type := _, pos := _, after := _, guard := _ }) rfl (fun K hK => ?_) AllReadyH.nil
    go_simp
    refine (check_any n L aP cP _ (HP.out.below (Nat.le_refl _) HB5.out) (by omega)).mono ?_
    rintro e w6 ⟨rfl, hb6⟩
    rw [← HE1.out]
    have q6 := Lib.hid (q5.out.below hb6 q5.out.lt)
    have HB6 := Lib.hid (HB5.out.trans (hb6.mono HB5.out.size))
    refine hK.out _ _ (SBx.of q6.out) (fun hHeld6 => ?_)
    clear hK K q5 HB5 hb6
    try simp only [Act.put, List.setIfInBounds_toArray, List.set_cons_zero, List.set_cons_succ]
    refine wpAnyH_ready (rs := [16]) (by kernel_rfl) (by simp) ?_
    refine AllReadyH.cons (o := { dst := some 46, op := _, type := _, pos := _, after := _, guard := _ }) rfl (fun K hK => ?_) AllReadyH.nil
    go_simp
    refine (partsError_any n L aP cP _ (HP.out.below (Nat.le_refl _) HB6.out) (by omega)).mono ?_
    rintro e w7 ⟨rfl, hb7⟩
    rw [← HE1.out]
    have q7 := Lib.hid (q6.out.below hb7 q6.out.lt)
    have HB7 := Lib.hid (HB6.out.trans (hb7.mono HB6.out.size))
    refine hK.out _ _ (SBx.of q7.out) (fun hHeld7 => ?_)
    clear hK K q6 HB6 hb7
    try simp only [Act.put, List.setIfInBounds_toArray, List.set_cons_zero, List.set_cons_succ]
    refine takeD (i := 17) (oi := { dst := some 47, op := _, type := _, pos := _, after := _, guard := _ }) (d := some 47) (v := ?vvb47) rfl rfl (by kernel_rfl) (by kernel_rfl) (by kernel_rfl) ?ddb47 (by rfl) ?yyb47 hHeld7 ?rrb47
    case ddb47 => exact fun _ _ _ h => h
    case yyb47 => (intro wx hSw; obtain ⟨y0, y1⟩ := hSw; go_simp; try (with_reducible rfl))
    try simp only [Act.put, List.setIfInBounds_toArray, List.set_cons_zero, List.set_cons_succ]
    refine takeD (i := 18) (oi := { dst := some 48, op := _, type := _, pos := _, after := _, guard := _ }) (d := some 48) (v := ?vvb48) rfl rfl (by kernel_rfl) (by kernel_rfl) (by kernel_rfl) ?ddb48 (by rfl) ?yyb48 hHeld7 ?rrb48
    case ddb48 => exact fun _ _ _ h => h
    case yyb48 => (intro wx hSw; obtain ⟨y0, y1⟩ := hSw; go_simp; try (with_reducible rfl))
    try simp only [Act.put, List.setIfInBounds_toArray, List.set_cons_zero, List.set_cons_succ]
    refine takeD (i := 19) (oi := { dst := some 49, op := _, type := _, pos := _, after := _, guard := _ }) (d := some 49) (v := ?vvb49) rfl rfl (by kernel_rfl) (by kernel_rfl) (by kernel_rfl) ?ddb49 (by rfl) ?yyb49 hHeld7 ?rrb49
    case ddb49 => exact fun _ _ _ h => h
    case yyb49 => (intro wx hSw; obtain ⟨y0, y1⟩ := hSw; go_simp; try (with_reducible rfl))
    try simp only [Act.put, List.setIfInBounds_toArray, List.set_cons_zero, List.set_cons_succ]
    refine takeD (i := 20) (oi := { dst := some 50, op := _, type := _, pos := _, after := _, guard := _ }) (d := some 50) (v := ?vvb50) rfl rfl (by kernel_rfl) (by kernel_rfl) (by kernel_rfl) ?ddb50 (by rfl) ?yyb50 hHeld7 ?rrb50
    case ddb50 => exact fun _ _ _ h => h
    case yyb50 => (intro wx hSw; obtain ⟨y0, y1⟩ := hSw; go_simp; try (with_reducible rfl))
    try simp only [Act.put, List.setIfInBounds_toArray, List.set_cons_zero, List.set_cons_succ]
    refine takeD (i := 22) (oi := { dst := some 52, op := _, type := _, pos := _, after := _, guard := _ }) (d := some 52) (v := ?vvb52) rfl rfl (by kernel_rfl) (by kernel_rfl) (by kernel_rfl) ?ddb52 (by rfl) ?yyb52 hHeld7 ?rrb52
    case ddb52 => exact fun _ _ _ h => h
    case yyb52 => (intro wx hSw; obtain ⟨y0, y1⟩ := hSw; go_simp; try (with_reducible rfl))
    try simp only [Act.put, List.setIfInBounds_toArray, List.set_cons_zero, List.set_cons_succ]
    refine wpAnyH_ready (rs := [21]) (by kernel_rfl) (by simp) ?_
    refine AllReadyH.cons (o := { dst := some 51, op := _, type := _, pos := _, after := _, guard := _ }) rfl (fun K hK => ?_) AllReadyH.nil
    go_simp
    refine (checkShape_any nw W D aW cW _ (HW.out.below (Nat.le_refl _) HB7.out)).mono ?_
    rintro e w8 ⟨rfl, hb8⟩
    rw [← HE2.out]
    have q8 := Lib.hid (q7.out.below hb8 q7.out.lt)
    have HB8 := Lib.hid (HB7.out.trans (hb8.mono HB7.out.size))
    refine hK.out _ _ (SBx.of q8.out) (fun hHeld8 => ?_)
    clear hK K q7 HB7 hb8
    try simp only [Act.put, List.setIfInBounds_toArray, List.set_cons_zero, List.set_cons_succ]
    refine wpAnyH_ready (rs := [23]) (by kernel_rfl) (by simp) ?_
    refine AllReadyH.cons (o := { dst := some 53, op := _, type := _, pos := _, after := _, guard := _ }) rfl (fun K hK => ?_) AllReadyH.nil
    go_simp
    refine (shapeError_any nw W D aW cW _ (HW.out.below (Nat.le_refl _) HB8.out)).mono ?_
    rintro e w9 ⟨rfl, hb9⟩
    rw [← HE2.out]
    have q9 := Lib.hid (q8.out.below hb9 q8.out.lt)
    have HB9 := Lib.hid (HB8.out.trans (hb9.mono HB8.out.size))
    refine hK.out _ _ (SBx.of q9.out) (fun hHeld9 => ?_)
    clear hK K q8 HB8 hb9
    try simp only [Act.put, List.setIfInBounds_toArray, List.set_cons_zero, List.set_cons_succ]
    refine takeD (i := 24) (oi := { dst := some 54, op := _, type := _, pos := _, after := _, guard := _ }) (d := some 54) (v := ?vvc54) rfl rfl (by kernel_rfl) (by kernel_rfl) (by kernel_rfl) ?ddc54 (by rfl) ?yyc54 hHeld9 ?rrc54
    case ddc54 => exact fun _ _ _ h => h
    case yyc54 => (intro wx hSw; obtain ⟨y0, y1⟩ := hSw; go_simp; try (with_reducible rfl))
    try simp only [Act.put, List.setIfInBounds_toArray, List.set_cons_zero, List.set_cons_succ]
    refine takeD (i := 25) (oi := { dst := some 55, op := _, type := _, pos := _, after := _, guard := _ }) (d := some 55) (v := ?vvc55) rfl rfl (by kernel_rfl) (by kernel_rfl) (by kernel_rfl) ?ddc55 (by rfl) ?yyc55 hHeld9 ?rrc55
    case ddc55 => exact fun _ _ _ h => h
    case yyc55 => (intro wx hSw; obtain ⟨y0, y1⟩ := hSw; go_simp; try (with_reducible rfl))
    try simp only [Act.put, List.setIfInBounds_toArray, List.set_cons_zero, List.set_cons_succ]
    refine takeD (i := 26) (oi := { dst := some 4, op := _, type := _, pos := _, after := _, guard := _ }) (d := some 4) (v := ?vvc4) rfl rfl (by kernel_rfl) (by kernel_rfl) (by kernel_rfl) ?ddc4 (by rfl) ?yyc4 hHeld9 ?rrc4
    case ddc4 => exact fun _ _ _ h => h
    case yyc4 => (intro wx hSw; obtain ⟨y0, y1⟩ := hSw; go_simp; try (with_reducible rfl))
    try simp only [Act.put, List.setIfInBounds_toArray, List.set_cons_zero, List.set_cons_succ]
    refine wpAnyH_done (by kernel_rfl) ?_ _
    go_wp2_with fail
    go_ret
    exact ⟨rfl, HB9.out⟩
end Go.Proofs.Ytnigebnibikolaa.LN
