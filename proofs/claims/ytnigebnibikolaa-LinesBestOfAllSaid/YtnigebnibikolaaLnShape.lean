

/-
  CheckShape, the reference's ShapeError, and check.
-/
import Derived.Test.YtnigebnibikolaaLnCheck
import Derived.Test.YtnigebnibikolaaOwn
import Derived.Test.YtnigebnibikolaaBlk
import Derived.Test.YtnigebnibikolaaLnBestB
namespace Go.Law.Ln
open Go.Law
def allW (W : Nat → Int) : Nat → Bool
  | 0 => true
  | k + 1 => allW W k && decide (1 ≤ W k ∧ W k ≤ 100000)
def shapeE (nw : Nat) (W : Nat → Int) (D : Int) : Int :=
  if nw = 0 then 7 else if 20 < nw then 3 else if allW W nw = false then 2 else if 0 ≤ D ∧ D ≤ 1000000 then 0 else 2
theorem allW_bad {W : Nat → Int} {k : Nat} (hb : ¬ (1 ≤ W k ∧ W k ≤ 100000)) : ∀ {n : Nat}, k < n → allW W n = false
  | 0, h => by omega
  | n + 1, h => by
    simp only [allW]
    by_cases hk : k = n
    · subst hk; simp [hb]
    · rw [allW_bad hb (n := n) (by omega)]; rfl
theorem allW_step {W : Nat → Int} {k : Nat} (h : allW W k = true) (hb : 1 ≤ W k ∧ W k ≤ 100000) : allW W (k + 1) = true := by
  simp only [allW]; rw [h]; simpa using hb
theorem allW_at {W : Nat → Int} : ∀ {n : Nat}, allW W n = true → ∀ i, i < n → 1 ≤ W i ∧ W i ≤ 100000
  | 0, _, i, hi => by omega
  | n + 1, h, i, hi => by
    simp only [allW, Bool.and_eq_true, decide_eq_true_eq] at h
    by_cases hk : i = n
    · subst hk; exact h.2
    · exact allW_at h.1 i (by omega)
theorem shapeE_zero {nw : Nat} {W : Nat → Int} {D : Int} (h : shapeE nw W D = 0) : (1 ≤ nw ∧ nw ≤ 20) ∧ (∀ i, i < nw → 1 ≤ W i ∧ W i ≤ 100000) ∧ 0 ≤ D ∧ D ≤ 1000000 := by
  unfold shapeE at h
  by_cases h1 : nw = 0
  · rw [if_pos h1] at h; omega
  rw [if_neg h1] at h
  by_cases h2 : 20 < nw
  · rw [if_pos h2] at h; omega
  rw [if_neg h2] at h
  cases h3 : allW W nw
  · rw [if_pos h3] at h; omega
  rw [if_neg (by rw [h3]; decide)] at h
  by_cases h4 : 0 ≤ D ∧ D ≤ 1000000
  · exact ⟨by omega, allW_at h3, h4⟩
  · rw [if_neg h4] at h; omega
/-- the first error of parts and a shape -/
def bothE (n : Nat) (L : Nat → Part) (nw : Nat) (W : Nat → Int) (D : Int) : Int := if partsE n L ≠ 0 then partsE n L else shapeE nw W D
theorem both_good {n : Nat} {L : Nat → Part} {nw : Nat} {W : Nat → Int} {D : Int} (h : bothE n L nw W D = 0) : Good n L nw W D := by
  unfold bothE at h
  by_cases h1 : partsE n L = 0
  · rw [if_neg (by simpa using h1)] at h
    obtain ⟨h2, h3, h4⟩ := shapeE_zero h
    obtain ⟨k1, k2⟩ := partsE_zero h1
    exact ⟨k2, k1, by omega, h3, h4⟩
  · rw [if_pos h1] at h; exact absurd h h1
end Go.Law.Ln
namespace Go.Proofs.Ytnigebnibikolaa.LN
open Go.RowKit Go.Law Go.Law.Ln Ref
set_option linter.unusedVariables false
set_option linter.unusedSimpArgs false
set_option maxRecDepth 100000
set_option maxHeartbeats 4000000 in
theorem checkShape_any (nw : Nat) (W : Nat → Int) (D : Int) (a : Option Addr) (c : Nat) (w : World) (ha : IntsF w a nw W) :
    Calls Try.prog 31 #[.agg #[.slice a nw c, .int .i64 D]] w fun e w' => e = .returned (.int .i64 (shapeE nw W D)) ∧ Below w.heap.size w w' := by
  have HA := Lib.hid ha
  clear ha
  by_cases h0 : nw = 0
  · subst h0
    have HV := Lib.hid (show shapeE 0 W D = 7 by unfold shapeE; rw [if_pos rfl])
    go_enter Try.func31, Try.ntmps31
    go_wp2_with fail
    go_ret
    refine ⟨by rw [HV.out]; rfl, ?_⟩
    repeat' (with_reducible first | exact Below.refl _ _ | assumption | refine Below.setCell ?_ ?_ _ | refine Below.alloc ?_ ?_ _ | refine below_drewN ?_ _ | refine Below.drew ?_)
    all_goals first | omega | (simp; done) | (simp; omega)
  have g0 : ((nw : Int) == 0) = false := by simp; omega
  by_cases h1 : 20 < nw
  · have HV := Lib.hid (show shapeE nw W D = 3 by unfold shapeE; rw [if_neg h0, if_pos h1])
    have g1 : (20 : Int) < nw := by omega
    clear h0
    go_enter Try.func31, Try.ntmps31
    go_wp2_with fail
    go_ret
    refine ⟨by rw [HV.out]; rfl, ?_⟩
    repeat' (with_reducible first | exact Below.refl _ _ | assumption | refine Below.setCell ?_ ?_ _ | refine Below.alloc ?_ ?_ _ | refine below_drewN ?_ _ | refine Below.drew ?_)
    all_goals first | omega | (simp; done) | (simp; omega)
  have g1 : ¬ (20 : Int) < nw := by omega
  have HV := Lib.hid (show shapeE nw W D = if allW W nw = false then 2 else if 0 ≤ D ∧ D ≤ 1000000 then 0 else 2 by unfold shapeE; rw [if_neg h0, if_neg h1])
  clear h0
  go_enter Try.func31, Try.ntmps31
  go_wp2_with fail
  have q0 : Blk (w.alloc (Obj.cells #[.slice a nw c, .int .i64 D] 60)) w.heap.size #[.slice a nw c, .int .i64 D] 60 := Blk.new _ _ _
  have hb0 : Below w.heap.size w (w.alloc (Obj.cells #[.slice a nw c, .int .i64 D] 60)) := (Below.refl _ _).alloc (Nat.le_refl _) _
  go_loopw [16] (fun ix wr => ∃ k : Nat, ix = .int .i64 k ∧ k ≤ nw ∧ allW W k = true ∧ Below w.heap.size w wr ∧ Blk wr w.heap.size #[.slice a nw c, .int .i64 D] 60) (fun ix _ => nw - (intOf ix).toNat)
  case atStart => exact ⟨0, rfl, by omega, rfl, hb0, q0⟩
  case round =>
    obtain ⟨k, rfl, hk, hall, hbel, hq⟩ := hrel
    have HALL := Lib.hid hall
    have HQ := Lib.hid hq
    have s1 : wr.cell? ⟨w.heap.size, 1, none⟩ = some (.int .i64 D) := hq.cell (i := 1) rfl
    have zs := hq.lt
    clear hall hq q0 hb0
    by_cases hkn : k < nw
    · obtain ⟨b, off, rfl, hcell⟩ := HA.out.below (Nat.le_refl _) hbel (by omega)
      have d0 := hcell k hkn
      obtain ⟨X, hX⟩ : ∃ X, X = W k := ⟨_, rfl⟩
      rw [← hX] at d0
      have hsz := hbel.size
      clear hcell
      by_cases c1 : 1 ≤ X ∧ X ≤ 100000
      · have HS := Lib.hid (allW_step (W := W) (k := k) HALL.out (by rw [← hX]; exact c1))
        clear hX
        obtain ⟨c2, c3⟩ := c1
        go_wp2_with fail
        go_roundw
        case rel =>
          exact ⟨k + 1, by go_num, by omega, HS.out, hbel, HQ.out⟩
        case measure => simp [intOf]; omega
      · have HB := Lib.hid (allW_bad (W := W) (k := k) (by rw [← hX]; exact c1) hkn)
        replace HV := Lib.hid (show shapeE nw W D = 2 by rw [HV.out, if_pos HB.out])
        have c2 : X < 1 ∨ 100000 < X := by omega
        clear hX
        clear c1
        rcases c2 with c2 | c2 <;> go_wp2_with fail
        all_goals
          go_ret
          refine ⟨by rw [HV.out]; rfl, ?_⟩
          repeat' (with_reducible first | exact Below.refl _ _ | assumption | refine Below.setCell ?_ ?_ _ | refine Below.alloc ?_ ?_ _ | refine below_drewN ?_ _ | refine Below.drew ?_)
          all_goals first | omega | (simp; done) | (simp; omega)
    · obtain rfl : k = nw := by omega
      replace HV := Lib.hid (show shapeE k W D = if 0 ≤ D ∧ D ≤ 1000000 then 0 else 2 by rw [HV.out, if_neg (by rw [HALL.out]; decide)])
      by_cases c1 : 0 ≤ D ∧ D ≤ 1000000
      · replace HV := Lib.hid (show shapeE k W D = 0 by rw [HV.out, if_pos c1])
        obtain ⟨c2, c3⟩ := c1
        go_wp2_with fail
        go_ret
        exact ⟨by rw [HV.out]; rfl, hbel⟩
      · replace HV := Lib.hid (show shapeE k W D = 2 by rw [HV.out, if_neg c1])
        have c2 : D < 0 ∨ 1000000 < D := by omega
        clear c1
        rcases c2 with c2 | c2 <;> go_wp2_with fail
        all_goals
          go_ret
          exact ⟨by rw [HV.out]; rfl, hbel⟩
theorem checkBoth_any (n : Nat) (L : Nat → Part) (nw : Nat) (W : Nat → Int) (D : Int) (aP aW : Option Addr) (cP cW : Nat) (w : World) (hp : CellsF w aP n 6 (fun i => (L i).V)) (ha : IntsF w aW nw W) (hn : n ≤ 1000000000000000000) :
    Calls Try.prog 54 #[.slice aP n cP, .agg #[.slice aW nw cW, .int .i64 D]] w fun e w' => e = .returned (.int .i64 (bothE n L nw W D)) ∧ Below w.heap.size w w' := by
  have HA := Lib.hid ha
  have HP := Lib.hid hp
  obtain ⟨E, hE⟩ : ∃ E, E = partsE n L := ⟨_, rfl⟩
  have HE := Lib.hid hE
  by_cases h0 : E = 0
  · have HV := Lib.hid (show bothE n L nw W D = shapeE nw W D by unfold bothE; rw [if_neg (by rw [← hE]; simpa using h0)])
    subst h0
    clear hE ha hp
    go_enter Try.func54, Try.ntmps54
    go_wp2_with fail
    have hb0 : Below w.heap.size w (w.alloc (Obj.cells #[.slice aW nw cW, .int .i64 D] 60)) := (Below.refl _ _).alloc (Nat.le_refl _) _
    have q0 : Blk (w.alloc (Obj.cells #[.slice aW nw cW, .int .i64 D] 60)) w.heap.size #[.slice aW nw cW, .int .i64 D] 60 := Blk.new _ _ _
    obtain ⟨w1, hw1⟩ : ∃ w1, w1 = w.alloc (Obj.cells #[.slice aW nw cW, .int .i64 D] 60) := ⟨_, rfl⟩
    rw [← hw1] at hb0 q0 ⊢
    clear hw1
    refine (check_any n L aP cP w1 (HP.out.below (Nat.le_refl _) hb0) hn).mono ?_
    rintro e w2 ⟨rfl, hb2⟩
    rw [← HE.out]
    have q2 := q0.below hb2 q0.lt
    have hb02 := hb0.trans (hb2.mono hb0.size)
    have s0 : w2.cell? ⟨w.heap.size, 0, none⟩ = some (.slice aW nw cW) := q2.cell (i := 0) rfl
    have s1 : w2.cell? ⟨w.heap.size, 1, none⟩ = some (.int .i64 D) := q2.cell (i := 1) rfl
    have zs := q2.lt
    clear q0 hb2 hb0
    go_wp2_with fail
    refine (checkShape_any nw W D aW cW _ (HA.out.below (Nat.le_refl _) hb02)).mono ?_
    rintro e w3 ⟨rfl, hb3⟩
    rw [← HV.out]
    go_wp2_with fail
    go_ret
    exact ⟨rfl, hb02.trans (hb3.mono hb02.size)⟩
  · have HV := Lib.hid (show bothE n L nw W D = E by unfold bothE; rw [if_pos (by rw [← hE]; exact h0), hE])
    have g0 : (E != 0) = true := by simpa using h0
    clear hE ha hp h0
    go_enter Try.func54, Try.ntmps54
    go_wp2_with fail
    refine (check_any n L aP cP _ (HP.out.below (Nat.le_refl _) ((Below.refl _ _).alloc (Nat.le_refl _) _)) hn).mono ?_
    rintro e w2 ⟨rfl, hb2⟩
    rw [← HE.out]
    go_wp2_with fail
    go_ret
    exact ⟨by rw [HV.out]; rfl, ((Below.refl w.heap.size w).alloc (Nat.le_refl _) _).trans (hb2.mono (by simp))⟩
end Go.Proofs.Ytnigebnibikolaa.LN
