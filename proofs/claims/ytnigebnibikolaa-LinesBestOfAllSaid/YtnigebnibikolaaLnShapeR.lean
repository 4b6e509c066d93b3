

/-
  The reference's ShapeError.
-/
import Derived.Test.YtnigebnibikolaaLnShape
namespace Go.Proofs.Ytnigebnibikolaa.LN
open Go.RowKit Go.Law Go.Law.Ln Ref
set_option linter.unusedVariables false
set_option linter.unusedSimpArgs false
set_option maxRecDepth 100000
set_option maxHeartbeats 4000000 in
theorem shapeError_any (nw : Nat) (W : Nat → Int) (D : Int) (a : Option Addr) (c : Nat) (w : World) (ha : IntsF w a nw W) :
    Calls Try.prog 32 #[.agg #[.slice a nw c, .int .i64 D]] w fun e w' => e = .returned (.int .i64 (shapeE nw W D)) ∧ Below w.heap.size w w' := by
  have HA := Lib.hid ha
  clear ha
  by_cases h0 : nw = 0
  · subst h0
    have HV := Lib.hid (show shapeE 0 W D = 7 by unfold shapeE; rw [if_pos rfl])
    go_enter Try.func32, Try.ntmps32
    go_wp2_with fail
    go_ret
    refine ⟨by rw [HV.out]; rfl, ?_⟩
    repeat' (with_reducible first | exact Below.refl _ _ | assumption | refine Below.setCell ?_ ?_ _ | refine Below.alloc ?_ ?_ _ | refine below_drewN ?_ _ | refine Below.drew ?_)
    all_goals first | omega | (simp; done) | (simp; omega)
  have g0 : ((nw : Int) == 0) = false := by simp; omega
  by_cases h1 : 20 < nw
  · have HV := Lib.hid (show shapeE nw W D = 3 by unfold shapeE; rw [if_neg h0, if_pos h1])
    have g1 : (20 : Int) < nw := by omega
    clear h0
    go_enter Try.func32, Try.ntmps32
    go_wp2_with fail
    go_ret
    refine ⟨by rw [HV.out]; rfl, ?_⟩
    repeat' (with_reducible first | exact Below.refl _ _ | assumption | refine Below.setCell ?_ ?_ _ | refine Below.alloc ?_ ?_ _ | refine below_drewN ?_ _ | refine Below.drew ?_)
    all_goals first | omega | (simp; done) | (simp; omega)
  have g1 : ¬ (20 : Int) < nw := by omega
  have HV := Lib.hid (show shapeE nw W D = if allW W nw = false then 2 else if 0 ≤ D ∧ D ≤ 1000000 then 0 else 2 by unfold shapeE; rw [if_neg h0, if_neg h1])
  clear h0
  go_enter Try.func32, Try.ntmps32
  go_wp2_with fail
  have q0 : Blk (w.alloc (Obj.cells #[.slice a nw c, .int .i64 D] 60)) w.heap.size #[.slice a nw c, .int .i64 D] 60 := Blk.new _ _ _
  have hb0 : Below w.heap.size w (w.alloc (Obj.cells #[.slice a nw c, .int .i64 D] 60)) := (Below.refl _ _).alloc (Nat.le_refl _) _
  go_loopw [18] (fun ix wr => ∃ k : Nat, ix = .int .i64 k ∧ k ≤ nw ∧ allW W k = true ∧ Below w.heap.size w wr ∧ Blk wr w.heap.size #[.slice a nw c, .int .i64 D] 60) (fun ix _ => nw - (intOf ix).toNat)
  case atStart => exact ⟨0, rfl, by omega, rfl, hb0, q0⟩
  case round =>
    obtain ⟨k, rfl, hk, hall, hbel, hq⟩ := hrel
    have HALL := Lib.hid hall
    have HQ := Lib.hid hq
    have s1 : wr.cell? ⟨w.heap.size, 1, none⟩ = some (.int .i64 D) := hq.cell (i := 1) rfl
    have zs := hq.lt
    clear hall hq q0 hb0
    by_cases hkn : k < nw
    · obtain ⟨b, off, rfl, hcell⟩ := HA.out.below (Nat.le_refl _) hbel (by omega)
      have d0 := hcell k hkn
      obtain ⟨X, hX⟩ : ∃ X, X = W k := ⟨_, rfl⟩
      rw [← hX] at d0
      have hsz := hbel.size
      clear hcell
      by_cases c1 : 1 ≤ X ∧ X ≤ 100000
      · have HS := Lib.hid (allW_step (W := W) (k := k) HALL.out (by rw [← hX]; exact c1))
        clear hX
        have jj : inB X 1 100000 = true := inB_true.2 c1
        clear c1
        go_wp2_with (go_at_call 16; refine (in_any _ _ _ _).mono ?_; rintro e w9 ⟨rfl, rfl⟩)
        go_roundw
        case rel =>
          exact ⟨k + 1, by go_num, by omega, HS.out, hbel, HQ.out⟩
        case measure => simp [intOf]; omega
      · have HB := Lib.hid (allW_bad (W := W) (k := k) (by rw [← hX]; exact c1) hkn)
        replace HV := Lib.hid (show shapeE nw W D = 2 by rw [HV.out, if_pos HB.out])
        have c2 : X < 1 ∨ 100000 < X := by omega
        clear hX
        have jj : inB X 1 100000 = false := inB_false.2 c1
        clear c1 c2
        go_wp2_with (go_at_call 16; refine (in_any _ _ _ _).mono ?_; rintro e w9 ⟨rfl, rfl⟩)
        all_goals
          go_ret
          refine ⟨by rw [HV.out]; rfl, ?_⟩
          repeat' (with_reducible first | exact Below.refl _ _ | assumption | refine Below.setCell ?_ ?_ _ | refine Below.alloc ?_ ?_ _ | refine below_drewN ?_ _ | refine Below.drew ?_)
          all_goals first | omega | (simp; done) | (simp; omega)
    · obtain rfl : k = nw := by omega
      replace HV := Lib.hid (show shapeE k W D = if 0 ≤ D ∧ D ≤ 1000000 then 0 else 2 by rw [HV.out, if_neg (by rw [HALL.out]; decide)])
      by_cases c1 : 0 ≤ D ∧ D ≤ 1000000
      · replace HV := Lib.hid (show shapeE k W D = 0 by rw [HV.out, if_pos c1])
        have jj : inB D 0 1000000 = true := inB_true.2 c1
        clear c1
        go_wp2_with (go_at_call 16; refine (in_any _ _ _ _).mono ?_; rintro e w9 ⟨rfl, rfl⟩)
        go_ret
        exact ⟨by rw [HV.out]; rfl, hbel⟩
      · replace HV := Lib.hid (show shapeE k W D = 2 by rw [HV.out, if_neg c1])
        have c2 : D < 0 ∨ 1000000 < D := by omega
        have jj : inB D 0 1000000 = false := inB_false.2 c1
        clear c1 c2
        go_wp2_with (go_at_call 16; refine (in_any _ _ _ _).mono ?_; rintro e w9 ⟨rfl, rfl⟩)
        all_goals
          go_ret
          exact ⟨by rw [HV.out]; rfl, hbel⟩
end Go.Proofs.Ytnigebnibikolaa.LN
