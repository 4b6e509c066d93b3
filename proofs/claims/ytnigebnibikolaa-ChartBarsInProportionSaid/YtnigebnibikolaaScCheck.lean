
/-
  scale.Check and scale.Place.
-/
import Derived.Test.YtnigebnibikolaaScFloor
namespace Go.Proofs.Ytnigebnibikolaa.SP
open Go.RowKit Go.Law Go.Law.Scale SF
set_option linter.unusedVariables false
set_option linter.unusedSimpArgs false
set_option maxRecDepth 100000

def InR (lo hi st : Int) : Prop := (-4000000000000 ≤ lo ∧ lo ≤ 4000000000000) ∧ (-4000000000000 ≤ hi ∧ hi ≤ 4000000000000) ∧ 1 ≤ st ∧ st ≤ 4000000000000
instance (lo hi st : Int) : Decidable (InR lo hi st) := by unfold InR; infer_instance
/-- the first error of a scale -/
def chk (lo hi st : Int) : Int :=
  if ¬ InR lo hi st then 2 else if hi ≤ lo then 5 else if (hi - lo) % st ≠ 0 ∨ lo / st * st ≠ lo then 4 else if 500 < (hi - lo) / st then 3 else 0
set_option maxHeartbeats 4000000 in
theorem check_any (lo hi st : Int) (w : World) :
    Calls Try.prog 15 #[.agg #[.int .i64 lo, .int .i64 hi, .int .i64 st]] w fun e w' => e = .returned (.int .i64 (chk lo hi st)) ∧ Below w.heap.size w w' := by
  by_cases c1 : InR lo hi st
  · have h := c1
    unfold InR at h
    by_cases c2 : hi ≤ lo
    · have HK := Lib.hid (show chk lo hi st = 5 by unfold chk; rw [if_neg (by simpa using c1), if_pos c2])
      clear c1
      go_enter Try.func15, Try.ntmps15
      go_wp2
      go_ret
      refine ⟨by rw [HK.out]; rfl, ?_⟩
      repeat' (with_reducible first | exact Below.refl _ _ | assumption | refine Below.setCell ?_ ?_ _ | refine Below.alloc ?_ ?_ _ | refine below_drewN ?_ _ | refine Below.drew ?_)
      all_goals first | omega | (simp; done) | (simp; omega)
    · have hm := Int.emod_nonneg (hi - lo) (show st ≠ 0 by omega)
      have hq := abs_bd (a := hi - lo) (s := st) (m := 8000000000000) (by omega) (by omega) (by omega) (by omega)
      have hq0 := Int.ediv_nonneg (show 0 ≤ hi - lo by omega) (show 0 ≤ st by omega)
      have hA := A_bd (low := lo) (s := st) (by omega)
      by_cases c3 : (hi - lo) % st = 0
      · have c3' : ((hi - lo) % st != 0) = false := by simp [c3]
        by_cases c4 : lo / st * st = lo
        · have c4' : (lo / st * st != lo) = false := by simp [c4]
          by_cases c5 : 500 < (hi - lo) / st
          · have HK := Lib.hid (show chk lo hi st = 3 by unfold chk; rw [if_neg (by simpa using c1), if_neg c2, if_neg (by simp [c3, c4]), if_pos c5])
            clear c1 c3 c4
            go_enter Try.func15, Try.ntmps15
            go_wp2
            go_quiet ((go_at_call 49; exact quiet_call (floor_any _ _ _ (by omega) (by omega))))
            go_wp2
            go_ret
            refine ⟨by rw [HK.out]; rfl, ?_⟩
            repeat' (with_reducible first | exact Below.refl _ _ | assumption | refine Below.setCell ?_ ?_ _ | refine Below.alloc ?_ ?_ _ | refine below_drewN ?_ _ | refine Below.drew ?_)
            all_goals first | omega | (simp; done) | (simp; omega)
          · have HK := Lib.hid (show chk lo hi st = 0 by unfold chk; rw [if_neg (by simpa using c1), if_neg c2, if_neg (by simp [c3, c4]), if_neg c5])
            clear c1 c3 c4
            go_enter Try.func15, Try.ntmps15
            go_wp2
            go_quiet ((go_at_call 49; exact quiet_call (floor_any _ _ _ (by omega) (by omega))))
            go_wp2
            go_ret
            refine ⟨by rw [HK.out]; rfl, ?_⟩
            repeat' (with_reducible first | exact Below.refl _ _ | assumption | refine Below.setCell ?_ ?_ _ | refine Below.alloc ?_ ?_ _ | refine below_drewN ?_ _ | refine Below.drew ?_)
            all_goals first | omega | (simp; done) | (simp; omega)
        · have c4' : (lo / st * st != lo) = true := by simpa using c4
          have HK := Lib.hid (show chk lo hi st = 4 by unfold chk; rw [if_neg (by simpa using c1), if_neg c2, if_pos (.inr c4)])
          clear c1 c3 c4
          go_enter Try.func15, Try.ntmps15
          go_wp2
          go_quiet ((go_at_call 49; exact quiet_call (floor_any _ _ _ (by omega) (by omega))))
          go_wp2
          go_ret
          refine ⟨by rw [HK.out]; rfl, ?_⟩
          repeat' (with_reducible first | exact Below.refl _ _ | assumption | refine Below.setCell ?_ ?_ _ | refine Below.alloc ?_ ?_ _ | refine below_drewN ?_ _ | refine Below.drew ?_)
          all_goals first | omega | (simp; done) | (simp; omega)
      · have c3' : ((hi - lo) % st != 0) = true := by simpa using c3
        have HK := Lib.hid (show chk lo hi st = 4 by unfold chk; rw [if_neg (by simpa using c1), if_neg c2, if_pos (.inl c3)])
        clear c1 c3
        go_enter Try.func15, Try.ntmps15
        go_wp2
        go_quiet ((go_at_call 49; exact quiet_call (floor_any _ _ _ (by omega) (by omega))))
        go_wp2
        go_ret
        refine ⟨by rw [HK.out]; rfl, ?_⟩
        repeat' (with_reducible first | exact Below.refl _ _ | assumption | refine Below.setCell ?_ ?_ _ | refine Below.alloc ?_ ?_ _ | refine below_drewN ?_ _ | refine Below.drew ?_)
        all_goals first | omega | (simp; done) | (simp; omega)
  · have HK := Lib.hid (show chk lo hi st = 2 by unfold chk; rw [if_pos c1])
    have H := Lib.hid c1
    clear c1
    go_enter Try.func15, Try.ntmps15
    go_wp2
    all_goals first | (exfalso; have := H.out; unfold InR at this; omega) | skip
    all_goals
      go_ret
      refine ⟨by rw [HK.out]; rfl, ?_⟩
      repeat' (with_reducible first | exact Below.refl _ _ | assumption | refine Below.setCell ?_ ?_ _ | refine Below.alloc ?_ ?_ _ | refine below_drewN ?_ _ | refine Below.drew ?_)
      all_goals first | omega | (simp; done) | (simp; omega)
end Go.Proofs.Ytnigebnibikolaa.SP
