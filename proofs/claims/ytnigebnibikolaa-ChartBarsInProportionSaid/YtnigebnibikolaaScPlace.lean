
/-
  scale.Place and the reference's Near.
-/
import Derived.Test.YtnigebnibikolaaScCheck
import Derived.Test.YtnigebnibikolaaOwn
namespace Go.Proofs.Ytnigebnibikolaa.SP
open Go.RowKit Go.Law Go.Law.Scale SF
set_option linter.unusedVariables false
set_option linter.unusedSimpArgs false
set_option maxRecDepth 100000

theorem chk_zero {lo hi st : Int} (h : chk lo hi st = 0) : InR lo hi st ∧ lo < hi ∧ (hi - lo) % st = 0 ∧ lo / st * st = lo ∧ (hi - lo) / st ≤ 500 := by
  unfold chk at h
  by_cases c1 : InR lo hi st
  · rw [if_neg (by simpa using c1)] at h
    by_cases c2 : hi ≤ lo
    · rw [if_pos c2] at h; omega
    · rw [if_neg c2] at h
      by_cases c3 : (hi - lo) % st ≠ 0 ∨ lo / st * st ≠ lo
      · rw [if_pos c3] at h; omega
      · rw [if_neg c3] at h
        by_cases c5 : 500 < (hi - lo) / st
        · rw [if_pos c5] at h; omega
        · refine ⟨c1, by omega, ?_, ?_, by omega⟩
          · exact Classical.byContradiction fun h => c3 (.inl h)
          · exact Classical.byContradiction fun h => c3 (.inr h)
  · rw [if_pos c1] at h; omega
/-- the rounded quotient -/
def near (a b : Int) : Int := (2 * a + b) / (2 * b)
theorem near_any (a b : Int) (w : World) (ha : 0 ≤ a ∧ a ≤ 900000000000000000) (hb : 1 ≤ b ∧ b ≤ 100000000000000000) :
    Calls Try.prog 51 #[.int .i64 a, .int .i64 b] w fun e w' => e = .returned (.int .i64 (near a b)) ∧ w = w' := by
  go_enter Try.func51, Try.ntmps51
  go_wp2_with fail
  refine (down_any _ _ _ (by omega) (by omega)).mono ?_
  rintro e w1 ⟨rfl, rfl⟩
  go_wp2_with fail
  go_ret
  exact ⟨rfl, rfl⟩
/-- the result of Place -/
def placeV (lo hi st value long : Int) : Value :=
  if chk lo hi st ≠ 0 then .tuple #[.int .i64 0, .int .i64 (chk lo hi st)]
  else if (0 ≤ long ∧ long ≤ 100000) ∧ lo ≤ value ∧ value ≤ hi then .tuple #[.int .i64 (near ((value - lo) * long) (hi - lo)), .int .i64 0]
  else .tuple #[.int .i64 0, .int .i64 2]
set_option maxHeartbeats 1000000 in
theorem place_any (lo hi st value long : Int) (w : World) :
    Calls Try.prog 74 #[.agg #[.int .i64 lo, .int .i64 hi, .int .i64 st], .int .i64 value, .int .i64 long] w fun e w' => e = .returned (placeV lo hi st value long) ∧ Below w.heap.size w w' := by
  by_cases k1 : chk lo hi st = 0
  · by_cases k2 : (0 ≤ long ∧ long ≤ 100000) ∧ lo ≤ value ∧ value ≤ hi
    · have HV := Lib.hid (show placeV lo hi st value long = .tuple #[.int .i64 (near ((value - lo) * long) (hi - lo)), .int .i64 0] by unfold placeV; rw [if_neg (by omega), if_pos k2])
      obtain ⟨h1, h2, _, _, _⟩ := chk_zero k1
      unfold InR at h1
      have HE := Lib.hid (show 2 * (value - lo) * long = 2 * ((value - lo) * long) from Int.mul_assoc _ _ _)
      have hp : 0 ≤ 2 * (value - lo) * long ∧ 2 * (value - lo) * long ≤ 1600000000000000000 :=
        ⟨Int.mul_nonneg (by omega) k2.1.1, Int.le_trans (Int.mul_le_mul (show 2 * (value - lo) ≤ 16000000000000 by omega) k2.1.2 k2.1.1 (by omega)) (by omega)⟩
      go_enter Try.func74, Try.ntmps74
      go_wp2_with fail
      refine (check_any _ _ _ _).mono ?_
      rintro e w1 ⟨rfl, hb1⟩
      have hs1 := hb1.size
      simp at hs1
      have z1 : w.heap.size < w1.heap.size := by omega
      have c0 : w1.cell? ⟨w.heap.size, 0, none⟩ = some (.int .i64 lo) := (hb1.cell (by simp)).trans (by simp)
      have c1 : w1.cell? ⟨w.heap.size, 1, none⟩ = some (.int .i64 hi) := (hb1.cell (by simp)).trans (by simp)
      have hbel : Below w.heap.size w w1 := ((Below.refl _ _).alloc (Nat.le_refl _) _).trans (hb1.mono (by simp))
      clear hb1
      go_wp2_with fail
      go_quiet (fail)
      go_wp2_with fail
      refine (floor_any _ _ _ (by omega) (by omega)).mono ?_
      rintro e w2 ⟨rfl, rfl⟩
      go_wp2_with fail
      go_ret2
      exact ⟨by rw [HV.out]; unfold near; rw [← HE.out]; rfl, below_drewN hbel _⟩
    · have HV := Lib.hid (show placeV lo hi st value long = .tuple #[.int .i64 0, .int .i64 2] by unfold placeV; rw [if_neg (by omega), if_neg k2])
      have H := Lib.hid k2
      clear k2
      go_enter Try.func74, Try.ntmps74
      go_wp2_with fail
      refine (check_any _ _ _ _).mono ?_
      rintro e w1 ⟨rfl, hb1⟩
      have hs1 := hb1.size
      simp at hs1
      have z1 : w.heap.size < w1.heap.size := by omega
      have c0 : w1.cell? ⟨w.heap.size, 0, none⟩ = some (.int .i64 lo) := (hb1.cell (by simp)).trans (by simp)
      have c1 : w1.cell? ⟨w.heap.size, 1, none⟩ = some (.int .i64 hi) := (hb1.cell (by simp)).trans (by simp)
      have hbel : Below w.heap.size w w1 := ((Below.refl _ _).alloc (Nat.le_refl _) _).trans (hb1.mono (by simp))
      clear hb1
      go_wp2_with fail
      all_goals first | (exfalso; have := H.out; omega) | skip
      all_goals
        go_ret2
        exact ⟨by rw [HV.out]; rfl, hbel⟩
  · have HV := Lib.hid (show placeV lo hi st value long = .tuple #[.int .i64 0, .int .i64 (chk lo hi st)] by unfold placeV; rw [if_pos k1])
    have k1' : (chk lo hi st != 0) = true := by simpa using k1
    clear k1
    go_enter Try.func74, Try.ntmps74
    go_wp2_with fail
    refine (check_any _ _ _ _).mono ?_
    rintro e w1 ⟨rfl, hb1⟩
    have hs1 := hb1.size
    simp at hs1
    have z1 : w.heap.size < w1.heap.size := by omega
    have c0 : w1.cell? ⟨w.heap.size, 0, none⟩ = some (.int .i64 lo) := (hb1.cell (by simp)).trans (by simp)
    have c1 : w1.cell? ⟨w.heap.size, 1, none⟩ = some (.int .i64 hi) := (hb1.cell (by simp)).trans (by simp)
    have hbel : Below w.heap.size w w1 := ((Below.refl _ _).alloc (Nat.le_refl _) _).trans (hb1.mono (by simp))
    clear hb1
    go_wp2_with fail
    go_ret2
    exact ⟨by rw [HV.out]; rfl, hbel⟩
end Go.Proofs.Ytnigebnibikolaa.SP
