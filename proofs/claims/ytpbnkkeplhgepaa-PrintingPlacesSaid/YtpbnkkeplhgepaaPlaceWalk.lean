
import Derived.Test.YtpbnkkeplhgepaaProg
import Derived.WalkKit
import Derived.WalkLawsBesides
import Derived.Lib.Hide
import Derived.Deep.QuietTactic
import Derived.BigQuiet
import Derived.Outline
namespace Go.Proofs.Ytpbnkkeplhgepaa.PP
open Go.RowKit
set_option linter.unusedVariables false
set_option maxRecDepth 100000
theorem mulb {a b : Int} (h : 0 ≤ a ∧ a ≤ 31680) (k : 0 ≤ b ∧ b ≤ 31680) : 0 ≤ a * b ∧ a * b ≤ 1003622400 :=
  ⟨Int.mul_nonneg h.1 k.1, Int.le_trans (Int.mul_le_mul h.2 k.2 k.1 (by omega)) (by omega)⟩
theorem divb {a b : Int} (h : 0 ≤ a ∧ a ≤ 1003622400) (k : 1 ≤ b) : 0 ≤ a / b ∧ a / b ≤ 1003622400 :=
  ⟨Int.ediv_nonneg h.1 (by omega), Int.le_trans (Int.ediv_le_self _ h.1) h.2⟩
/-- the sides of the page -/
def fitA (pw ph W H : Int) : Int := max (if W < pw ∨ H < ph then (if W * ph ≤ H * pw then W else pw * H / ph) else pw) 1
def fitB (pw ph W H : Int) : Int := max (if W < pw ∨ H < ph then (if W * ph ≤ H * pw then ph * W / pw else H) else ph) 1
def placed (pw ph x0 y0 x1 y1 : Int) : Value := .tuple #[.agg #[.int .i64 (x0 + (x1 - x0 - fitA pw ph (x1 - x0) (y1 - y0)) / 2), .int .i64 (y0 + (y1 - y0 - fitB pw ph (x1 - x0) (y1 - y0)) / 2),
     .int .i64 (x0 + (x1 - x0 - fitA pw ph (x1 - x0) (y1 - y0)) / 2 + fitA pw ph (x1 - x0) (y1 - y0)), .int .i64 (y0 + (y1 - y0 - fitB pw ph (x1 - x0) (y1 - y0)) / 2 + fitB pw ph (x1 - x0) (y1 - y0))], .int .i64 0]

theorem lt_of_mul {a b c : Int} (hc : 0 < c) (h : a * c < b * c) : a < b := Int.lt_of_mul_lt_mul_right h (by omega)
theorem way1 {pw ph W H : Int} (h5 : 1 ≤ pw) (h6 : 1 ≤ ph) (hW : 1 ≤ W) (h : H * pw < W * ph) : pw * H / ph ≤ W := by
  have : pw * H / ph < W + 1 := Int.ediv_lt_of_lt_mul (by omega) (by rw [Int.add_mul, Int.mul_comm pw H]; omega)
  omega
theorem way2 {pw ph W H : Int} (h5 : 1 ≤ pw) (h6 : 1 ≤ ph) (hW : 1 ≤ H) (h : W * ph ≤ H * pw) : ph * W / pw ≤ H := by
  have : ph * W / pw < H + 1 := Int.ediv_lt_of_lt_mul (by omega) (by rw [Int.add_mul, Int.mul_comm ph W]; omega)
  omega
theorem way3 {pw ph H : Int} (h5 : 1 ≤ pw) (h6 : 1 ≤ ph) (hH : 1 ≤ H) (h : H < ph) : pw * H / ph ≤ pw := by
  have : pw * H / ph < pw + 1 := Int.ediv_lt_of_lt_mul (by omega) (by
    have := Int.mul_le_mul_of_nonneg_left (show H ≤ ph by omega) (show 0 ≤ pw by omega)
    rw [Int.add_mul]; omega)
  omega
theorem cross {pw ph W H : Int} (h5 : 1 ≤ pw) (hH : 1 ≤ H) (h1 : pw ≤ W) (h2 : H < ph) : ¬ W * ph ≤ H * pw := by
  have a1 : H * pw < ph * pw := Int.mul_lt_mul_of_pos_right h2 (by omega)
  have a2 : pw * ph ≤ W * ph := Int.mul_le_mul_of_nonneg_right h1 (by omega)
  rw [Int.mul_comm pw ph] at a2
  omega

set_option maxHeartbeats 1000000 in
theorem place_ok (pw ph x0 y0 x1 y1 : Int) (w : World) (h1 : 0 ≤ x0 ∧ x0 ≤ 31680) (h2 : 0 ≤ y0 ∧ y0 ≤ 31680) (h3 : 0 ≤ x1 ∧ x1 ≤ 31680) (h4 : 0 ≤ y1 ∧ y1 ≤ 31680) (h5 : 1 ≤ pw ∧ pw ≤ 31680) (h6 : 1 ≤ ph ∧ ph ≤ 31680)
   (h7 : 1 ≤ x1 - x0) (h8 : 1 ≤ y1 - y0) :
   Calls Try.prog 13 #[.int .i64 pw, .int .i64 ph, .agg #[.int .i64 x0, .int .i64 y0, .int .i64 x1, .int .i64 y1]] w fun e w' => e = .returned (placed pw ph x0 y0 x1 y1) ∧ Below w.heap.size w w' := by
  have m1 := mulb (a := y1 - y0) (b := pw) (by omega) (by omega)
  have m2 := mulb (a := x1 - x0) (b := ph) (by omega) (by omega)
  have m3 := mulb (a := pw) (b := y1 - y0) (by omega) (by omega)
  have m4 := mulb (a := pw) (b := x1 - x0) (by omega) (by omega)
  have m5 := mulb (a := ph) (b := y1 - y0) (by omega) (by omega)
  have m6 := mulb (a := ph) (b := x1 - x0) (by omega) (by omega)
  have q1 := divb m3 h6.1
  have q2 := divb m6 h5.1
  have e1 : pw * (x1 - x0) / pw = x1 - x0 := Int.mul_ediv_cancel_left _ (by omega)
  have e2 : ph * (y1 - y0) / ph = y1 - y0 := Int.mul_ediv_cancel_left _ (by omega)
  have hmax : ∀ x y : Int, (if x < y then y else x) = max x y := fun x y => by omega
  by_cases c1 : x1 - x0 < pw
  · by_cases c2 : (y1 - y0) * pw < (x1 - x0) * ph
    · have d1 := way1 h5.1 h6.1 h7 c2
      have s1 : Hid (fitA pw ph (x1 - x0) (y1 - y0) = max (pw * (y1 - y0) / ph) 1) := by show _ = _; unfold fitA; rw [if_pos (.inl c1), if_neg (by omega)]
      have s2 : Hid (fitB pw ph (x1 - x0) (y1 - y0) = max (y1 - y0) 1) := by show _ = _; unfold fitB; rw [if_pos (.inl c1), if_neg (by omega)]
      go_enter Try.func13, Try.ntmps13
      go_wp2
      go_quiet (fail)
      go_wp2
      refine wp_loop_rounds 5 ?_
      rw [rounds_succ]
      go_wp2
      iterate 4 (rw [rounds_succ]; go_wp2)
      go_quiet (fail)
      go_wp2
      go_quiet (fail)
      go_wp2
      refine bodyPost_ret (v := placed pw ph x0 y0 x1 y1) ?_ rfl ⟨rfl, ?_⟩
      · unfold placed
        rw [s1.out, s2.out]
        simp [results, Try.results13, go_sem]
        try omega
      · repeat' (with_reducible first | exact Below.refl _ _ | assumption | refine Below.setCell ?_ ?_ _ | refine Below.alloc ?_ ?_ _ | refine below_drewN ?_ _ | refine Below.drew ?_)
        all_goals (simp; try omega)
    · have d1 := way2 (W := x1 - x0) h5.1 h6.1 h8 (by omega)
      have s1 : Hid (fitA pw ph (x1 - x0) (y1 - y0) = max (x1 - x0) 1) := by show _ = _; unfold fitA; rw [if_pos (.inl c1), if_pos (by omega)]
      have s2 : Hid (fitB pw ph (x1 - x0) (y1 - y0) = max (ph * (x1 - x0) / pw) 1) := by show _ = _; unfold fitB; rw [if_pos (.inl c1), if_pos (by omega)]
      go_enter Try.func13, Try.ntmps13
      go_wp2
      go_quiet (fail)
      go_wp2
      refine wp_loop_rounds 5 ?_
      rw [rounds_succ]
      go_wp2
      iterate 4 (rw [rounds_succ]; go_wp2)
      go_quiet (fail)
      go_wp2
      go_quiet (fail)
      go_wp2
      refine bodyPost_ret (v := placed pw ph x0 y0 x1 y1) ?_ rfl ⟨rfl, ?_⟩
      · unfold placed
        rw [s1.out, s2.out]
        simp [results, Try.results13, go_sem]
        try omega
      · repeat' (with_reducible first | exact Below.refl _ _ | assumption | refine Below.setCell ?_ ?_ _ | refine Below.alloc ?_ ?_ _ | refine below_drewN ?_ _ | refine Below.drew ?_)
        all_goals (simp; try omega)
  · by_cases c2 : y1 - y0 < ph
    · have d1 := way3 h5.1 h6.1 h8 c2
      have s1 : Hid (fitA pw ph (x1 - x0) (y1 - y0) = max (pw * (y1 - y0) / ph) 1) := by show _ = _; unfold fitA; rw [if_pos (.inr c2), if_neg (cross h5.1 h8 (by omega) c2)]
      have s2 : Hid (fitB pw ph (x1 - x0) (y1 - y0) = max (y1 - y0) 1) := by show _ = _; unfold fitB; rw [if_pos (.inr c2), if_neg (cross h5.1 h8 (by omega) c2)]
      go_enter Try.func13, Try.ntmps13
      go_wp2
      go_quiet (fail)
      go_wp2
      refine wp_loop_rounds 5 ?_
      rw [rounds_succ]
      go_wp2
      iterate 4 (rw [rounds_succ]; go_wp2)
      go_quiet (fail)
      go_wp2
      go_quiet (fail)
      go_wp2
      refine bodyPost_ret (v := placed pw ph x0 y0 x1 y1) ?_ rfl ⟨rfl, ?_⟩
      · unfold placed
        rw [s1.out, s2.out]
        simp [results, Try.results13, go_sem]
        try omega
      · repeat' (with_reducible first | exact Below.refl _ _ | assumption | refine Below.setCell ?_ ?_ _ | refine Below.alloc ?_ ?_ _ | refine below_drewN ?_ _ | refine Below.drew ?_)
        all_goals (simp; try omega)
    · have s1 : Hid (fitA pw ph (x1 - x0) (y1 - y0) = max pw 1) := by show _ = _; unfold fitA; rw [if_neg (by omega)]
      have s2 : Hid (fitB pw ph (x1 - x0) (y1 - y0) = max ph 1) := by show _ = _; unfold fitB; rw [if_neg (by omega)]
      go_enter Try.func13, Try.ntmps13
      go_wp2
      go_quiet (fail)
      go_wp2
      refine wp_loop_rounds 5 ?_
      rw [rounds_succ]
      go_wp2
      iterate 4 (rw [rounds_succ]; go_wp2)
      go_quiet (fail)
      go_wp2
      go_quiet (fail)
      go_wp2
      refine bodyPost_ret (v := placed pw ph x0 y0 x1 y1) ?_ rfl ⟨rfl, ?_⟩
      · unfold placed
        rw [s1.out, s2.out]
        simp [results, Try.results13, go_sem]
        try omega
      · repeat' (with_reducible first | exact Below.refl _ _ | assumption | refine Below.setCell ?_ ?_ _ | refine Below.alloc ?_ ?_ _ | refine below_drewN ?_ _ | refine Below.drew ?_)
        all_goals (simp; try omega)

set_option maxHeartbeats 1000000 in
theorem place_order (pw ph x0 y0 x1 y1 : Int) (w : World) (h1 : 0 ≤ x0 ∧ x0 ≤ 31680) (h2 : 0 ≤ y0 ∧ y0 ≤ 31680) (h3 : 0 ≤ x1 ∧ x1 ≤ 31680) (h4 : 0 ≤ y1 ∧ y1 ≤ 31680) (h5 : 1 ≤ pw ∧ pw ≤ 31680) (h6 : 1 ≤ ph ∧ ph ≤ 31680)
   (h7 : ¬ (1 ≤ x1 - x0 ∧ 1 ≤ y1 - y0)) :
   Calls Try.prog 13 #[.int .i64 pw, .int .i64 ph, .agg #[.int .i64 x0, .int .i64 y0, .int .i64 x1, .int .i64 y1]] w fun e w' => e = .returned (.tuple #[.agg #[.int .i64 0, .int .i64 0, .int .i64 0, .int .i64 0], .int .i64 5]) ∧ Below w.heap.size w w' := by
  have H := Lib.hid h7
  clear h7
  go_enter Try.func13, Try.ntmps13
  go_wp2
  go_quiet (fail)
  go_wp2
  refine wp_loop_rounds 5 ?_
  rw [rounds_succ]
  go_wp2
  iterate 4 (rw [rounds_succ]; go_wp2)
  all_goals first | (exfalso; have := H.out; omega) | skip
  all_goals
    refine bodyPost_ret (v := .tuple #[.agg #[.int .i64 0, .int .i64 0, .int .i64 0, .int .i64 0], .int .i64 5]) ?_ rfl ⟨rfl, ?_⟩
    · simp [results, Try.results13, go_sem]
    · repeat' (with_reducible first | exact Below.refl _ _ | assumption | refine Below.setCell ?_ ?_ _ | refine Below.alloc ?_ ?_ _ | refine below_drewN ?_ _ | refine Below.drew ?_)
      all_goals (simp; try omega)

set_option maxHeartbeats 1000000 in
theorem place_bad (pw ph x0 y0 x1 y1 : Int) (w : World) (h : ¬ ((0 ≤ x0 ∧ x0 ≤ 31680) ∧ (0 ≤ y0 ∧ y0 ≤ 31680) ∧ (0 ≤ x1 ∧ x1 ≤ 31680) ∧ (0 ≤ y1 ∧ y1 ≤ 31680) ∧ (1 ≤ pw ∧ pw ≤ 31680) ∧ (1 ≤ ph ∧ ph ≤ 31680))) :
   Calls Try.prog 13 #[.int .i64 pw, .int .i64 ph, .agg #[.int .i64 x0, .int .i64 y0, .int .i64 x1, .int .i64 y1]] w fun e w' => e = .returned (.tuple #[.agg #[.int .i64 0, .int .i64 0, .int .i64 0, .int .i64 0], .int .i64 2]) ∧ Below w.heap.size w w' := by
  have H := Lib.hid h
  clear h
  go_enter Try.func13, Try.ntmps13
  go_wp2
  go_quiet (fail)
  go_wp2
  refine wp_loop_rounds 5 ?_
  rw [rounds_succ]
  go_wp2
  iterate 4 (any_goals (rw [rounds_succ]; go_wp2))
  all_goals first | (exfalso; have := H.out; omega) | skip
  all_goals
    refine bodyPost_ret (v := .tuple #[.agg #[.int .i64 0, .int .i64 0, .int .i64 0, .int .i64 0], .int .i64 2]) ?_ rfl ⟨rfl, ?_⟩
    · simp [results, Try.results13, go_sem]
    · repeat' (with_reducible first | exact Below.refl _ _ | assumption | refine Below.setCell ?_ ?_ _ | refine Below.alloc ?_ ?_ _ | refine below_drewN ?_ _ | refine Below.drew ?_)
      all_goals (simp; try omega)
end Go.Proofs.Ytpbnkkeplhgepaa.PP
