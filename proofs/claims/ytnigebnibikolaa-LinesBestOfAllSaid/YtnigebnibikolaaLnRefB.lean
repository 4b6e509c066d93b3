

/-
  The reference's bad and OneLine.
-/
import Derived.Test.YtnigebnibikolaaLnRefA
import Derived.Test.YtnigebnibikolaaLnLine
import Derived.StillTailTactics
namespace Go.Proofs.Ytnigebnibikolaa.LN
open Go.RowKit Go.Law Go.Law.Ln
set_option linter.unusedVariables false
set_option linter.unusedSimpArgs false
set_option maxRecDepth 100000
theorem bad_any (d c : Int) (w : World) (hd : 0 ≤ d ∧ d ≤ 1000000000000) (hc : 0 ≤ c ∧ c ≤ 1000000000000) :
    Calls Try.prog 85 #[.int .i64 d, .int .i64 c] w fun e w' => e = .returned (.int .i64 (badF d c)) ∧ w = w' := by
  by_cases h1 : d = 0
  · have HV := Lib.hid (show badF d c = 0 by unfold badF; rw [if_pos h1])
    subst h1
    go_enter Try.func85, Try.ntmps85
    go_wp2_with fail
    go_ret
    exact ⟨by rw [HV.out]; rfl, rfl⟩
  by_cases h2 : c = 0
  · have HV := Lib.hid (show badF d c = 10000 by unfold badF; rw [if_neg h1, if_pos h2])
    subst h2
    have h1' : (d == 0) = false := by simpa using h1
    go_enter Try.func85, Try.ntmps85
    go_wp2_with fail
    go_ret
    exact ⟨by rw [HV.out]; rfl, rfl⟩
  · obtain ⟨q, hq⟩ : ∃ q, q = min (1000 * d / c) 5000 := ⟨_, rfl⟩
    have hq0 : 0 ≤ 1000 * d / c := Int.ediv_nonneg (by omega) hc.1
    have hq1 : 0 ≤ q ∧ q ≤ 5000 := by omega
    have q2 : 0 ≤ q * q ∧ q * q ≤ 25000000 := ⟨Int.mul_nonneg hq1.1 hq1.1, Int.mul_le_mul hq1.2 hq1.2 hq1.1 (by omega)⟩
    have q3 : 0 ≤ q * q * q ∧ q * q * q ≤ 125000000000 := ⟨Int.mul_nonneg q2.1 hq1.1, Int.mul_le_mul q2.2 hq1.2 hq1.1 (by omega)⟩
    have HV := Lib.hid (show badF d c = min (q * q * q / 10000000) 10000 by unfold badF; rw [if_neg h1, if_neg h2, hq])
    have h1' : (d == 0) = false := by simpa using h1
    have h2' : (c == 0) = false := by simpa using h2
    have e1 : (1000 * d).tdiv c = 1000 * d / c := Int.tdiv_eq_ediv_of_nonneg (by omega)
    have hr1 : 1000 * d / c ≤ 1000000000000000 := Int.le_trans (Int.ediv_le_self _ (by omega)) (by omega)
    have e3 : IntKind.i64.wrap (1000 * d / c) = 1000 * d / c := IntWalk.i64_in _ ⟨by omega, by omega⟩
    by_cases c1 : 5000 < 1000 * d / c
    · have hq5 : q = 5000 := by omega
      have HV3 := Lib.hid (show badF d c = 10000 by rw [HV.out, hq5]; rfl)
      clear hq h1 q2 q3 hq1 hq5 HV
      go_enter Try.func85, Try.ntmps85
      go_wp2_with fail
      go_ret
      exact ⟨by rw [HV3.out]; rfl, rfl⟩
    · have hqr : q = 1000 * d / c := by omega
      obtain ⟨t, ht⟩ : ∃ t, t = q * q * q := ⟨_, rfl⟩
      have e7 : wrap64 (wrap64 ((1000 * d / c) * (1000 * d / c)) * (1000 * d / c)) = t := by rw [ht, ← IntWalk.i64_left, ← IntWalk.i64_left, ← hqr, IntWalk.i64_in (q * q) ⟨by omega, by omega⟩]; exact IntWalk.i64_in _ ⟨by omega, by omega⟩
      rw [← ht] at HV q3
      have HV1 := Lib.hid (show t / 10000000 < 10000 → badF d c = t / 10000000 from fun h => by rw [HV.out]; omega)
      have HV2 := Lib.hid (show ¬ t / 10000000 < 10000 → badF d c = 10000 from fun h => by rw [HV.out]; omega)
      clear hq hqr ht h1 q2 hq1 HV
      by_cases c2 : t / 10000000 < 10000
      · have HV3 := Lib.hid (HV1.out c2)
        clear HV1 HV2
        go_enter Try.func85, Try.ntmps85
        go_wp2_with fail
        go_ret
        exact ⟨by rw [HV3.out]; rfl, rfl⟩
      · have HV3 := Lib.hid (HV2.out c2)
        clear HV1 HV2
        go_enter Try.func85, Try.ntmps85
        go_wp2_with fail
        go_ret
        exact ⟨by rw [HV3.out]; rfl, rfl⟩
end Go.Proofs.Ytnigebnibikolaa.LN
