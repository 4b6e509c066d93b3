
/-
  scale.floor and the reference's Down.
-/
import Derived.Test.YtnigebnibikolaaProg
import Derived.Test.YtnigebnibikolaaCommon
import Derived.Test.YtnigebnibikolaaScalePlain
import Derived.WalkLawsBesides
import Derived.Lib.Hide
import Derived.Deep.QuietTactic
import Derived.BigQuiet
namespace Go.Proofs.Ytnigebnibikolaa.SF
open Go.RowKit Go.Law Go.Law.Scale
set_option linter.unusedVariables false
set_option linter.unusedSimpArgs false
set_option maxRecDepth 100000

theorem floor_any (a b : Int) (w : World) (ha : -4000000000000000000 ≤ a ∧ a ≤ 4000000000000000000) (hb : 1 ≤ b ∧ b ≤ 4000000000000000000) :
    Calls Try.prog 49 #[.int .i64 a, .int .i64 b] w fun e w' => e = .returned (.int .i64 (a / b)) ∧ w = w' := by
  have h := tdiv_floor a b hb.1
  have hd := abs_bd (a := a) (s := b) (m := 4000000000000000000) hb.1 (by omega) (by omega) (by omega)
  by_cases c1 : a.tmod b < 0
  · rw [if_pos c1] at h
    go_enter Try.func49, Try.ntmps49
    go_wp2
    go_ret
    exact ⟨by simp, rfl⟩
  · rw [if_neg c1] at h
    go_enter Try.func49, Try.ntmps49
    go_wp2
    go_ret
    exact ⟨by simp, rfl⟩
theorem down_any (a b : Int) (w : World) (ha : -4000000000000000000 ≤ a ∧ a ≤ 4000000000000000000) (hb : 1 ≤ b ∧ b ≤ 1000000000000000000) :
    Calls Try.prog 75 #[.int .i64 a, .int .i64 b] w fun e w' => e = .returned (.int .i64 (a / b)) ∧ w = w' := by
  have h := tdiv_down a b hb.1
  have hd := abs_bd (a := a) (s := b) (m := 4000000000000000000) hb.1 (by omega) (by omega) (by omega)
  have hA := A_bd (low := a) hb.1
  by_cases c1 : a < a.tdiv b * b
  · rw [if_pos c1] at h
    have c2 : a < (a / b + 1) * b ∧ (a / b + 1) * b ≤ 5000000000000000000 ∧ -5000000000000000000 ≤ (a / b + 1) * b := by rw [Int.add_mul]; omega
    clear c1
    go_enter Try.func75, Try.ntmps75
    go_wp2
    go_ret
    exact ⟨by simp, rfl⟩
  · rw [if_neg c1] at h
    clear c1
    go_enter Try.func75, Try.ntmps75
    go_wp2
    go_ret
    exact ⟨by simp, rfl⟩

end Go.Proofs.Ytnigebnibikolaa.SF
