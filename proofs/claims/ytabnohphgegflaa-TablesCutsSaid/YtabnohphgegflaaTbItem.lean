
/-
  An item of a paragraph is checked.
-/
import Derived.Test.YtabnohphgegflaaProg
import Derived.Test.YtabnohphgegflaaTbPlain
import Derived.Test.YtabnohphgegflaaBlk
import Derived.Test.YtabnohphgegflaaIn
import Derived.WalkLawsBesides
import Derived.Lib.Hide
import Derived.BigQuiet
import Derived.StillTailTactics
import Derived.Deep.CutRange
import Derived.Deep.CutBlock
namespace Go.Proofs.Ytabnohphgegflaa.TB
open Go.RowKit Go.Law Go.Law.Tb
set_option linter.unusedVariables false
set_option linter.unusedSimpArgs false
set_option maxRecDepth 100000
theorem out_any (n lo hi : Int) (w : World) : Calls Try.prog 35 #[.int .i64 n, .int .i64 lo, .int .i64 hi] w fun e w' => e = .returned (.bool (outB n lo hi)) ∧ w = w' := by
  go_enter Try.func35, Try.ntmps35
  go_wp2
  all_goals
    go_ret
    refine ⟨?_, rfl⟩
    simp [outB, *]
  all_goals omega
theorem look_any (s : Int) (b f : Bool) (w : World) : Calls Try.prog 34 #[.agg #[.int .i64 s, .bool b, .bool f]] w fun e w' => e = .returned (.int .i64 (lookE s)) ∧ Below w.heap.size w w' := by
  obtain ⟨V, hV⟩ : ∃ V, V = lookE s := ⟨_, rfl⟩
  rw [← hV]
  have HV := Lib.hid hV
  clear hV
  go_enter Try.func34, Try.ntmps34
  go_wp2
  all_goals
    go_ret
    refine ⟨?_, by first | exact Below.refl _ _ | exact (Below.refl _ _).alloc (Nat.le_refl _) _⟩
    rw [HV.out]
    unfold lookE
    first | rw [if_pos (by omega)] | rw [if_neg (by omega)]
    rfl
set_option maxHeartbeats 4000000 in
theorem item_any (x : PIt) (w : World) : Calls Try.prog 33 #[.agg x.cells.toArray] w fun e w' => e = .returned (.int .i64 (itemE x)) ∧ Below w.heap.size w w' := by
  obtain ⟨kind, char, size, bold, fixed, iw, ih, node, frm⟩ := x
  obtain ⟨V, hV⟩ : ∃ V, V = itemE ⟨kind, char, size, bold, fixed, iw, ih, node, frm⟩ := ⟨_, rfl⟩
  rw [← hV]
  have HV := Lib.hid hV
  unfold PIt.cells
  clear hV
  go_enter Try.func33, Try.ntmps33
  go_wp2_with (first
    | (go_at_call 35; refine (out_any _ _ _ _).mono ?_; rintro e w' ⟨rfl, rfl⟩)
    | (go_at_call 34; refine (look_any _ _ _ _).mono ?_; rintro e w' ⟨rfl, hlk⟩))
  all_goals
    go_ret
    refine ⟨?_, by first | exact (Below.refl _ _).alloc (Nat.le_refl _) _ | exact ((Below.refl _ _).alloc (Nat.le_refl _) _).trans (hlk.mono (by simp))⟩
    rw [HV.out]
    (try clear hlk)
    (try simp only [outB_true, outB_false] at *)
    unfold itemE
    simp only
  all_goals first
    | ((repeat' split) <;> first | rfl | (exfalso; omega) | (exfalso; simp_all; done) | (exfalso; simp_all; omega))
end Go.Proofs.Ytabnohphgegflaa.TB
