

/-
  TimelineStates (State against one state at a time): the call returns true for every input.
  Conditions: none beyond the row's own.
-/
import Derived.Test.YthddbinbeinafaaRows
import Derived.Test.YthddbinbeinafaaReads
import Derived.Test.YthddbinbeinafaaLift
import Derived.Test.YthddbinbeinafaaTlRead
import Derived.Test.YthddbinbeinafaaTlLaw1
namespace Go.Proofs.Ythddbinbeinafaa.TSS
open Go.ChangeShapes Go.WideShapes Go.ChangeAt Go.RowKit Go.Law Go.Law.Tl TL
set_option linter.unusedVariables false
theorem own : ownKnob Try.prog.godebug = none := by kernel_rfl
set_option maxRecDepth 100000 in
theorem lifted (os : Os) (started : os.Started) (H : Type) (enc : TypeId × Value → H) :
    ReturnsInHanded {} Try.checked os 3 .any (Rows.timelineStatesSpec.pre6 enc Try.prog Try.f3 Rows.timelineStatesRow.domain false) (Rows.timelineStatesSpec.post enc Try.prog Try.f3 false true false false) := by
  refine Law.lifted (C := Try.checked) (tb := 4) own started (by kernel_rfl) Try.func3
    (ChangeSpec.witness6 (enc := enc) (C := Try.checked) false ⟨#[], #[.slice none 0 0, .int .i64 0, .int .i64 0], []⟩ 8 (by kernel_rfl) (by kernel_rfl) (by kernel_rfl) (by kernel_rfl)) (by kernel_rfl) (by kernel_rfl) rfl rfl Try.underlying4 ?_ ?_
  · intro ds h
    match ds, h with
    | [d1, d2, d3], _ => rfl
  · intro W args ds hc
    obtain ⟨hvS, hrS, hzS⟩ := hc
    rw [show Try.f3.params.toList = [22, 3, 3] from rfl] at hvS hrS hzS
    have hvT : ∃ base, ∀ (j : Nat) t' v, ([22, 3, 3])[j]? = some t' → args.toList[j]? = some v → Value.okWide Try.prog W .any base t' v := by
      obtain ⟨b, hb⟩ := hvS
      exact ⟨b, fun j t' v h1 h2 => hb j t' v h1 (by simpa using h2)⟩
    obtain ⟨v0, vs0, ds0, x0, e0, ⟨b0, k0⟩, r0, hv0, hr0, hz0⟩ := uncons (R := RSlice REff 7 56) hvT hrS hzS (fun _ => reader_effs)
    obtain ⟨v1, vs1, ds1, x1, rfl, ⟨b1, k1⟩, r1, hv1, hr1, hz1⟩ := uncons (R := RInt .i64) hv0 hr0 hz0 (fun _ => reader_int Try.underlying3)
    obtain ⟨v2, vs2, ds2, x2, rfl, ⟨b2, k2⟩, r2, hv2, hr2, hz2⟩ := uncons (R := RInt .i64) hv1 hr1 hz1 (fun _ => reader_int Try.underlying3)
    obtain ⟨pE, hrE⟩ := hr2
    obtain ⟨rfl, _, _⟩ := trodAll_nil hrE
    obtain ⟨a0, c0, rfl, l0, m0, t0, n0, el0⟩ := slice_arg Try.underlying22 k0 r0
    obtain ⟨rfl, l1, u1⟩ := int_arg Try.underlying3 k1 r1
    obtain ⟨rfl, l2, u2⟩ := int_arg Try.underlying3 k2 r2
    obtain rfl : args = #[.slice a0 x0.length c0, .int .i64 x1, .int .i64 x2] := by apply Array.ext'; simpa using e0
    exact statesLaw_any _ _ _ _ _ _ W (effF_of el0) (by unfold reachBytes at t0; omega) l0

theorem over : Rows.timelineStatesRow.holds Try.pinned (OpenSpec.ofChange Rows.timelineStatesSpec) :=
  OpenClaim.holds_of_wide 3 Try.f3 rfl rfl rfl rfl rfl rfl rfl ⟨rfl, rfl, rfl, rfl, rfl⟩ rfl rfl rfl rfl rfl (by kernel_rfl) Try.func3 (by kernel_rfl)
    (of_decide_eq_true (by kernel_rfl)) (by unfold Func.isWrapper; first | (rw [if_pos (by decide +kernel)]; kernel_rfl) | (rw [if_neg (by decide +kernel)]; exact ⟨rfl, rfl⟩))
    (fun os started H enc _ => lifted os started H enc)
theorem proved : Rows.TimelineStatesSaid := over
#print axioms proved
end Go.Proofs.Ythddbinbeinafaa.TSS
