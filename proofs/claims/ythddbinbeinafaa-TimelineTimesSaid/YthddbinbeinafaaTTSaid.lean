

/-
  TimelineTimes (Times and Clicks against one effect at a time): the call returns true for every input.
  Conditions: none beyond the row's own.
-/
import Derived.Test.YthddbinbeinafaaRows
import Derived.Test.YthddbinbeinafaaReads
import Derived.Test.YthddbinbeinafaaLift
import Derived.Test.YthddbinbeinafaaTlRead
import Derived.Test.YthddbinbeinafaaTlLaw2
namespace Go.Proofs.Ythddbinbeinafaa.TTS
open Go.ChangeShapes Go.WideShapes Go.ChangeAt Go.RowKit Go.Law Go.Law.Tl TL
set_option linter.unusedVariables false
theorem own : ownKnob Try.prog.godebug = none := by kernel_rfl
set_option maxRecDepth 100000 in
theorem lifted (os : Os) (started : os.Started) (H : Type) (enc : TypeId × Value → H) :
    ReturnsInHanded {} Try.checked os 4 .any (Rows.timelineTimesSpec.pre6 enc Try.prog Try.f4 Rows.timelineTimesRow.domain false) (Rows.timelineTimesSpec.post enc Try.prog Try.f4 false true false false) := by
  refine Law.lifted (C := Try.checked) (tb := 4) own started (by kernel_rfl) Try.func4
    (ChangeSpec.witness6 (enc := enc) (C := Try.checked) false ⟨#[], #[.slice none 0 0], []⟩ 8 (by kernel_rfl) (by kernel_rfl) (by kernel_rfl) (by kernel_rfl)) (by kernel_rfl) (by kernel_rfl) rfl rfl Try.underlying4 ?_ ?_
  · intro ds h
    match ds, h with
    | [d1], _ => rfl
  · intro W args ds hc
    obtain ⟨hvS, hrS, hzS⟩ := hc
    rw [show Try.f4.params.toList = [22] from rfl] at hvS hrS hzS
    have hvT : ∃ base, ∀ (j : Nat) t' v, ([22])[j]? = some t' → args.toList[j]? = some v → Value.okWide Try.prog W .any base t' v := by
      obtain ⟨b, hb⟩ := hvS
      exact ⟨b, fun j t' v h1 h2 => hb j t' v h1 (by simpa using h2)⟩
    obtain ⟨v0, vs0, ds0, x0, e0, ⟨b0, k0⟩, r0, hv0, hr0, hz0⟩ := uncons (R := RSlice REff 7 56) hvT hrS hzS (fun _ => reader_effs)
    obtain ⟨pE, hrE⟩ := hr0
    obtain ⟨rfl, _, _⟩ := trodAll_nil hrE
    obtain ⟨a0, c0, rfl, l0, m0, t0, n0, el0⟩ := slice_arg Try.underlying22 k0 r0
    obtain rfl : args = #[.slice a0 x0.length c0] := by apply Array.ext'; simpa using e0
    exact timesLaw_any _ _ _ _ W (effF_of el0) (by unfold reachBytes at t0; omega)

theorem over : Rows.timelineTimesRow.holds Try.pinned (OpenSpec.ofChange Rows.timelineTimesSpec) :=
  OpenClaim.holds_of_wide 4 Try.f4 rfl rfl rfl rfl rfl rfl rfl ⟨rfl, rfl, rfl, rfl, rfl⟩ rfl rfl rfl rfl rfl (by kernel_rfl) Try.func4 (by kernel_rfl)
    (of_decide_eq_true (by kernel_rfl)) (by unfold Func.isWrapper; first | (rw [if_pos (by decide +kernel)]; kernel_rfl) | (rw [if_neg (by decide +kernel)]; exact ⟨rfl, rfl⟩))
    (fun os started H enc _ => lifted os started H enc)
theorem proved : Rows.TimelineTimesSaid := over
#print axioms proved
end Go.Proofs.Ythddbinbeinafaa.TTS
