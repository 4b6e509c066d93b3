

/-
  BidiOrderReverses (Order reverses stretches from the greatest level down): the call returns true for every list.
  Conditions: none beyond the row's own.
-/
import Derived.Test.YtpbnkkeplhgepaaRows
import Derived.Test.YtpbnkkeplhgepaaReads
import Derived.Test.YtpbnkkeplhgepaaBidiLaw
namespace Go.Proofs.Ytpbnkkeplhgepaa.BO
open Go.ChangeShapes Go.WideShapes Go.ChangeAt Go.RowKit Go.Law

theorem own : ownKnob Try.prog.godebug = none := by kernel_rfl
set_option maxRecDepth 100000 in
theorem lifted (os : Os) (started : os.Started) (H : Type) (enc : TypeId × Value → H) :
    ReturnsInHanded {} Try.checked os 5 .any (Rows.bidiOrderReversesSpec.pre6 enc Try.prog Try.f5 Rows.bidiOrderReversesRow.domain false) (Rows.bidiOrderReversesSpec.post enc Try.prog Try.f5 false true false false) := by
  refine Law.lifted (C := Try.checked) (tb := 4) own started (by kernel_rfl) Try.func5
    (ChangeSpec.witness6 (enc := enc) (C := Try.checked) false ⟨#[], #[.slice none 0 0], []⟩ 8 (by kernel_rfl) (by kernel_rfl) (by kernel_rfl) (by kernel_rfl)) (by kernel_rfl) (by kernel_rfl) rfl rfl Try.underlying4 ?_ ?_
  · intro ds h
    match ds, h with
    | [d1], _ => rfl
  · intro W args ds hc
    obtain ⟨hvS, hrS, hzS⟩ := hc
    rw [show Try.f5.params.toList = [34] from rfl] at hvS hrS hzS
    have hvT : ∃ base, ∀ (j : Nat) t' v, ([34])[j]? = some t' → args.toList[j]? = some v → Value.okWide Try.prog W .any base t' v := by
      obtain ⟨b, hb⟩ := hvS
      exact ⟨b, fun j t' v h1 h2 => hb j t' v h1 (by simpa using h2)⟩
    obtain ⟨v0, vs0, ds0, x0, e0, ⟨b0, k0⟩, r0, hv0, hr0, hz0⟩ := uncons (R := RSlice (RInt .i64) 1 8) hvT hrS hzS (fun _ => reader_slice Try.underlying34 (s := 1) (bytes := 8) (by kernel_rfl) (by omega) (by kernel_rfl) (fun _ _ => reader_int Try.underlying3))
    obtain ⟨pE, hrE⟩ := hr0
    obtain ⟨rfl, _, _⟩ := trodAll_nil hrE
    obtain ⟨a0, c0, rfl, l0, m0, t0, el0⟩ := slice_arg Try.underlying34 k0 r0
    obtain ⟨in0, bd0⟩ := ints_of_elems el0
    obtain rfl : args = #[.slice a0 x0.length c0] := by apply Array.ext'; simpa using e0
    exact law_any _ _ _ _ W (IntsF.of_ints in0) (by unfold reachBytes at t0; omega)

theorem over : Rows.bidiOrderReversesRow.holds Try.pinned (OpenSpec.ofChange Rows.bidiOrderReversesSpec) :=
  OpenClaim.holds_of_wide 5 Try.f5 rfl rfl rfl rfl rfl rfl rfl ⟨rfl, rfl, rfl, rfl, rfl⟩ rfl rfl rfl rfl rfl (by kernel_rfl) Try.func5 (by kernel_rfl)
    (of_decide_eq_true (by kernel_rfl)) (by unfold Func.isWrapper; first | (rw [if_pos (by decide +kernel)]; kernel_rfl) | (rw [if_neg (by decide +kernel)]; exact ⟨rfl, rfl⟩))
    (fun os started H enc _ => lifted os started H enc)
theorem proved : Rows.BidiOrderReversesSaid := over
#print axioms proved
end Go.Proofs.Ytpbnkkeplhgepaa.BO
