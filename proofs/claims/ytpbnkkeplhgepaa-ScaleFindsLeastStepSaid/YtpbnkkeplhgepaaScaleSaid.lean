

/-
  ScaleFindsLeastStep (Find has the least step of the document's list that is great enough): the call returns true for every input.
  Conditions: none beyond the row's own.
-/
import Derived.Test.YtpbnkkeplhgepaaRows
import Derived.Test.YtpbnkkeplhgepaaReads
import Derived.Test.YtpbnkkeplhgepaaScaleLaw
namespace Go.Proofs.Ytpbnkkeplhgepaa.SF
open Go.ChangeShapes Go.WideShapes Go.ChangeAt Go.RowKit Go.Law

theorem law_any (low high steps : Int) (w : World) :
    Calls Try.prog 4 #[.int .i64 low, .int .i64 high, .int .i64 steps] w fun e w' => e = .returned (.bool true) ∧ Below w.heap.size w w' := by
  by_cases h : (-1000000000000 ≤ low ∧ low ≤ 1000000000000) ∧ (-1000000000000 ≤ high ∧ high ≤ 1000000000000) ∧ (2 ≤ steps ∧ steps ≤ 50)
  · by_cases k : low ≤ high
    · exact law_ok _ _ _ _ h.1 h.2.1 h.2.2 k
    · exact law_order _ _ _ _ h.1 h.2.1 h.2.2 (by omega)
  · exact law_range _ _ _ _ h

theorem own : ownKnob Try.prog.godebug = none := by kernel_rfl
set_option maxRecDepth 100000 in
theorem lifted (os : Os) (started : os.Started) (H : Type) (enc : TypeId × Value → H) :
    ReturnsInHanded {} Try.checked os 4 .any (Rows.scaleFindsLeastStepSpec.pre6 enc Try.prog Try.f4 Rows.scaleFindsLeastStepRow.domain false) (Rows.scaleFindsLeastStepSpec.post enc Try.prog Try.f4 false true false false) := by
  refine Law.lifted (C := Try.checked) (tb := 4) own started (by kernel_rfl) Try.func4
    (ChangeSpec.witness6 (enc := enc) (C := Try.checked) false ⟨#[], #[.int .i64 0, .int .i64 0, .int .i64 0], []⟩ 8 (by kernel_rfl) (by kernel_rfl) (by kernel_rfl) (by kernel_rfl)) (by kernel_rfl) (by kernel_rfl) rfl rfl Try.underlying4 ?_ ?_
  · intro ds h
    match ds, h with
    | [d1, d2, d3], _ => rfl
  · intro W args ds hc
    obtain ⟨hvS, hrS, hzS⟩ := hc
    rw [show Try.f4.params.toList = [3, 3, 3] from rfl] at hvS hrS hzS
    have hvT : ∃ base, ∀ (j : Nat) t' v, ([3, 3, 3])[j]? = some t' → args.toList[j]? = some v → Value.okWide Try.prog W .any base t' v := by
      obtain ⟨b, hb⟩ := hvS
      exact ⟨b, fun j t' v h1 h2 => hb j t' v h1 (by simpa using h2)⟩
    obtain ⟨v0, vs0, ds0, x0, e0, ⟨b0, k0⟩, r0, hv0, hr0, hz0⟩ := uncons (R := RInt .i64) hvT hrS hzS (fun _ => reader_int Try.underlying3)
    obtain ⟨v1, vs1, ds1, x1, rfl, ⟨b1, k1⟩, r1, hv1, hr1, hz1⟩ := uncons (R := RInt .i64) hv0 hr0 hz0 (fun _ => reader_int Try.underlying3)
    obtain ⟨v2, vs2, ds2, x2, rfl, ⟨b2, k2⟩, r2, hv2, hr2, hz2⟩ := uncons (R := RInt .i64) hv1 hr1 hz1 (fun _ => reader_int Try.underlying3)
    obtain ⟨pE, hrE⟩ := hr2
    obtain ⟨rfl, _, _⟩ := trodAll_nil hrE
    obtain ⟨rfl, l0, u0⟩ := int_arg Try.underlying3 k0 r0
    obtain ⟨rfl, l1, u1⟩ := int_arg Try.underlying3 k1 r1
    obtain ⟨rfl, l2, u2⟩ := int_arg Try.underlying3 k2 r2
    obtain rfl : args = #[.int .i64 x0, .int .i64 x1, .int .i64 x2] := by apply Array.ext'; simpa using e0
    exact law_any _ _ _ W

theorem over : Rows.scaleFindsLeastStepRow.holds Try.pinned (OpenSpec.ofChange Rows.scaleFindsLeastStepSpec) :=
  OpenClaim.holds_of_wide 4 Try.f4 rfl rfl rfl rfl rfl rfl rfl ⟨rfl, rfl, rfl, rfl, rfl⟩ rfl rfl rfl rfl rfl (by kernel_rfl) Try.func4 (by kernel_rfl)
    (of_decide_eq_true (by kernel_rfl)) (by unfold Func.isWrapper; first | (rw [if_pos (by decide +kernel)]; kernel_rfl) | (rw [if_neg (by decide +kernel)]; exact ⟨rfl, rfl⟩))
    (fun os started H enc _ => lifted os started H enc)
theorem proved : Rows.ScaleFindsLeastStepSaid := over
#print axioms proved
end Go.Proofs.Ytpbnkkeplhgepaa.SF
