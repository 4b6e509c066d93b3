

/-
  PrintingPlaces (a page is placed into a part of a sheet as the document says): the call returns true for every input.
  Conditions: none beyond the row's own.
-/
import Derived.Test.YtpbnkkeplhgepaaRows
import Derived.Test.YtpbnkkeplhgepaaReads
import Derived.Test.YtpbnkkeplhgepaaPlaceLaw
namespace Go.Proofs.Ytpbnkkeplhgepaa.PP
open Go.ChangeShapes Go.WideShapes Go.ChangeAt Go.RowKit Go.Law

theorem law_any (pw ph x0 y0 x1 y1 : Int) (w : World) :
   Calls Try.prog 3 #[.int .i64 pw, .int .i64 ph, .agg #[.int .i64 x0, .int .i64 y0, .int .i64 x1, .int .i64 y1]] w fun e w' => e = .returned (.bool true) ∧ Below w.heap.size w w' := by
  by_cases h : ((0 ≤ x0 ∧ x0 ≤ 31680) ∧ (0 ≤ y0 ∧ y0 ≤ 31680) ∧ (0 ≤ x1 ∧ x1 ≤ 31680) ∧ (0 ≤ y1 ∧ y1 ≤ 31680) ∧ (1 ≤ pw ∧ pw ≤ 31680) ∧ (1 ≤ ph ∧ ph ≤ 31680))
  · obtain ⟨h1, h2, h3, h4, h5, h6⟩ := h
    by_cases k : 1 ≤ x1 - x0 ∧ 1 ≤ y1 - y0
    · exact law_ok _ _ _ _ _ _ _ h1 h2 h3 h4 h5 h6 k.1 k.2
    · exact law_order _ _ _ _ _ _ _ h1 h2 h3 h4 h5 h6 k
  · exact law_bad _ _ _ _ _ _ _ h

theorem own : ownKnob Try.prog.godebug = none := by kernel_rfl
set_option maxRecDepth 100000 in
theorem lifted (os : Os) (started : os.Started) (H : Type) (enc : TypeId × Value → H) :
    ReturnsInHanded {} Try.checked os 3 .any (Rows.printingPlacesSpec.pre6 enc Try.prog Try.f3 Rows.printingPlacesRow.domain false) (Rows.printingPlacesSpec.post enc Try.prog Try.f3 false true false false) := by
  refine Law.lifted (C := Try.checked) (tb := 4) own started (by kernel_rfl) Try.func3
    (ChangeSpec.witness6 (enc := enc) (C := Try.checked) false ⟨#[], #[.int .i64 0, .int .i64 0, .agg #[.int .i64 0, .int .i64 0, .int .i64 0, .int .i64 0]], []⟩ 8 (by kernel_rfl) (by kernel_rfl) (by kernel_rfl) (by kernel_rfl)) (by kernel_rfl) (by kernel_rfl) rfl rfl Try.underlying4 ?_ ?_
  · intro ds h
    match ds, h with
    | [d1, d2, d3], _ => rfl
  · intro W args ds hc
    obtain ⟨hv, hr, hz⟩ := hc
    have hp : Try.f3.params.toList = [3, 3, 23] := rfl
    rw [hp] at hv hr hz
    have hv' : ∃ base, ∀ (j : Nat) t' v, [3, 3, 23][j]? = some t' → args.toList[j]? = some v → Value.okWide Try.prog W .any base t' v := by
      obtain ⟨b, hb⟩ := hv; exact ⟨b, fun j t' v h1 h2 => hb j t' v h1 (by simpa using h2)⟩
    obtain ⟨v0, vs0, ds0, x0, e0, ⟨b0, k0⟩, r0, hv1, hr1, hz1⟩ := uncons hv' hr hz (fun _ => reader_int Try.underlying3)
    obtain ⟨v1, vs1, ds1, x1, rfl, ⟨b1, k1⟩, r1, hv2, hr2, hz2⟩ := uncons hv1 hr1 hz1 (fun _ => reader_int Try.underlying3)
    obtain ⟨v2, vs2, ds2, x2, rfl, ⟨b2, k2⟩, r2, hv3, hr3, hz3⟩ := uncons (R := RPair (RInt .i64) (RPair (RInt .i64) (RPair (RInt .i64) (RPair (RInt .i64) RNil)))) hv2 hr2 hz2 (fun _ => reader_struct Try.underlying23 rfl (by kernel_rfl) (fun m _ =>
      fields_cons (c := 1) rfl (by kernel_rfl) (reader_int Try.underlying3) (fields_cons (c := 1) rfl (by kernel_rfl) (reader_int Try.underlying3) (fields_cons (c := 1) rfl (by kernel_rfl) (reader_int Try.underlying3) (fields_cons (c := 1) rfl (by kernel_rfl) (reader_int Try.underlying3) fields_nil)))))
    obtain ⟨p3, hr3⟩ := hr3
    obtain ⟨rfl, _, _⟩ := trodAll_nil hr3
    obtain ⟨rfl, _⟩ := int_arg Try.underlying3 k0 r0
    obtain ⟨rfl, _⟩ := int_arg Try.underlying3 k1 r1
    obtain ⟨cs, rfl, hcs⟩ := struct_arg Try.underlying23 k2
    obtain ⟨c1, d1, hc1, ⟨rfl, _⟩, c2, d2, rfl, ⟨rfl, _⟩, c3, d3, rfl, ⟨rfl, _⟩, c4, d4, rfl, ⟨rfl, _⟩, rfl⟩ := r2
    rw [hcs] at hc1
    obtain rfl : cs = #[.int .i64 x2.1, .int .i64 x2.2.1, .int .i64 x2.2.2.1, .int .i64 x2.2.2.2.1] := by
      apply Array.ext'; simpa using hc1
    obtain rfl : args = #[.int .i64 x0, .int .i64 x1, .agg #[.int .i64 x2.1, .int .i64 x2.2.1, .int .i64 x2.2.2.1, .int .i64 x2.2.2.2.1]] := by
      apply Array.ext'; simpa using e0
    exact law_any _ _ _ _ _ _ W

theorem over : Rows.printingPlacesRow.holds Try.pinned (OpenSpec.ofChange Rows.printingPlacesSpec) :=
  OpenClaim.holds_of_wide 3 Try.f3 rfl rfl rfl rfl rfl rfl rfl ⟨rfl, rfl, rfl, rfl, rfl⟩ rfl rfl rfl rfl rfl (by kernel_rfl) Try.func3 (by kernel_rfl)
    (of_decide_eq_true (by kernel_rfl)) (by unfold Func.isWrapper; first | (rw [if_pos (by decide +kernel)]; kernel_rfl) | (rw [if_neg (by decide +kernel)]; exact ⟨rfl, rfl⟩))
    (fun os started H enc _ => lifted os started H enc)
theorem proved : Rows.PrintingPlacesSaid := over
#print axioms proved
end Go.Proofs.Ytpbnkkeplhgepaa.PP
