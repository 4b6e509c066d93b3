

/-
  ScalePlaces (Check, Marks and Place know the scale): the call returns true for every input.
  Conditions: none beyond the row's own.
-/
import Derived.Test.YtpbnkkeplhgepaaRows
import Derived.Test.YtpbnkkeplhgepaaReads
import Derived.Test.YtpbnkkeplhgepaaSPLaw
namespace Go.Proofs.Ytpbnkkeplhgepaa.SP
open Go.ChangeShapes Go.WideShapes Go.ChangeAt Go.RowKit Go.Law

theorem law_any (lo hi st value long : Int) (w : World) :
    Calls Try.prog 6 #[.agg #[.int .i64 lo, .int .i64 hi, .int .i64 st], .int .i64 value, .int .i64 long] w fun e w' => e = .returned (.bool true) ∧ Below w.heap.size w w' := by
  by_cases hc : chk lo hi st = 0
  · exact law_ok _ _ _ _ _ _ (Lib.hid hc)
  · exact law_bad _ _ _ _ _ _ hc

theorem own : ownKnob Try.prog.godebug = none := by kernel_rfl
set_option maxRecDepth 100000 in
theorem lifted (os : Os) (started : os.Started) (H : Type) (enc : TypeId × Value → H) :
    ReturnsInHanded {} Try.checked os 6 .any (Rows.scalePlacesSpec.pre6 enc Try.prog Try.f6 Rows.scalePlacesRow.domain false) (Rows.scalePlacesSpec.post enc Try.prog Try.f6 false true false false) := by
  refine Law.lifted (C := Try.checked) (tb := 4) own started (by kernel_rfl) Try.func6
    (ChangeSpec.witness6 (enc := enc) (C := Try.checked) false ⟨#[], #[.agg #[.int .i64 0, .int .i64 0, .int .i64 0], .int .i64 0, .int .i64 0], []⟩ 8 (by kernel_rfl) (by kernel_rfl) (by kernel_rfl) (by kernel_rfl)) (by kernel_rfl) (by kernel_rfl) rfl rfl Try.underlying4 ?_ ?_
  · intro ds h
    match ds, h with
    | [d1, d2, d3], _ => rfl
  · intro W args ds hc
    obtain ⟨hvS, hrS, hzS⟩ := hc
    rw [show Try.f6.params.toList = [30, 3, 3] from rfl] at hvS hrS hzS
    have hvT : ∃ base, ∀ (j : Nat) t' v, ([30, 3, 3])[j]? = some t' → args.toList[j]? = some v → Value.okWide Try.prog W .any base t' v := by
      obtain ⟨b, hb⟩ := hvS
      exact ⟨b, fun j t' v h1 h2 => hb j t' v h1 (by simpa using h2)⟩
    obtain ⟨v0, vs0, ds0, x0, e0, ⟨b0, k0⟩, r0, hv0, hr0, hz0⟩ := uncons (R := RPair (RInt .i64) (RPair (RInt .i64) (RPair (RInt .i64) RNil))) hvT hrS hzS (fun _ => reader_struct Try.underlying30 rfl (by kernel_rfl) (fun m _ => fields_cons (c := 1) rfl (by kernel_rfl) (reader_int Try.underlying3) (fields_cons (c := 1) rfl (by kernel_rfl) (reader_int Try.underlying3) (fields_cons (c := 1) rfl (by kernel_rfl) (reader_int Try.underlying3) fields_nil))))
    obtain ⟨v1, vs1, ds1, x1, rfl, ⟨b1, k1⟩, r1, hv1, hr1, hz1⟩ := uncons (R := RInt .i64) hv0 hr0 hz0 (fun _ => reader_int Try.underlying3)
    obtain ⟨v2, vs2, ds2, x2, rfl, ⟨b2, k2⟩, r2, hv2, hr2, hz2⟩ := uncons (R := RInt .i64) hv1 hr1 hz1 (fun _ => reader_int Try.underlying3)
    obtain ⟨pE, hrE⟩ := hr2
    obtain ⟨rfl, _, _⟩ := trodAll_nil hrE
    obtain ⟨rfl, l1, u1⟩ := int_arg Try.underlying3 k1 r1
    obtain ⟨rfl, l2, u2⟩ := int_arg Try.underlying3 k2 r2
    obtain ⟨cs, rfl, hcs⟩ := struct_arg Try.underlying30 k0
    obtain ⟨c1, d1, hc1, ⟨rfl, _⟩, c2, d2, rfl, ⟨rfl, _⟩, c3, d3, rfl, ⟨rfl, _⟩, rfl⟩ := r0
    rw [hcs] at hc1
    obtain rfl : cs = #[.int .i64 x0.1, .int .i64 x0.2.1, .int .i64 x0.2.2.1] := by apply Array.ext'; simpa using hc1
    obtain rfl : args = #[.agg #[.int .i64 x0.1, .int .i64 x0.2.1, .int .i64 x0.2.2.1], .int .i64 x1, .int .i64 x2] := by apply Array.ext'; simpa using e0
    exact law_any _ _ _ _ _ W

theorem over : Rows.scalePlacesRow.holds Try.pinned (OpenSpec.ofChange Rows.scalePlacesSpec) :=
  OpenClaim.holds_of_wide 6 Try.f6 rfl rfl rfl rfl rfl rfl rfl ⟨rfl, rfl, rfl, rfl, rfl⟩ rfl rfl rfl rfl rfl (by kernel_rfl) Try.func6 (by kernel_rfl)
    (of_decide_eq_true (by kernel_rfl)) (by unfold Func.isWrapper; first | (rw [if_pos (by decide +kernel)]; kernel_rfl) | (rw [if_neg (by decide +kernel)]; exact ⟨rfl, rfl⟩))
    (fun os started H enc _ => lifted os started H enc)
theorem proved : Rows.ScalePlacesSaid := over
#print axioms proved
end Go.Proofs.Ytpbnkkeplhgepaa.SP
