

/-
  PrintingOrders (Order and Several put pages in the order of the document): the call returns true for every input.
  Conditions: none beyond the row's own.
-/
import Derived.Test.YtpbnkkeplhgepaaRows
import Derived.Test.YtpbnkkeplhgepaaReads
import Derived.Test.YtpbnkkeplhgepaaPrLaw
namespace Go.Proofs.Ytpbnkkeplhgepaa.PO
open Go.ChangeShapes Go.WideShapes Go.ChangeAt Go.RowKit Go.Law

theorem own : ownKnob Try.prog.godebug = none := by kernel_rfl
set_option maxRecDepth 100000 in
theorem lifted (os : Os) (started : os.Started) (H : Type) (enc : TypeId × Value → H) :
    ReturnsInHanded {} Try.checked os 7 .any (Rows.printingOrdersSpec.pre6 enc Try.prog Try.f7 Rows.printingOrdersRow.domain false) (Rows.printingOrdersSpec.post enc Try.prog Try.f7 false true false false) := by
  refine Law.lifted (C := Try.checked) (tb := 4) own started (by kernel_rfl) Try.func7
    (ChangeSpec.witness6 (enc := enc) (C := Try.checked) false ⟨#[], #[.slice none 0 0, .int .i64 0, .bool false, .bool false, .int .i64 0, .int .i64 0, .bool false], []⟩ 8 (by kernel_rfl) (by kernel_rfl) (by kernel_rfl) (by kernel_rfl)) (by kernel_rfl) (by kernel_rfl) rfl rfl Try.underlying4 ?_ ?_
  · intro ds h
    match ds, h with
    | [d1, d2, d3, d4, d5, d6, d7], _ => rfl
  · intro W args ds hc
    obtain ⟨hvS, hrS, hzS⟩ := hc
    rw [show Try.f7.params.toList = [34, 3, 4, 4, 3, 3, 4] from rfl] at hvS hrS hzS
    have hvT : ∃ base, ∀ (j : Nat) t' v, ([34, 3, 4, 4, 3, 3, 4])[j]? = some t' → args.toList[j]? = some v → Value.okWide Try.prog W .any base t' v := by
      obtain ⟨b, hb⟩ := hvS
      exact ⟨b, fun j t' v h1 h2 => hb j t' v h1 (by simpa using h2)⟩
    obtain ⟨v0, vs0, ds0, x0, e0, ⟨b0, k0⟩, r0, hv0, hr0, hz0⟩ := uncons (R := RSlice (RInt .i64) 1 8) hvT hrS hzS (fun _ => reader_slice Try.underlying34 (s := 1) (bytes := 8) (by kernel_rfl) (by omega) (by kernel_rfl) (fun _ _ => reader_int Try.underlying3))
    obtain ⟨v1, vs1, ds1, x1, rfl, ⟨b1, k1⟩, r1, hv1, hr1, hz1⟩ := uncons (R := RInt .i64) hv0 hr0 hz0 (fun _ => reader_int Try.underlying3)
    obtain ⟨v2, vs2, ds2, x2, rfl, ⟨b2, k2⟩, r2, hv2, hr2, hz2⟩ := uncons (R := RBool) hv1 hr1 hz1 (fun _ => reader_bool Try.underlying4)
    obtain ⟨v3, vs3, ds3, x3, rfl, ⟨b3, k3⟩, r3, hv3, hr3, hz3⟩ := uncons (R := RBool) hv2 hr2 hz2 (fun _ => reader_bool Try.underlying4)
    obtain ⟨v4, vs4, ds4, x4, rfl, ⟨b4, k4⟩, r4, hv4, hr4, hz4⟩ := uncons (R := RInt .i64) hv3 hr3 hz3 (fun _ => reader_int Try.underlying3)
    obtain ⟨v5, vs5, ds5, x5, rfl, ⟨b5, k5⟩, r5, hv5, hr5, hz5⟩ := uncons (R := RInt .i64) hv4 hr4 hz4 (fun _ => reader_int Try.underlying3)
    obtain ⟨v6, vs6, ds6, x6, rfl, ⟨b6, k6⟩, r6, hv6, hr6, hz6⟩ := uncons (R := RBool) hv5 hr5 hz5 (fun _ => reader_bool Try.underlying4)
    obtain ⟨pE, hrE⟩ := hr6
    obtain ⟨rfl, _, _⟩ := trodAll_nil hrE
    obtain ⟨a0, c0, rfl, l0, m0, t0, n0, el0⟩ := slice_arg Try.underlying34 k0 r0
    obtain ⟨in0, bd0⟩ := ints_of_elems el0
    obtain ⟨rfl, l1, u1⟩ := int_arg Try.underlying3 k1 r1
    obtain rfl := bool_arg Try.underlying4 k2 r2
    obtain rfl := bool_arg Try.underlying4 k3 r3
    obtain ⟨rfl, l4, u4⟩ := int_arg Try.underlying3 k4 r4
    obtain ⟨rfl, l5, u5⟩ := int_arg Try.underlying3 k5 r5
    obtain rfl := bool_arg Try.underlying4 k6 r6
    obtain rfl : args = #[.slice a0 x0.length c0, .int .i64 x1, .bool x2, .bool x3, .int .i64 x4, .int .i64 x5, .bool x6] := by apply Array.ext'; simpa using e0
    have hn : x0.length ≤ 1000000000000000000 := by unfold reachBytes at t0; omega
    by_cases he : listE x0.length (fun i => x0.getD i 0) = 0
    · exact law_ok _ _ _ _ _ _ _ _ _ _ W (IntsF.of_ints in0) n0 hn he
    · exact law_bad _ _ _ _ _ _ _ _ _ _ W (IntsF.of_ints in0) hn he

theorem over : Rows.printingOrdersRow.holds Try.pinned (OpenSpec.ofChange Rows.printingOrdersSpec) :=
  OpenClaim.holds_of_wide 7 Try.f7 rfl rfl rfl rfl rfl rfl rfl ⟨rfl, rfl, rfl, rfl, rfl⟩ rfl rfl rfl rfl rfl (by kernel_rfl) Try.func7 (by kernel_rfl)
    (of_decide_eq_true (by kernel_rfl)) (by unfold Func.isWrapper; first | (rw [if_pos (by decide +kernel)]; kernel_rfl) | (rw [if_neg (by decide +kernel)]; exact ⟨rfl, rfl⟩))
    (fun os started H enc _ => lifted os started H enc)
theorem proved : Rows.PrintingOrdersSaid := over
#print axioms proved
end Go.Proofs.Ytpbnkkeplhgepaa.PO
