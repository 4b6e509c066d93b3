

/-
  BalanceWidths (Widths divides the width of a table): the call returns true for every input.
  Conditions: none beyond the row's own.
-/
import Derived.Test.YtpbnkkeplhgepaaRows
import Derived.Test.YtpbnkkeplhgepaaReads
import Derived.Test.YtpbnkkeplhgepaaBalLaw
namespace Go.Proofs.Ytpbnkkeplhgepaa.BW
open Go.ChangeShapes Go.WideShapes Go.ChangeAt Go.RowKit Go.Law Go.Law.Bal BA
set_option linter.unusedVariables false

theorem own : ownKnob Try.prog.godebug = none := by kernel_rfl
set_option maxRecDepth 100000 in
theorem lifted (os : Os) (started : os.Started) (H : Type) (enc : TypeId × Value → H) :
    ReturnsInHanded {} Try.checked os 12 .any (Rows.balanceWidthsSpec.pre6 enc Try.prog Try.f12 Rows.balanceWidthsRow.domain false) (Rows.balanceWidthsSpec.post enc Try.prog Try.f12 false true false false) := by
  refine Law.lifted (C := Try.checked) (tb := 4) own started (by kernel_rfl) Try.func12
    (ChangeSpec.witness6 (enc := enc) (C := Try.checked) false ⟨#[], #[.int .i64 0, .slice none 0 0, .int .i64 0], []⟩ 8 (by kernel_rfl) (by kernel_rfl) (by kernel_rfl) (by kernel_rfl)) (by kernel_rfl) (by kernel_rfl) rfl rfl Try.underlying4 ?_ ?_
  · intro ds h
    match ds, h with
    | [d1, d2, d3], _ => rfl
  · intro W args ds hc
    obtain ⟨hvS, hrS, hzS⟩ := hc
    rw [show Try.f12.params.toList = [3, 79, 3] from rfl] at hvS hrS hzS
    have hvT : ∃ base, ∀ (j : Nat) t' v, ([3, 79, 3])[j]? = some t' → args.toList[j]? = some v → Value.okWide Try.prog W .any base t' v := by
      obtain ⟨b, hb⟩ := hvS
      exact ⟨b, fun j t' v h1 h2 => hb j t' v h1 (by simpa using h2)⟩
    obtain ⟨v0, vs0, ds0, x0, e0, ⟨b0, k0⟩, r0, hv0, hr0, hz0⟩ := uncons (R := RInt .i64) hvT hrS hzS (fun _ => reader_int Try.underlying3)
    obtain ⟨v1, vs1, ds1, x1, rfl, ⟨b1, k1⟩, r1, hv1, hr1, hz1⟩ := uncons (R := RSlice (RPair (RInt .i64) (RPair (RInt .i64) (RPair (RInt .i64) (RPair (RInt .i64) RNil)))) 4 32) hv0 hr0 hz0 (fun _ => reader_slice Try.underlying79 (s := 4) (bytes := 32) (by kernel_rfl) (by omega) (by kernel_rfl) (fun _ _ => reader_struct Try.underlying94 rfl (by kernel_rfl) (fun m _ => fields_cons (c := 1) rfl (by kernel_rfl) (reader_int Try.underlying3) (fields_cons (c := 1) rfl (by kernel_rfl) (reader_int Try.underlying3) (fields_cons (c := 1) rfl (by kernel_rfl) (reader_int Try.underlying3) (fields_cons (c := 1) rfl (by kernel_rfl) (reader_int Try.underlying3) fields_nil))))))
    obtain ⟨v2, vs2, ds2, x2, rfl, ⟨b2, k2⟩, r2, hv2, hr2, hz2⟩ := uncons (R := RInt .i64) hv1 hr1 hz1 (fun _ => reader_int Try.underlying3)
    obtain ⟨pE, hrE⟩ := hr2
    obtain ⟨rfl, _, _⟩ := trodAll_nil hrE
    obtain ⟨rfl, l2, u2⟩ := int_arg Try.underlying3 k2 r2
    obtain ⟨rfl, l0, u0⟩ := int_arg Try.underlying3 k0 r0
    obtain ⟨a1, c1, rfl, l1, m1, t1, n1, el1⟩ := slice_arg Try.underlying79 k1 r1
    have hstr := StrF.of_elems (g := fun x => [x.1, x.2.1, x.2.2.1, x.2.2.2.1]) el1 (fun cs x h => by
      obtain ⟨y1, d1, rfl, ⟨rfl, _⟩, y2, d2, rfl, ⟨rfl, _⟩, y3, d3, rfl, ⟨rfl, _⟩, y4, d4, rfl, ⟨rfl, _⟩, rfl⟩ := h
      rfl)
    have hn : x1.length ≤ 1000000000000000000 := by unfold reachBytes at t1; omega
    obtain rfl : args = #[.int .i64 x0, .slice a1 x1.length c1, .int .i64 x2] := by apply Array.ext'; simpa using e0
    exact law12_any _ _ _ _ _ _ W hstr hn

theorem over : Rows.balanceWidthsRow.holds Try.pinned (OpenSpec.ofChange Rows.balanceWidthsSpec) :=
  OpenClaim.holds_of_wide 12 Try.f12 rfl rfl rfl rfl rfl rfl rfl ⟨rfl, rfl, rfl, rfl, rfl⟩ rfl rfl rfl rfl rfl (by kernel_rfl) Try.func12 (by kernel_rfl)
    (of_decide_eq_true (by kernel_rfl)) (by unfold Func.isWrapper; first | (rw [if_pos (by decide +kernel)]; kernel_rfl) | (rw [if_neg (by decide +kernel)]; exact ⟨rfl, rfl⟩))
    (fun os started H enc _ => lifted os started H enc)
theorem proved : Rows.BalanceWidthsSaid := over
#print axioms proved
end Go.Proofs.Ytpbnkkeplhgepaa.BW
