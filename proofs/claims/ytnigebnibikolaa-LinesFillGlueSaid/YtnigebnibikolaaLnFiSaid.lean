

/-
  LinesFillGlue (Fill changes the glue of a line in proportion): the call returns true for every input.
  Conditions: none beyond the row's own.
-/
import Derived.Test.YtnigebnibikolaaRows
import Derived.Test.YtnigebnibikolaaReads
import Derived.Test.YtnigebnibikolaaLift
import Derived.Test.YtnigebnibikolaaLnRead
import Derived.Test.YtnigebnibikolaaLnFiLaw
namespace Go.Proofs.Ytnigebnibikolaa.LFS
open Go.ChangeShapes Go.WideShapes Go.ChangeAt Go.RowKit Go.Law Go.Law.Ln LnT LN
set_option linter.unusedVariables false
theorem own : ownKnob Try.prog.godebug = none := by kernel_rfl
set_option maxRecDepth 100000 in
theorem lifted (os : Os) (started : os.Started) (H : Type) (enc : TypeId × Value → H) :
    ReturnsInHanded {} Try.checked os 7 .any (Rows.linesFillGlueSpec.pre6 enc Try.prog Try.f7 Rows.linesFillGlueRow.domain false) (Rows.linesFillGlueSpec.post enc Try.prog Try.f7 false true false false) := by
  refine Law.lifted (C := Try.checked) (tb := 4) own started (by kernel_rfl) Try.func7
    (ChangeSpec.witness6 (enc := enc) (C := Try.checked) false ⟨#[], #[.slice none 0 0, .agg #[.int .i64 0, .int .i64 0, .int .i64 0, .int .i64 0, .int .i64 0, .int .i64 0], .bool false], []⟩ 8 (by kernel_rfl) (by kernel_rfl) (by kernel_rfl) (by kernel_rfl)) (by kernel_rfl) (by kernel_rfl) rfl rfl Try.underlying4 ?_ ?_
  · intro ds h
    match ds, h with
    | [d1, d2, d3], _ => rfl
  · intro W args ds hc
    obtain ⟨hvS, hrS, hzS⟩ := hc
    rw [show Try.f7.params.toList = [58, 74, 4] from rfl] at hvS hrS hzS
    have hvT : ∃ base, ∀ (j : Nat) t' v, ([58, 74, 4])[j]? = some t' → args.toList[j]? = some v → Value.okWide Try.prog W .any base t' v := by
      obtain ⟨b, hb⟩ := hvS
      exact ⟨b, fun j t' v h1 h2 => hb j t' v h1 (by simpa using h2)⟩
    obtain ⟨v0, vs0, ds0, x0, e0, ⟨b0, k0⟩, r0, hv0, hr0, hz0⟩ := uncons (R := RSlice RPart 6 48) hvT hrS hzS (fun _ => reader_parts)
    obtain ⟨v1, vs1, ds1, x1, rfl, ⟨b1, k1⟩, r1, hv1, hr1, hz1⟩ := uncons (R := RPair (RInt .i64) (RPair (RInt .i64) (RPair (RInt .i64) (RPair (RInt .i64) (RPair (RInt .i64) (RPair (RInt .i64) RNil)))))) hv0 hr0 hz0 (fun _ => reader_struct Try.underlying74 rfl (by kernel_rfl) (fun m _ => fields_cons (c := 1) rfl (by kernel_rfl) (reader_int Try.underlying3) (fields_cons (c := 1) rfl (by kernel_rfl) (reader_int Try.underlying3) (fields_cons (c := 1) rfl (by kernel_rfl) (reader_int Try.underlying3) (fields_cons (c := 1) rfl (by kernel_rfl) (reader_int Try.underlying3) (fields_cons (c := 1) rfl (by kernel_rfl) (reader_int Try.underlying3) (fields_cons (c := 1) rfl (by kernel_rfl) (reader_int Try.underlying3) fields_nil)))))))
    obtain ⟨v2, vs2, ds2, x2, rfl, ⟨b2, k2⟩, r2, hv2, hr2, hz2⟩ := uncons (R := RBool) hv1 hr1 hz1 (fun _ => reader_bool Try.underlying4)
    obtain ⟨pE, hrE⟩ := hr2
    obtain ⟨rfl, _, _⟩ := trodAll_nil hrE
    obtain ⟨a0, c0, rfl, l0, m0, t0, n0, el0⟩ := slice_arg Try.underlying58 k0 r0
    obtain ⟨cs, rfl, hcs⟩ := struct_arg Try.underlying74 k1
    obtain rfl := bool_arg Try.underlying4 k2 r2
    obtain ⟨_, _, hc1, ⟨rfl, _⟩, _, _, rfl, ⟨rfl, _⟩, _, _, rfl, ⟨rfl, _⟩, _, _, rfl, ⟨rfl, _⟩, _, _, rfl, ⟨rfl, _⟩, _, _, rfl, ⟨rfl, _⟩, rfl⟩ := r1
    rw [hcs] at hc1
    obtain ⟨y0, y1, y2, y3, y4, y5, u⟩ := x1
    obtain rfl : cs = #[.int .i64 y0, .int .i64 y1, .int .i64 y2, .int .i64 y3, .int .i64 y4, .int .i64 y5] := by apply Array.ext'; simpa using hc1
    obtain rfl : args = #[.slice a0 x0.length c0, .agg #[.int .i64 y0, .int .i64 y1, .int .i64 y2, .int .i64 y3, .int .i64 y4, .int .i64 y5], .bool x2] := by apply Array.ext'; simpa using e0
    exact fiLaw_any _ _ _ _ _ _ _ _ _ _ _ W (paF_of el0) l0 (by unfold reachBytes at t0; omega)

theorem over : Rows.linesFillGlueRow.holds Try.pinned (OpenSpec.ofChange Rows.linesFillGlueSpec) :=
  OpenClaim.holds_of_wide 7 Try.f7 rfl rfl rfl rfl rfl rfl rfl ⟨rfl, rfl, rfl, rfl, rfl⟩ rfl rfl rfl rfl rfl (by kernel_rfl) Try.func7 (by kernel_rfl)
    (of_decide_eq_true (by kernel_rfl)) (by unfold Func.isWrapper; first | (rw [if_pos (by decide +kernel)]; kernel_rfl) | (rw [if_neg (by decide +kernel)]; exact ⟨rfl, rfl⟩))
    (fun os started H enc _ => lifted os started H enc)
theorem proved : Rows.LinesFillGlueSaid := over
#print axioms proved
end Go.Proofs.Ytnigebnibikolaa.LFS
