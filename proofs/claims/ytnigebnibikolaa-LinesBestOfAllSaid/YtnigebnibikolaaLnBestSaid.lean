

/-
  LinesBestOfAll (Break has the cheapest lines of all ways): the call returns true for every input.
  Conditions: none beyond the row's own.
-/
import Derived.Test.YtnigebnibikolaaRows
import Derived.Test.YtnigebnibikolaaReads
import Derived.Test.YtnigebnibikolaaLift
import Derived.Test.YtnigebnibikolaaLnRead
import Derived.Test.YtnigebnibikolaaLnBestLaw
namespace Go.Proofs.Ytnigebnibikolaa.LBS
open Go.ChangeShapes Go.WideShapes Go.ChangeAt Go.RowKit Go.Law Go.Law.Ln LnT LN
set_option linter.unusedVariables false
theorem own : ownKnob Try.prog.godebug = none := by kernel_rfl
set_option maxRecDepth 100000 in
theorem lifted (os : Os) (started : os.Started) (H : Type) (enc : TypeId × Value → H) :
    ReturnsInHanded {} Try.checked os 5 .any (Rows.linesBestOfAllSpec.pre6 enc Try.prog Try.f5 Rows.linesBestOfAllRow.domain false) (Rows.linesBestOfAllSpec.post enc Try.prog Try.f5 false true false false) := by
  refine Law.lifted (C := Try.checked) (tb := 4) own started (by kernel_rfl) Try.func5
    (ChangeSpec.witness6 (enc := enc) (C := Try.checked) false ⟨#[], #[.slice none 0 0, .agg #[.slice none 0 0, .int .i64 0]], []⟩ 8 (by kernel_rfl) (by kernel_rfl) (by kernel_rfl) (by kernel_rfl)) (by kernel_rfl) (by kernel_rfl) rfl rfl Try.underlying4 ?_ ?_
  · intro ds h
    match ds, h with
    | [d1, d2], _ => rfl
  · intro W args ds hc
    obtain ⟨hvS, hrS, hzS⟩ := hc
    rw [show Try.f5.params.toList = [58, 60] from rfl] at hvS hrS hzS
    have hvT : ∃ base, ∀ (j : Nat) t' v, ([58, 60])[j]? = some t' → args.toList[j]? = some v → Value.okWide Try.prog W .any base t' v := by
      obtain ⟨b, hb⟩ := hvS
      exact ⟨b, fun j t' v h1 h2 => hb j t' v h1 (by simpa using h2)⟩
    obtain ⟨v0, vs0, ds0, x0, e0, ⟨b0, k0⟩, r0, hv0, hr0, hz0⟩ := uncons (R := RSlice RPart 6 48) hvT hrS hzS (fun _ => reader_parts)
    obtain ⟨v1, vs1, ds1, x1, rfl, ⟨b1, k1⟩, r1, hv1, hr1, hz1⟩ := uncons (R := RPair (RSlice (RInt .i64) 1 8) (RPair (RInt .i64) RNil)) hv0 hr0 hz0 (fun _ => reader_struct Try.underlying60 rfl (by kernel_rfl) (fun m _ => fields_cons (c := 1) rfl (by kernel_rfl) (reader_slice Try.underlying50 (s := 1) (bytes := 8) (by kernel_rfl) (by omega) (by kernel_rfl) (fun _ _ => reader_int Try.underlying3)) (fields_cons (c := 1) rfl (by kernel_rfl) (reader_int Try.underlying3) fields_nil)))
    obtain ⟨pE, hrE⟩ := hr1
    obtain ⟨rfl, _, _⟩ := trodAll_nil hrE
    obtain ⟨a0, c0, rfl, l0, m0, t0, n0, el0⟩ := slice_arg Try.underlying58 k0 r0
    obtain ⟨cs, rfl, hcs⟩ := struct_arg Try.underlying60 k1
    obtain ⟨y1, d1, hc1, ⟨aW, cW, rfl, _, _, _, _, elW⟩, y2, d2, rfl, ⟨rfl, _⟩, rfl⟩ := r1
    rw [hcs] at hc1
    obtain rfl : cs = #[.slice aW x1.1.length cW, .int .i64 x1.2.1] := by apply Array.ext'; simpa using hc1
    obtain rfl : args = #[.slice a0 x0.length c0, .agg #[.slice aW x1.1.length cW, .int .i64 x1.2.1]] := by apply Array.ext'; simpa using e0
    exact beLaw_any _ _ _ _ _ _ _ _ _ W (paF_of el0) (IntsF.of_ints (ints_of_elems elW).1) l0 (by unfold reachBytes at t0; omega)

theorem over : Rows.linesBestOfAllRow.holds Try.pinned (OpenSpec.ofChange Rows.linesBestOfAllSpec) :=
  OpenClaim.holds_of_wide 5 Try.f5 rfl rfl rfl rfl rfl rfl rfl ⟨rfl, rfl, rfl, rfl, rfl⟩ rfl rfl rfl rfl rfl (by kernel_rfl) Try.func5 (by kernel_rfl)
    (of_decide_eq_true (by kernel_rfl)) (by unfold Func.isWrapper; first | (rw [if_pos (by decide +kernel)]; kernel_rfl) | (rw [if_neg (by decide +kernel)]; exact ⟨rfl, rfl⟩))
    (fun os started H enc _ => lifted os started H enc)
theorem proved : Rows.LinesBestOfAllSaid := over
#print axioms proved
end Go.Proofs.Ytnigebnibikolaa.LBS
