

/-
  ChartBarsInProportion (Range and Bars have the numbers of the document): the call returns true for every input.
  Conditions: none beyond the row's own.
-/
import Derived.Test.YtnigebnibikolaaRows
import Derived.Test.YtnigebnibikolaaReads
import Derived.Test.YtnigebnibikolaaLift
import Derived.Test.YtnigebnibikolaaCbFin
namespace Go.Proofs.Ytnigebnibikolaa.CBS
open Go.ChangeShapes Go.WideShapes Go.ChangeAt Go.RowKit Go.Law CH CB
set_option linter.unusedVariables false

/-- the reading of a row of rows of ints -/
theorem rowsF_of {w : World} {a : Option Addr} {xs : List (List Int)} (h : Elems (RSlice (RInt .i64) 1 8) 1 w a xs) :
    ∃ (sa : Nat → Option Addr) (sn sc : Nat → Nat) (sf : Nat → Nat → Int), RowsF w a xs.length sa sn sc sf := by
  by_cases hne : xs = []
  · subst hne
    exact ⟨fun _ => none, fun _ => 0, fun _ => 0, fun _ _ => 0, fun h => by simp at h⟩
  · obtain ⟨b, off, rfl, hh⟩ := h hne
    have hq : ∀ q : Nat, ∃ (sa : Option Addr) (sn sc : Nat) (sf : Nat → Int), q < xs.length → w.cell? ⟨b, off + q, none⟩ = some (.slice sa sn sc) ∧ sn ≤ 1000000000000000000 ∧ IntsF w sa sn sf := by
      intro q
      by_cases hq : q < xs.length
      · obtain ⟨cs, hl, hc, a1, cap, rfl, h1, h2, h3, _, h5⟩ := hh q _ (List.getElem?_eq_getElem hq)
        obtain ⟨hi, _⟩ := ints_of_elems h5
        refine ⟨a1, xs[q].length, cap, _, fun _ => ⟨?_, ?_, IntsF.of_ints hi⟩⟩
        · have := hc 0 _ rfl
          simpa using this
        · unfold reachBytes at h3; omega
      · exact ⟨none, 0, 0, fun _ => 0, fun h => absurd h hq⟩
    exact ⟨fun q => (hq q).choose, fun q => (hq q).choose_spec.choose, fun q => (hq q).choose_spec.choose_spec.choose, fun q => (hq q).choose_spec.choose_spec.choose_spec.choose,
      fun _ => ⟨b, off, rfl, fun q h => (hq q).choose_spec.choose_spec.choose_spec.choose_spec h⟩⟩


theorem own : ownKnob Try.prog.godebug = none := by kernel_rfl
set_option maxRecDepth 100000 in
theorem lifted (os : Os) (started : os.Started) (H : Type) (enc : TypeId × Value → H) :
    ReturnsInHanded {} Try.checked os 3 .any (Rows.chartBarsInProportionSpec.pre6 enc Try.prog Try.f3 Rows.chartBarsInProportionRow.domain false) (Rows.chartBarsInProportionSpec.post enc Try.prog Try.f3 false true false false) := by
  refine Law.lifted (C := Try.checked) (tb := 4) own started (by kernel_rfl) Try.func3
    (ChangeSpec.witness6 (enc := enc) (C := Try.checked) false ⟨#[], #[.agg #[.int .i64 0, .slice none 0 0, .slice none 0 0], .agg #[.int .i64 0, .int .i64 0, .int .i64 0], .int .i64 0, .int .i64 0], []⟩ 8 (by kernel_rfl) (by kernel_rfl) (by kernel_rfl) (by kernel_rfl)) (by kernel_rfl) (by kernel_rfl) rfl rfl Try.underlying4 ?_ ?_
  · intro ds h
    match ds, h with
    | [d1, d2, d3, d4], _ => rfl
  · intro W args ds hc
    obtain ⟨hvS, hrS, hzS⟩ := hc
    rw [show Try.f3.params.toList = [25, 27, 3, 3] from rfl] at hvS hrS hzS
    have hvT : ∃ base, ∀ (j : Nat) t' v, ([25, 27, 3, 3])[j]? = some t' → args.toList[j]? = some v → Value.okWide Try.prog W .any base t' v := by
      obtain ⟨b, hb⟩ := hvS
      exact ⟨b, fun j t' v h1 h2 => hb j t' v h1 (by simpa using h2)⟩
    obtain ⟨v0, vs0, ds0, x0, e0, ⟨b0, k0⟩, r0, hv0, hr0, hz0⟩ := uncons (R := RPair (RInt .i64) (RPair (RSlice RStr 1 16) (RPair (RSlice (RSlice (RInt .i64) 1 8) 1 24) RNil))) hvT hrS hzS (fun _ => reader_struct Try.underlying25 rfl (by kernel_rfl) (fun m _ => fields_cons (c := 1) rfl (by kernel_rfl) (reader_int Try.underlying3) (fields_cons (c := 1) rfl (by kernel_rfl) (reader_slice Try.underlying22 (s := 1) (bytes := 16) (by kernel_rfl) (by omega) (by kernel_rfl) (fun _ _ => reader_string Try.underlying9)) (fields_cons (c := 1) rfl (by kernel_rfl) (reader_slice Try.underlying23 (s := 1) (bytes := 24) (by kernel_rfl) (by omega) (by kernel_rfl) (fun _ _ => reader_slice Try.underlying50 (s := 1) (bytes := 8) (by kernel_rfl) (by omega) (by kernel_rfl) (fun _ _ => reader_int Try.underlying3))) fields_nil))))
    obtain ⟨v1, vs1, ds1, x1, rfl, ⟨b1, k1⟩, r1, hv1, hr1, hz1⟩ := uncons (R := RPair (RInt .i64) (RPair (RInt .i64) (RPair (RInt .i64) RNil))) hv0 hr0 hz0 (fun _ => reader_struct Try.underlying27 rfl (by kernel_rfl) (fun m _ => fields_cons (c := 1) rfl (by kernel_rfl) (reader_int Try.underlying3) (fields_cons (c := 1) rfl (by kernel_rfl) (reader_int Try.underlying3) (fields_cons (c := 1) rfl (by kernel_rfl) (reader_int Try.underlying3) fields_nil))))
    obtain ⟨v2, vs2, ds2, x2, rfl, ⟨b2, k2⟩, r2, hv2, hr2, hz2⟩ := uncons (R := RInt .i64) hv1 hr1 hz1 (fun _ => reader_int Try.underlying3)
    obtain ⟨v3, vs3, ds3, x3, rfl, ⟨b3, k3⟩, r3, hv3, hr3, hz3⟩ := uncons (R := RInt .i64) hv2 hr2 hz2 (fun _ => reader_int Try.underlying3)
    obtain ⟨pE, hrE⟩ := hr3
    obtain ⟨rfl, _, _⟩ := trodAll_nil hrE
    obtain ⟨rfl, _, _⟩ := int_arg Try.underlying3 k3 r3
    obtain ⟨rfl, _, _⟩ := int_arg Try.underlying3 k2 r2
    obtain ⟨cs, rfl, hcs⟩ := struct_arg Try.underlying25 k0
    obtain ⟨y1, d1, hc1, ⟨rfl, _⟩, y2, d2, rfl, ⟨aN, cN, rfl, _⟩, y3, d3, rfl, ⟨aS, cS, rfl, _, _, _, _, elS⟩, rfl⟩ := r0
    rw [hcs] at hc1
    obtain rfl : cs = #[.int .i64 x0.1, .slice aN x0.2.1.length cN, .slice aS x0.2.2.1.length cS] := by apply Array.ext'; simpa using hc1
    obtain ⟨cs2, rfl, hcs2⟩ := struct_arg Try.underlying27 k1
    obtain ⟨z1, g1, hc2, ⟨rfl, _⟩, z2, g2, rfl, ⟨rfl, _⟩, z3, g3, rfl, ⟨rfl, _⟩, rfl⟩ := r1
    rw [hcs2] at hc2
    obtain rfl : cs2 = #[.int .i64 x1.1, .int .i64 x1.2.1, .int .i64 x1.2.2.1] := by apply Array.ext'; simpa using hc2
    obtain rfl : args = #[.agg #[.int .i64 x0.1, .slice aN x0.2.1.length cN, .slice aS x0.2.2.1.length cS], .agg #[.int .i64 x1.1, .int .i64 x1.2.1, .int .i64 x1.2.2.1], .int .i64 x2, .int .i64 x3] := by apply Array.ext'; simpa using e0
    obtain ⟨sa, sn, sc, sf, hrows⟩ := rowsF_of elS
    exact law_any _ _ _ _ _ _ _ sa sn sc sf _ _ _ _ _ W hrows

theorem over : Rows.chartBarsInProportionRow.holds Try.pinned (OpenSpec.ofChange Rows.chartBarsInProportionSpec) :=
  OpenClaim.holds_of_wide 3 Try.f3 rfl rfl rfl rfl rfl rfl rfl ⟨rfl, rfl, rfl, rfl, rfl⟩ rfl rfl rfl rfl rfl (by kernel_rfl) Try.func3 (by kernel_rfl)
    (of_decide_eq_true (by kernel_rfl)) (by unfold Func.isWrapper; first | (rw [if_pos (by decide +kernel)]; kernel_rfl) | (rw [if_neg (by decide +kernel)]; exact ⟨rfl, rfl⟩))
    (fun os started H enc _ => lifted os started H enc)
theorem proved : Rows.ChartBarsInProportionSaid := over
#print axioms proved
end Go.Proofs.Ytnigebnibikolaa.CBS
