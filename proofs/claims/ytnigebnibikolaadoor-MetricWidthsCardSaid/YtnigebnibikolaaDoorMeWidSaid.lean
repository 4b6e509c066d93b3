

/-
  MetricWidths (Advance, Kern and Width follow from the widths of characters): the call returns true for every input.
  Conditions: the package-level tables start as the program's text lays them (the card ties them to it).
-/
import Derived.Test.YtnigebnibikolaaDoorMeTie
import Derived.Test.YtnigebnibikolaaDoorMeWidLaw
namespace Go.Proofs.YtnigebnibikolaaDoor.MWS
open Go.ChangeShapes Go.WideShapes Go.ChangeAt Go.RowKit Go.Law Go.Law.Me ME
set_option linter.unusedVariables false

theorem law_any (n : Nat) (t : Nat → Int) (a : Option Addr) (c : Nat) (k : Look) (x y : Int) (w : World) (hT : Tabs w) (ha : IntsF w a n t) (hnc : n ≤ c) (hcm : c ≤ maxLen) :
    Calls Tryd.prog 5 #[.slice a n c, lookV k, .int .i64 x, .int .i64 y] w fun e w' => e = .returned (.bool true) ∧ Below w.heap.size w w' := by
  rcases look_cases k with he | he
  · exact widths_ok n t a c k x y w hT ha hnc hcm he
  · exact widths_bad n t a c k x y w hT ha hnc hcm he

theorem own : ownKnob Tryd.prog.godebug = none := by kernel_rfl
theorem door_met (os : Os) (args : Array Value) : laidMetH Tryd.prog Rows.metricWidthsRow.laid ((World.doorLaid Tryd.prog 400 os).forCall (fun _ _ => 0) ⟨#[], args, []⟩).memory :=
  laidMetH_of_parts3 (fuel := 8) (laidMet_of_run' 8 (by kernel_rfl) (by kernel_rfl)) (by kernel_rfl) (by kernel_rfl)
set_option maxRecDepth 100000 in
theorem lifted (os : Os) (started : os.Started) (H : Type) (enc : TypeId × Value → H) :
    ReturnsInHanded {} Tryd.checked os 5 .any (fun w args => (Rows.metricWidthsSpec.pre enc Tryd.prog Tryd.f5 [] false w args ∧ laidMetH Tryd.prog Rows.metricWidthsRow.laid w) ∧ sizedMet enc Tryd.prog Tryd.f5 (OpenSpec.ofChange Rows.metricWidthsSpec) false w args)
      (Rows.metricWidthsSpec.post enc Tryd.prog Tryd.f5 false true false false) := by
  refine Law.lifted_laid (C := Tryd.checked) (tb := 4) (laid := Rows.metricWidthsRow.laid) own started (by kernel_rfl) Tryd.func5
    (ChangeSpec.witness_shaped (enc := enc) (C := Tryd.checked) (os := os) (X := fun w _ => laidMetH Tryd.prog Rows.metricWidthsRow.laid w) false (World.doorLaid Tryd.prog 400 os) #[.slice none 0 0, .agg #[.int .i64 0, .bool false, .bool false], .int .i64 0, .int .i64 0] 8 rfl (World.shaped_of_RefB (by kernel_rfl) (by kernel_rfl)) (by kernel_rfl) (by kernel_rfl) (by kernel_rfl) (door_met os _)) (by kernel_rfl) (by kernel_rfl) (by kernel_rfl) rfl rfl Tryd.underlying4 ?_ ?_
  · intro ds h
    match ds, h with
    | [d1, d2, d3, d4], _ => rfl
  · intro W args ds hc hL
    obtain ⟨hvS, hrS, hzS⟩ := hc
    rw [show Tryd.f5.params.toList = [23, 37, 3, 3] from rfl] at hvS hrS hzS
    have hvT : ∃ base, ∀ (j : Nat) t' v, ([23, 37, 3, 3])[j]? = some t' → args.toList[j]? = some v → Value.okWide Tryd.prog W .any base t' v := by
      obtain ⟨b, hb⟩ := hvS
      exact ⟨b, fun j t' v h1 h2 => hb j t' v h1 (by simpa using h2)⟩
    obtain ⟨v0, vs0, ds0, x0, e0, ⟨b0, k0⟩, r0, hv0, hr0, hz0⟩ := uncons (R := RSlice (RInt .i64) 1 8) hvT hrS hzS (fun _ => reader_slice Tryd.underlying23 (s := 1) (bytes := 8) (by kernel_rfl) (by omega) (by kernel_rfl) (fun _ _ => reader_int Tryd.underlying3))
    obtain ⟨v1, vs1, ds1, x1, rfl, ⟨b1, k1⟩, r1, hv1, hr1, hz1⟩ := uncons (R := RPair (RInt .i64) (RPair RBool (RPair RBool RNil))) hv0 hr0 hz0 (fun _ => reader_struct Tryd.underlying37 rfl (by kernel_rfl) (fun m _ => fields_cons (c := 1) rfl (by kernel_rfl) (reader_int Tryd.underlying3) (fields_cons (c := 1) rfl (by kernel_rfl) (reader_bool Tryd.underlying4) (fields_cons (c := 1) rfl (by kernel_rfl) (reader_bool Tryd.underlying4) fields_nil))))
    obtain ⟨v2, vs2, ds2, x2, rfl, ⟨b2, k2⟩, r2, hv2, hr2, hz2⟩ := uncons (R := RInt .i64) hv1 hr1 hz1 (fun _ => reader_int Tryd.underlying3)
    obtain ⟨v3, vs3, ds3, x3, rfl, ⟨b3, k3⟩, r3, hv3, hr3, hz3⟩ := uncons (R := RInt .i64) hv2 hr2 hz2 (fun _ => reader_int Tryd.underlying3)
    obtain ⟨pE, hrE⟩ := hr3
    obtain ⟨rfl, _, _⟩ := trodAll_nil hrE
    obtain ⟨rfl, l3, u3⟩ := int_arg Tryd.underlying3 k3 r3
    obtain ⟨rfl, l2, u2⟩ := int_arg Tryd.underlying3 k2 r2
    obtain ⟨a0, c0, rfl, l0, m0, t0, n0, el0⟩ := slice_arg Tryd.underlying23 k0 r0
    obtain ⟨in0, bd0⟩ := ints_of_elems el0
    obtain ⟨cs, rfl, hcs⟩ := struct_arg Tryd.underlying37 k1
    obtain ⟨y1, d1, hc1, ⟨rfl, _⟩, y2, d2, rfl, rfl, y3, d3, rfl, rfl, rfl⟩ := r1
    rw [hcs] at hc1
    obtain rfl : cs = #[.int .i64 x1.1, .bool x1.2.1, .bool x1.2.2.1] := by apply Array.ext'; simpa using hc1
    obtain rfl : args = #[.slice a0 x0.length c0, .agg #[.int .i64 x1.1, .bool x1.2.1, .bool x1.2.2.1], .int .i64 x2, .int .i64 x3] := by apply Array.ext'; simpa using e0
    exact law_any _ _ _ _ ⟨x1.1, x1.2.1, x1.2.2.1⟩ _ _ W (tabs_of hL) (IntsF.of_ints in0) (by omega) (by omega)

theorem over : Rows.MetricWidthsSaid :=
  OpenClaim.holds_of_wide 5 Tryd.f5 rfl rfl rfl rfl rfl rfl rfl ⟨rfl, rfl, rfl, rfl, rfl⟩ rfl rfl rfl rfl rfl (by kernel_rfl) Tryd.func5 (by kernel_rfl)
    (of_decide_eq_true (by kernel_rfl)) (by unfold Func.isWrapper; first | (rw [if_pos (by decide +kernel)]; kernel_rfl) | (rw [if_neg (by decide +kernel)]; exact ⟨rfl, rfl⟩))
    (fun os started H enc _ => lifted os started H enc)
theorem proved : Rows.MetricWidthsCardSaid :=
  Claim7.holds_tied_plain_at .later [] [.widerDeep, .widerDeep] true (true, "59adffc52283c23605d60962f9c4d91346e6784abc6dd9dc5e745748dd29c457") false
    over (fun _ h => by cases h) (by kernel_rfl) (fun _ h => by cases h) metricWidths_row_tie rfl ⟨rfl, rfl⟩ (by kernel_rfl) rfl
    (fun f fn hf hfn => by
      obtain rfl : f = 5 := Option.some.inj ((show Tryd.prog.funcNamed "chancery/chancerylaw3.MetricWidths" = some 5 by kernel_rfl).symm.trans hf) |>.symm
      obtain rfl : fn = Tryd.f5 := (Option.some.inj (Tryd.func5.symm.trans hfn)).symm
      exact ⟨by kernel_rfl, fun j t ht => by
        rw [Tryd.params5] at ht
        have hm : t ∈ [23, 37, 3, 3] := by simpa using Array.mem_of_getElem? ht
        have hall : ([23, 37, 3, 3].all fun u => !Tryd.prog.wantsStandIn u) = true := by kernel_rfl
        exact (show Tryd.prog.wantsStandIn t = false by simpa using List.all_eq_true.1 hall t hm)⟩)
    (by kernel_rfl)
#print axioms proved
end Go.Proofs.YtnigebnibikolaaDoor.MWS
