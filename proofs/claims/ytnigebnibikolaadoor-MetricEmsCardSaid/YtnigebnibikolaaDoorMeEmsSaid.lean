

/-
  MetricEms (Em and Mark follow the rules of the document): the call returns true for every number.
  Conditions: the package-level tables start as the program's text lays them (the card ties them to it).
-/
import Derived.Test.YtnigebnibikolaaDoorMeTie
namespace Go.Proofs.YtnigebnibikolaaDoor.MES
open Go.ChangeShapes Go.WideShapes Go.ChangeAt Go.RowKit Go.Law Go.Law.Me ME

theorem own : ownKnob Tryd.prog.godebug = none := by kernel_rfl
theorem door_met (os : Os) (args : Array Value) : laidMetH Tryd.prog Rows.metricEmsRow.laid ((World.doorLaid Tryd.prog 400 os).forCall (fun _ _ => 0) ⟨#[], args, []⟩).memory :=
  laidMetH_of_parts3 (fuel := 8) (laidMet_of_run' 8 (by kernel_rfl) (by kernel_rfl)) (by kernel_rfl) (by kernel_rfl)
set_option maxRecDepth 100000 in
theorem lifted (os : Os) (started : os.Started) (H : Type) (enc : TypeId × Value → H) :
    ReturnsInHanded {} Tryd.checked os 3 .any (fun w args => (Rows.metricEmsSpec.pre enc Tryd.prog Tryd.f3 [] false w args ∧ laidMetH Tryd.prog Rows.metricEmsRow.laid w) ∧ sizedMet enc Tryd.prog Tryd.f3 (OpenSpec.ofChange Rows.metricEmsSpec) false w args)
      (Rows.metricEmsSpec.post enc Tryd.prog Tryd.f3 false true false false) := by
  refine Law.lifted_laid (C := Tryd.checked) (tb := 4) (laid := Rows.metricEmsRow.laid) own started (by kernel_rfl) Tryd.func3
    (ChangeSpec.witness_shaped (enc := enc) (C := Tryd.checked) (os := os) (X := fun w _ => laidMetH Tryd.prog Rows.metricEmsRow.laid w) false (World.doorLaid Tryd.prog 400 os) #[.int .i64 0] 8 rfl (World.shaped_of_RefB (by kernel_rfl) (by kernel_rfl)) (by kernel_rfl) (by kernel_rfl) (by kernel_rfl) (door_met os _)) (by kernel_rfl) (by kernel_rfl) (by kernel_rfl) rfl rfl Tryd.underlying4 ?_ ?_
  · intro ds h
    match ds, h with
    | [d1], _ => rfl
  · intro W args ds hc hL
    obtain ⟨hvS, hrS, hzS⟩ := hc
    rw [show Tryd.f3.params.toList = [3] from rfl] at hvS hrS hzS
    have hvT : ∃ base, ∀ (j : Nat) t' v, ([3])[j]? = some t' → args.toList[j]? = some v → Value.okWide Tryd.prog W .any base t' v := by
      obtain ⟨b, hb⟩ := hvS
      exact ⟨b, fun j t' v h1 h2 => hb j t' v h1 (by simpa using h2)⟩
    obtain ⟨v0, vs0, ds0, x0, e0, ⟨b0, k0⟩, r0, hv0, hr0, hz0⟩ := uncons (R := RInt .i64) hvT hrS hzS (fun _ => reader_int Tryd.underlying3)
    obtain ⟨pE, hrE⟩ := hr0
    obtain ⟨rfl, _, _⟩ := trodAll_nil hrE
    obtain ⟨rfl, l0, u0⟩ := int_arg Tryd.underlying3 k0 r0
    obtain rfl : args = #[.int .i64 x0] := by apply Array.ext'; simpa using e0
    exact ems_any _ W (tabs_of hL)

theorem over : Rows.MetricEmsSaid :=
  OpenClaim.holds_of_wide 3 Tryd.f3 rfl rfl rfl rfl rfl rfl rfl ⟨rfl, rfl, rfl, rfl, rfl⟩ rfl rfl rfl rfl rfl (by kernel_rfl) Tryd.func3 (by kernel_rfl)
    (of_decide_eq_true (by kernel_rfl)) (by unfold Func.isWrapper; first | (rw [if_pos (by decide +kernel)]; kernel_rfl) | (rw [if_neg (by decide +kernel)]; exact ⟨rfl, rfl⟩))
    (fun os started H enc _ => lifted os started H enc)
theorem proved : Rows.MetricEmsCardSaid :=
  Claim7.holds_tied_plain_at .later [] [.widerDeep, .widerDeep] true (true, "59adffc52283c23605d60962f9c4d91346e6784abc6dd9dc5e745748dd29c457") false
    over (fun _ h => by cases h) (by kernel_rfl) (fun _ h => by cases h) metricEms_row_tie rfl ⟨rfl, rfl⟩ (by kernel_rfl) rfl
    (fun f fn hf hfn => by
      obtain rfl : f = 3 := Option.some.inj ((show Tryd.prog.funcNamed "chancery/chancerylaw3.MetricEms" = some 3 by kernel_rfl).symm.trans hf) |>.symm
      obtain rfl : fn = Tryd.f3 := (Option.some.inj (Tryd.func3.symm.trans hfn)).symm
      exact ⟨by kernel_rfl, fun j t ht => by
        rw [Tryd.params3] at ht
        have hm : t ∈ [3] := by simpa using Array.mem_of_getElem? ht
        have hall : ([3].all fun u => !Tryd.prog.wantsStandIn u) = true := by kernel_rfl
        exact (show Tryd.prog.wantsStandIn t = false by simpa using List.all_eq_true.1 hall t hm)⟩)
    (by kernel_rfl)
#print axioms proved
end Go.Proofs.YtnigebnibikolaaDoor.MES
