

/-
  ShapeCorners (Check, Corners and Bounds follow from turns and groups): the call returns true for every input.
  Conditions: the package-level tables start as the program's text lays them (the card ties them to it).
-/
import Derived.Test.YtnigebnibikolaaDoorShTie
import Derived.Test.YtnigebnibikolaaDoorShRead
import Derived.Test.YtnigebnibikolaaDoorShLaw
namespace Go.Proofs.YtnigebnibikolaaDoor.SCS
open Go.ChangeShapes Go.WideShapes Go.ChangeAt Go.RowKit Go.Law Go.Law.Sh ShT
set_option linter.unusedVariables false

theorem law_any (n : Nat) (E : Nat → Nat → Int) (N : Nat → Nat → ByteArray) (item : Int) (a : Option Addr) (c : Nat) (w : World) (ha : ShF w a n E N) (hc : n ≤ c) (hm : c ≤ maxLen) (hT : Arr w 3 ∧ Arr w 2) :
    Calls Tryd.prog 7 #[.slice a n c, .int .i64 item] w fun e w' => e = .returned (.bool true) ∧ Below w.heap.size w w' := by
  obtain ⟨m, hmn⟩ : ∃ m, m = min n 20 := ⟨_, rfl⟩
  have hA : ShF w a m E N := ha.less (by omega)
  by_cases he : shE m E = 0
  · rcases findV_cases m E item with ⟨hf, _⟩ | ⟨k, hk, hf, _⟩
    · refine law_err n m E N item a c w hA hmn hc hm hT.1 7 0 (by decide) he.symm (.inr ⟨rfl, rfl, by omega⟩) fun w1 hb => ?_
      exact cornersTop_none m E N item a c w1 (hA.below (Nat.le_refl _) hb) (by omega) (by omega) he (by omega)
    · exact law_ok n m k E N item a c w hA hmn hc hm hT.1 hT.2 he hf hk
  · refine law_err n m E N item a c w hA hmn hc hm hT.1 (shE m E) (shE m E) he rfl (.inl ⟨he, rfl⟩) fun w1 hb => ?_
    exact cornersTop_err m E N item a c w1 (hA.below (Nat.le_refl _) hb) (by omega) (by omega) he

theorem own : ownKnob Tryd.prog.godebug = none := by kernel_rfl
theorem door_met (os : Os) (args : Array Value) : laidMetH Tryd.prog Rows.shapeCornersRow.laid ((World.doorLaid Tryd.prog 400 os).forCall (fun _ _ => 0) ⟨#[], args, []⟩).memory :=
  laidMetH_of_parts3 (fuel := 8) (laidMet_of_run' 8 (by kernel_rfl) (by kernel_rfl)) (by kernel_rfl) (by kernel_rfl)
set_option maxRecDepth 100000 in
theorem lifted (os : Os) (started : os.Started) (H : Type) (enc : TypeId × Value → H) :
    ReturnsInHanded {} Tryd.checked os 7 .any (fun w args => (Rows.shapeCornersSpec.pre enc Tryd.prog Tryd.f7 [] false w args ∧ laidMetH Tryd.prog Rows.shapeCornersRow.laid w) ∧ sizedMet enc Tryd.prog Tryd.f7 (OpenSpec.ofChange Rows.shapeCornersSpec) false w args)
      (Rows.shapeCornersSpec.post enc Tryd.prog Tryd.f7 false true false false) := by
  refine Law.lifted_laid (C := Tryd.checked) (tb := 4) (laid := Rows.shapeCornersRow.laid) own started (by kernel_rfl) Tryd.func7
    (ChangeSpec.witness_shaped (enc := enc) (C := Tryd.checked) (os := os) (X := fun w _ => laidMetH Tryd.prog Rows.shapeCornersRow.laid w) false (World.doorLaid Tryd.prog 400 os) #[.slice none 0 0, .int .i64 0] 8 rfl (World.shaped_of_RefB (by kernel_rfl) (by kernel_rfl)) (by kernel_rfl) (by kernel_rfl) (by kernel_rfl) (door_met os _)) (by kernel_rfl) (by kernel_rfl) (by kernel_rfl) rfl rfl Tryd.underlying4 ?_ ?_
  · intro ds h
    match ds, h with
    | [d1, d2], _ => rfl
  · intro W args ds hc hL
    obtain ⟨hvS, hrS, hzS⟩ := hc
    rw [show Tryd.f7.params.toList = [51, 3] from rfl] at hvS hrS hzS
    have hvT : ∃ base, ∀ (j : Nat) t' v, ([51, 3])[j]? = some t' → args.toList[j]? = some v → Value.okWide Tryd.prog W .any base t' v := by
      obtain ⟨b, hb⟩ := hvS
      exact ⟨b, fun j t' v h1 h2 => hb j t' v h1 (by simpa using h2)⟩
    obtain ⟨v0, vs0, ds0, x0, e0, ⟨b0, k0⟩, r0, hv0, hr0, hz0⟩ := uncons (R := RSlice RShape 12 112) hvT hrS hzS (fun _ => reader_shapes)
    obtain ⟨v1, vs1, ds1, x1, rfl, ⟨b1, k1⟩, r1, hv1, hr1, hz1⟩ := uncons (R := RInt .i64) hv0 hr0 hz0 (fun _ => reader_int Tryd.underlying3)
    obtain ⟨pE, hrE⟩ := hr1
    obtain ⟨rfl, _, _⟩ := trodAll_nil hrE
    obtain ⟨rfl, l1, u1⟩ := int_arg Tryd.underlying3 k1 r1
    obtain ⟨a0, c0, rfl, l0, m0, t0, n0, el0⟩ := slice_arg Tryd.underlying51 k0 r0
    obtain rfl : args = #[.slice a0 x0.length c0, .int .i64 x1] := by apply Array.ext'; simpa using e0
    exact law_any _ _ _ _ _ _ W (shF_of el0) (by omega) m0 (arrs_of hL)

theorem over : Rows.ShapeCornersSaid :=
  OpenClaim.holds_of_wide 7 Tryd.f7 rfl rfl rfl rfl rfl rfl rfl ⟨rfl, rfl, rfl, rfl, rfl⟩ rfl rfl rfl rfl rfl (by kernel_rfl) Tryd.func7 (by kernel_rfl)
    (of_decide_eq_true (by kernel_rfl)) (by unfold Func.isWrapper; first | (rw [if_pos (by decide +kernel)]; kernel_rfl) | (rw [if_neg (by decide +kernel)]; exact ⟨rfl, rfl⟩))
    (fun os started H enc _ => lifted os started H enc)
theorem proved : Rows.ShapeCornersCardSaid :=
  Claim7.holds_tied_plain_at .later [] [.data, .data] true (true, "59adffc52283c23605d60962f9c4d91346e6784abc6dd9dc5e745748dd29c457") false
    over (fun _ h => by cases h) (by kernel_rfl) (fun _ h => by cases h) shapeCorners_row_tie rfl ⟨rfl, rfl⟩ (by kernel_rfl) rfl
    (fun f fn hf hfn => by
      obtain rfl : f = 7 := Option.some.inj ((show Tryd.prog.funcNamed "chancery/chancerylaw3.ShapeCorners" = some 7 by kernel_rfl).symm.trans hf) |>.symm
      obtain rfl : fn = Tryd.f7 := (Option.some.inj (Tryd.func7.symm.trans hfn)).symm
      exact ⟨by kernel_rfl, fun j t ht => by
        rw [Tryd.params7] at ht
        have hm : t ∈ [51, 3] := by simpa using Array.mem_of_getElem? ht
        have hall : ([51, 3].all fun u => !Tryd.prog.wantsStandIn u) = true := by kernel_rfl
        exact (show Tryd.prog.wantsStandIn t = false by simpa using List.all_eq_true.1 hall t hm)⟩)
    (by kernel_rfl)
#print axioms proved
end Go.Proofs.YtnigebnibikolaaDoor.SCS
