

/-
  ShapeHits (Hit returns the last shape that contains a point): the call returns true for every input.
  Conditions: the package-level tables start as the program's text lays them (the card ties them to it).
-/
import Derived.Test.YtnigebnibikolaaDoorShTie
import Derived.Test.YtnigebnibikolaaDoorShRead
import Derived.Test.YtnigebnibikolaaDoorShHitLaw
namespace Go.Proofs.YtnigebnibikolaaDoor.SHS
open Go.ChangeShapes Go.WideShapes Go.ChangeAt Go.RowKit Go.Law Go.Law.Sh ShT
set_option linter.unusedVariables false

theorem law_any (n : Nat) (E : Nat → Nat → Int) (N : Nat → Nat → ByteArray) (x y : Int) (a : Option Addr) (c : Nat) (w : World) (ha : ShF w a n E N) (hc : n ≤ c) (hm : c ≤ maxLen) (hT : Arr w 3 ∧ Arr w 2) :
    Calls Tryd.prog 8 #[.slice a n c, .agg #[.int .i64 x, .int .i64 y]] w fun e w' => e = .returned (.bool true) ∧ Below w.heap.size w w' := by
  obtain ⟨m, hmn⟩ : ∃ m, m = min n 20 := ⟨_, rfl⟩
  have hA : ShF w a m E N := ha.less (by omega)
  by_cases he : shE m E = 0
  · by_cases h : (-1048576 ≤ x ∧ x ≤ 1048576) ∧ (-1048576 ≤ y ∧ y ≤ 1048576)
    · exact hits_ok n m E N x y a c w hA hmn hc hm hT.1 hT.2 he h
    · exact hits_range n m E N x y a c w hA hmn hc hm hT.1 he h
  · exact hits_err n m E N x y a c w hA hmn hc hm hT.1 he

theorem own : ownKnob Tryd.prog.godebug = none := by kernel_rfl
theorem door_met (os : Os) (args : Array Value) : laidMetH Tryd.prog Rows.shapeHitsRow.laid ((World.doorLaid Tryd.prog 400 os).forCall (fun _ _ => 0) ⟨#[], args, []⟩).memory :=
  laidMetH_of_parts3 (fuel := 8) (laidMet_of_run' 8 (by kernel_rfl) (by kernel_rfl)) (by kernel_rfl) (by kernel_rfl)
set_option maxRecDepth 100000 in
theorem lifted (os : Os) (started : os.Started) (H : Type) (enc : TypeId × Value → H) :
    ReturnsInHanded {} Tryd.checked os 8 .any (fun w args => (Rows.shapeHitsSpec.pre enc Tryd.prog Tryd.f8 [] false w args ∧ laidMetH Tryd.prog Rows.shapeHitsRow.laid w) ∧ sizedMet enc Tryd.prog Tryd.f8 (OpenSpec.ofChange Rows.shapeHitsSpec) false w args)
      (Rows.shapeHitsSpec.post enc Tryd.prog Tryd.f8 false true false false) := by
  refine Law.lifted_laid (C := Tryd.checked) (tb := 4) (laid := Rows.shapeHitsRow.laid) own started (by kernel_rfl) Tryd.func8
    (ChangeSpec.witness_shaped (enc := enc) (C := Tryd.checked) (os := os) (X := fun w _ => laidMetH Tryd.prog Rows.shapeHitsRow.laid w) false (World.doorLaid Tryd.prog 400 os) #[.slice none 0 0, .agg #[.int .i64 0, .int .i64 0]] 8 rfl (World.shaped_of_RefB (by kernel_rfl) (by kernel_rfl)) (by kernel_rfl) (by kernel_rfl) (by kernel_rfl) (door_met os _)) (by kernel_rfl) (by kernel_rfl) (by kernel_rfl) rfl rfl Tryd.underlying4 ?_ ?_
  · intro ds h
    match ds, h with
    | [d1, d2], _ => rfl
  · intro W args ds hc hL
    obtain ⟨hvS, hrS, hzS⟩ := hc
    rw [show Tryd.f8.params.toList = [51, 64] from rfl] at hvS hrS hzS
    have hvT : ∃ base, ∀ (j : Nat) t' v, ([51, 64])[j]? = some t' → args.toList[j]? = some v → Value.okWide Tryd.prog W .any base t' v := by
      obtain ⟨b, hb⟩ := hvS
      exact ⟨b, fun j t' v h1 h2 => hb j t' v h1 (by simpa using h2)⟩
    obtain ⟨v0, vs0, ds0, x0, e0, ⟨b0, k0⟩, r0, hv0, hr0, hz0⟩ := uncons (R := RSlice RShape 12 112) hvT hrS hzS (fun _ => reader_shapes)
    obtain ⟨v1, vs1, ds1, x1, rfl, ⟨b1, k1⟩, r1, hv1, hr1, hz1⟩ := uncons (R := RPair (RInt .i64) (RPair (RInt .i64) RNil)) hv0 hr0 hz0 (fun _ => reader_struct Tryd.underlying64 rfl (by kernel_rfl) (fun m _ => fields_cons (c := 1) rfl (by kernel_rfl) (reader_int Tryd.underlying3) (fields_cons (c := 1) rfl (by kernel_rfl) (reader_int Tryd.underlying3) fields_nil)))
    obtain ⟨pE, hrE⟩ := hr1
    obtain ⟨rfl, _, _⟩ := trodAll_nil hrE
    obtain ⟨cs, rfl, hcs⟩ := struct_arg Tryd.underlying64 k1
    obtain ⟨y1, d1, hc1, ⟨rfl, _⟩, y2, d2, rfl, ⟨rfl, _⟩, rfl⟩ := r1
    rw [hcs] at hc1
    obtain rfl : cs = #[.int .i64 x1.1, .int .i64 x1.2.1] := by apply Array.ext'; simpa using hc1
    obtain ⟨a0, c0, rfl, l0, m0, t0, n0, el0⟩ := slice_arg Tryd.underlying51 k0 r0
    obtain rfl : args = #[.slice a0 x0.length c0, .agg #[.int .i64 x1.1, .int .i64 x1.2.1]] := by apply Array.ext'; simpa using e0
    exact law_any _ _ _ _ _ _ _ W (shF_of el0) (by omega) m0 (arrs_of hL)

theorem over : Rows.ShapeHitsSaid :=
  OpenClaim.holds_of_wide 8 Tryd.f8 rfl rfl rfl rfl rfl rfl rfl ⟨rfl, rfl, rfl, rfl, rfl⟩ rfl rfl rfl rfl rfl (by kernel_rfl) Tryd.func8 (by kernel_rfl)
    (of_decide_eq_true (by kernel_rfl)) (by unfold Func.isWrapper; first | (rw [if_pos (by decide +kernel)]; kernel_rfl) | (rw [if_neg (by decide +kernel)]; exact ⟨rfl, rfl⟩))
    (fun os started H enc _ => lifted os started H enc)
theorem proved : Rows.ShapeHitsCardSaid :=
  Claim7.holds_tied_plain_at .later [] [.data, .data] true (true, "59adffc52283c23605d60962f9c4d91346e6784abc6dd9dc5e745748dd29c457") false
    over (fun _ h => by cases h) (by kernel_rfl) (fun _ h => by cases h) shapeHits_row_tie rfl ⟨rfl, rfl⟩ (by kernel_rfl) rfl
    (fun f fn hf hfn => by
      obtain rfl : f = 8 := Option.some.inj ((show Tryd.prog.funcNamed "chancery/chancerylaw3.ShapeHits" = some 8 by kernel_rfl).symm.trans hf) |>.symm
      obtain rfl : fn = Tryd.f8 := (Option.some.inj (Tryd.func8.symm.trans hfn)).symm
      exact ⟨by kernel_rfl, fun j t ht => by
        rw [Tryd.params8] at ht
        have hm : t ∈ [51, 64] := by simpa using Array.mem_of_getElem? ht
        have hall : ([51, 64].all fun u => !Tryd.prog.wantsStandIn u) = true := by kernel_rfl
        exact (show Tryd.prog.wantsStandIn t = false by simpa using List.all_eq_true.1 hall t hm)⟩)
    (by kernel_rfl)
#print axioms proved
end Go.Proofs.YtnigebnibikolaaDoor.SHS
