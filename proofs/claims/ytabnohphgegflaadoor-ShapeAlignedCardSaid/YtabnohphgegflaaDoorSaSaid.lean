

/-
  The tables of sines out of a row's condition 'laid'.
  ShapeAligned (Align and Spread move frames to the positions of the document): the call returns true for every input.
  Conditions: the package-level tables start as the program's text lays them (the card ties them to it).
-/
import Derived.Test.YtabnohphgegflaaDoorRows
import Derived.Test.YtabnohphgegflaaDoorCards
import Derived.Test.YtabnohphgegflaaDoorTie
import Derived.Test.YtabnohphgegflaaDoorLaidRows
import Derived.Test.YtabnohphgegflaaDoorShTrig
import Derived.SevenTiedAt
import Derived.Test.YtabnohphgegflaaDoorShRead
import Derived.Test.YtabnohphgegflaaDoorSaLaw
namespace Go.Proofs.YtabnohphgegflaaDoor.ShT
open Go.ChangeShapes Go.WideShapes Go.ChangeAt Go.RowKit Go.Law Go.Law.Sh

theorem gQuarter : Tryd.prog.globalNamed "chancery/shape.quarter" = some 1 := by kernel_rfl
theorem gSines : Tryd.prog.globalNamed "chancery/chanceryref3.sines" = some 6 := by kernel_rfl
theorem tQuarter : (Tryd.prog.globals[1]?).map (·.type) = some 122 := by kernel_rfl
theorem tSines : (Tryd.prog.globals[6]?).map (·.type) = some 122 := by kernel_rfl
theorem arr_of {w : World} {n : String} {g fuel : Nat} {cs : Array Value} {y : DataW Unit × List MemPlace} (hg : Tryd.prog.globalNamed n = some g) (hv : w.var? Tryd.prog n = some cs)
    (h : DataW.trod (fun _ => ()) Tryd.prog w 0 (fun _ => true) false fuel 122 cs.toList = some y) (hy : y.1 = rowD sinT) : Arr w g := by
  have e := row_array (k := 91) Tryd.underlying122 Tryd.underlying3 (by kernel_rfl) (by kernel_rfl) h hy
  intro i hi
  rw [World.var?_cell hg hv i]
  have : cs[i]? = cs.toList[i]? := by simp
  rw [this, e, List.getElem?_map]
  have hl : i < sinT.length := hi
  rw [List.getElem?_eq_getElem hl]
  unfold sinA
  simp [List.getD, List.getElem?_eq_getElem hl]
theorem arrs_of {W : World} (h : laidMet Tryd.prog Rows.shapeAlignedRow.laid W) : Arr W 1 ∧ Arr W 6 := by
  obtain ⟨ps, ⟨g0, t0, cs0, f0, p0, q0, hg0, ht0, hv0, hd0, ⟨g1, t1, cs1, f1, p1, q1, hg1, ht1, hv1, hd1, _, _⟩, _⟩, _, _⟩ := h
  obtain rfl := Option.some.inj (gSines.symm.trans hg0)
  obtain rfl := Option.some.inj (gQuarter.symm.trans hg1)
  obtain rfl := Option.some.inj (tSines.symm.trans ht0)
  obtain rfl := Option.some.inj (tQuarter.symm.trans ht1)
  exact ⟨arr_of hg1 hv1 hd1 rfl, arr_of hg0 hv0 hd0 rfl⟩
end Go.Proofs.YtabnohphgegflaaDoor.ShT
namespace Go.Proofs.YtabnohphgegflaaDoor.SAS
open Go.ChangeShapes Go.WideShapes Go.ChangeAt Go.RowKit Go.Law Go.Law.Sh ShT
set_option linter.unusedVariables false

theorem own : ownKnob Tryd.prog.godebug = none := by kernel_rfl
theorem door_met (os : Os) (args : Array Value) : laidMetH Tryd.prog Rows.shapeAlignedRow.laid ((World.doorLaid Tryd.prog 400 os).forCall (fun _ _ => 0) ⟨#[], args, []⟩).memory :=
  laidMetH_of_parts3 (fuel := 8) (laidMet_of_run' 8 (by kernel_rfl) (by kernel_rfl)) (by kernel_rfl) (by kernel_rfl)
set_option maxRecDepth 100000 in
theorem lifted (os : Os) (started : os.Started) (H : Type) (enc : TypeId × Value → H) :
    ReturnsInHanded {} Tryd.checked os 4 .any (fun w args => (Rows.shapeAlignedSpec.pre enc Tryd.prog Tryd.f4 [] false w args ∧ laidMetH Tryd.prog Rows.shapeAlignedRow.laid w) ∧ sizedMet enc Tryd.prog Tryd.f4 (OpenSpec.ofChange Rows.shapeAlignedSpec) false w args)
      (Rows.shapeAlignedSpec.post enc Tryd.prog Tryd.f4 false true false false) := by
  refine Law.lifted_laid (C := Tryd.checked) (tb := 4) (laid := Rows.shapeAlignedRow.laid) own started (by kernel_rfl) Tryd.func4
    (ChangeSpec.witness_shaped (enc := enc) (C := Tryd.checked) (os := os) (X := fun w _ => laidMetH Tryd.prog Rows.shapeAlignedRow.laid w) false (World.doorLaid Tryd.prog 400 os) #[.slice none 0 0, .slice none 0 0, .int .i64 0, .int .i64 0] 8 rfl (World.shaped_of_RefB (by kernel_rfl) (by kernel_rfl)) (by kernel_rfl) (by kernel_rfl) (by kernel_rfl) (door_met os _)) (by kernel_rfl) (by kernel_rfl) (by kernel_rfl) rfl rfl Tryd.underlying4 ?_ ?_
  · intro ds h
    match ds, h with
    | [d1, d2, d3, d4], _ => rfl
  · intro W args ds hc hL
    obtain ⟨hvS, hrS, hzS⟩ := hc
    rw [show Tryd.f4.params.toList = [28, 22, 3, 3] from rfl] at hvS hrS hzS
    have hvT : ∃ base, ∀ (j : Nat) t' v, ([28, 22, 3, 3])[j]? = some t' → args.toList[j]? = some v → Value.okWide Tryd.prog W .any base t' v := by
      obtain ⟨b, hb⟩ := hvS
      exact ⟨b, fun j t' v h1 h2 => hb j t' v h1 (by simpa using h2)⟩
    obtain ⟨v0, vs0, ds0, x0, e0, ⟨b0, k0⟩, r0, hv0, hr0, hz0⟩ := uncons (R := RSlice RShape 12 112) hvT hrS hzS (fun _ => reader_shapes)
    obtain ⟨v1, vs1, ds1, x1, rfl, ⟨b1, k1⟩, r1, hv1, hr1, hz1⟩ := uncons (R := RSlice (RInt .i64) 1 8) hv0 hr0 hz0 (fun _ => reader_slice Tryd.underlying22 (s := 1) (bytes := 8) (by kernel_rfl) (by omega) (by kernel_rfl) (fun _ _ => reader_int Tryd.underlying3))
    obtain ⟨v2, vs2, ds2, x2, rfl, ⟨b2, k2⟩, r2, hv2, hr2, hz2⟩ := uncons (R := RInt .i64) hv1 hr1 hz1 (fun _ => reader_int Tryd.underlying3)
    obtain ⟨v3, vs3, ds3, x3, rfl, ⟨b3, k3⟩, r3, hv3, hr3, hz3⟩ := uncons (R := RInt .i64) hv2 hr2 hz2 (fun _ => reader_int Tryd.underlying3)
    obtain ⟨pE, hrE⟩ := hr3
    obtain ⟨rfl, _, _⟩ := trodAll_nil hrE
    obtain ⟨rfl, l2, u2⟩ := int_arg Tryd.underlying3 k2 r2
    obtain ⟨rfl, l3, u3⟩ := int_arg Tryd.underlying3 k3 r3
    obtain ⟨a0, c0, rfl, l0, m0, t0, n0, el0⟩ := slice_arg Tryd.underlying28 k0 r0
    obtain ⟨a1, c1, rfl, l1, m1, t1, n1, el1⟩ := slice_arg Tryd.underlying22 k1 r1
    obtain ⟨in1, bd1⟩ := ints_of_elems el1
    obtain rfl : args = #[.slice a0 x0.length c0, .slice a1 x1.length c1, .int .i64 x2, .int .i64 x3] := by apply Array.ext'; simpa using e0
    exact law_any _ _ _ _ _ _ _ _ _ _ _ W (shF_of el0) (IntsF.of_ints in1) (by omega) m0 (by omega) m1 (arrs_of hL).1 (arrs_of hL).2

theorem over : Rows.ShapeAlignedSaid :=
  OpenClaim.holds_of_wide 4 Tryd.f4 rfl rfl rfl rfl rfl rfl rfl ⟨rfl, rfl, rfl, rfl, rfl⟩ rfl rfl rfl rfl rfl (by kernel_rfl) Tryd.func4 (by kernel_rfl)
    (of_decide_eq_true (by kernel_rfl)) (by unfold Func.isWrapper; first | (rw [if_pos (by decide +kernel)]; kernel_rfl) | (rw [if_neg (by decide +kernel)]; exact ⟨rfl, rfl⟩))
    (fun os started H enc _ => lifted os started H enc)
theorem proved : Rows.ShapeAlignedCardSaid :=
  Claim7.holds_tied_plain_at .later [] _ _ _ _
    over (fun _ h => by cases h) (by kernel_rfl) (fun _ h => by cases h) shapeAligned_row_tie rfl ⟨rfl, rfl⟩ (by kernel_rfl) rfl
    (fun f fn hf hfn => by
      obtain rfl : f = 4 := Option.some.inj ((show Tryd.prog.funcNamed "chancery/chancerylaw3.ShapeAligned" = some 4 by kernel_rfl).symm.trans hf) |>.symm
      obtain rfl : fn = Tryd.f4 := (Option.some.inj (Tryd.func4.symm.trans hfn)).symm
      exact ⟨by kernel_rfl, fun j t ht => by
        rw [Tryd.params4] at ht
        have hm : t ∈ [28, 22, 3, 3] := by simpa using Array.mem_of_getElem? ht
        have hall : ([28, 22, 3, 3].all fun u => !Tryd.prog.wantsStandIn u) = true := by kernel_rfl
        exact (show Tryd.prog.wantsStandIn t = false by simpa using List.all_eq_true.1 hall t hm)⟩)
    (by kernel_rfl)
#print axioms proved
end Go.Proofs.YtabnohphgegflaaDoor.SAS
