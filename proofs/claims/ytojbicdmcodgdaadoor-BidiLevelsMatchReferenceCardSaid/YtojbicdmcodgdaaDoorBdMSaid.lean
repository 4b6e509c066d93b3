/-
  BidiLevelsMatchReference (Base and Levels follow the rules of the document): the call returns true for every input.
  Conditions: the package-level tables start as the program's text lays them (the card ties them to it).
-/
import Derived.Test.YtojbicdmcodgdaaDoorRows
import Derived.Test.YtojbicdmcodgdaaDoorCards
import Derived.Test.YtojbicdmcodgdaaDoorTie
import Derived.Test.YtojbicdmcodgdaaDoorBdM00
import Derived.SevenTiedAt
import Derived.Test.YtojbicdmcodgdaaDoorBdM29
namespace Go.Law.Bd
open Go Go.Law Go.RowKit Go.ChangeShapes Go.WideShapes Go.ChangeAt
theorem tabC_of_trod {H : Type} {enc : TypeId × Value → H} {P : Program} {w : World} {fuel t e k g : Nat} {cs : List Value} {y : DataW H × List MemPlace} {rows : List (List Int)} (ht : P.underlying t = some (.slice e)) (hk : P.cellsOf e = k) (hk0 : 0 < k) (hne : rows ≠ []) (hall : ∀ r ∈ rows, r.length = k) (hcell : w.cell? ⟨g, 0, none⟩ = cs[0]?)
    (hrow : ∀ n cs' y' r, DataW.trod enc P w 0 (fun _ => true) false n e cs' = some y' → y'.1 = rowD r → cs' = r.map (Value.int .i64))
    (h : DataW.trod enc P w 0 (fun _ => true) false fuel t cs = some y) (hy : y.1 = .slice (rows.map rowD) []) : TabC w g k rows := by
  obtain ⟨b, off, cap, h1, h2⟩ := (tab_of_trod ht hk hk0 hne hcell hrow h hy).ents hall
  refine ⟨b, off, cap, h1, ?_, h2⟩
  rcases DataW.trod_slice ht h with ⟨rfl, rfl⟩ | ⟨a, len, cap', elems, rest, m, hm, rfl, rfl, _, hl, hcap, hlen, hel, _, _⟩
  · cases hy
  · rw [hcell] at h1
    have e1 := Option.some.inj h1
    injection e1 with _ e2 e3
    omega
end Go.Law.Bd
namespace Go.Proofs.YtojbicdmcodgdaaDoor.BDS
open Go.ChangeShapes Go.WideShapes Go.ChangeAt Go.RowKit Go.Law Go.Law.Bd BD
set_option linter.unusedVariables false
theorem gTable : Tryd.prog.globalNamed "chancery/bidi.table" = some 1 := by kernel_rfl
theorem gBrackets : Tryd.prog.globalNamed "chancery/bidi.brackets" = some 2 := by kernel_rfl
theorem gCouple : Tryd.prog.globalNamed "chancery/chanceryref3.couple" = some 0 := by kernel_rfl
theorem tTable : (Tryd.prog.globals[1]?).map (·.type) = some 79 := by kernel_rfl
theorem tBrackets : (Tryd.prog.globals[2]?).map (·.type) = some 67 := by kernel_rfl
theorem tCouple : (Tryd.prog.globals[0]?).map (·.type) = some 67 := by kernel_rfl
theorem tabs_of {W : World} (h : laidMet Tryd.prog Rows.bidiLevelsMatchReferenceRow.laid W) : TabC W 1 3 tableT ∧ TabC W 2 2 bracketsT ∧ TabC W 0 2 coupleT := by
  obtain ⟨ps, ⟨g0, t0, cs0, f0, p0, q0, hg0, ht0, hv0, hd0, ⟨g1, t1, cs1, f1, p1, q1, hg1, ht1, hv1, hd1, ⟨g2, t2, cs2, f2, p2, q2, hg2, ht2, hv2, hd2, _, _⟩, _⟩, _⟩, _, _⟩ := h
  obtain rfl := Option.some.inj (gTable.symm.trans hg0)
  obtain rfl := Option.some.inj (gBrackets.symm.trans hg1)
  obtain rfl := Option.some.inj (gCouple.symm.trans hg2)
  obtain rfl := Option.some.inj (tTable.symm.trans ht0)
  obtain rfl := Option.some.inj (tBrackets.symm.trans ht1)
  obtain rfl := Option.some.inj (tCouple.symm.trans ht2)
  exact ⟨tabC_of_trod Tryd.underlying79 (by kernel_rfl) (by omega) (by decide) (by decide) (laid_cell hg0 hv0) (fun n cs' y' r a b => row_struct Tryd.underlying81 Tryd.underlying3 (by kernel_rfl) (by kernel_rfl) rfl (by kernel_rfl) a b) hd0 rfl,
    tabC_of_trod Tryd.underlying67 (by kernel_rfl) (by omega) (by decide) (by decide) (laid_cell hg1 hv1) (fun n cs' y' r a b => row_array Tryd.underlying69 Tryd.underlying3 (by kernel_rfl) (by kernel_rfl) a b) hd1 rfl,
    tabC_of_trod Tryd.underlying67 (by kernel_rfl) (by omega) (by decide) (by decide) (laid_cell hg2 hv2) (fun n cs' y' r a b => row_array Tryd.underlying69 Tryd.underlying3 (by kernel_rfl) (by kernel_rfl) a b) hd2 rfl⟩
theorem own : ownKnob Tryd.prog.godebug = none := by kernel_rfl
theorem door_met (os : Os) (args : Array Value) : laidMetH Tryd.prog Rows.bidiLevelsMatchReferenceRow.laid ((World.doorLaid Tryd.prog 400 os).forCall (fun _ _ => 0) ⟨#[], args, []⟩).memory :=
  laidMetH_of_parts3 (fuel := 8) (laidMet_of_run' 8 (by kernel_rfl) (by kernel_rfl)) (by kernel_rfl) (by kernel_rfl)
set_option maxRecDepth 100000 in
theorem lifted (os : Os) (started : os.Started) (H : Type) (enc : TypeId × Value → H) :
    ReturnsInHanded {} Tryd.checked os 3 .any (fun w args => (Rows.bidiLevelsMatchReferenceSpec.pre enc Tryd.prog Tryd.f3 [] false w args ∧ laidMetH Tryd.prog Rows.bidiLevelsMatchReferenceRow.laid w) ∧ sizedMet enc Tryd.prog Tryd.f3 (OpenSpec.ofChange Rows.bidiLevelsMatchReferenceSpec) false w args)
      (Rows.bidiLevelsMatchReferenceSpec.post enc Tryd.prog Tryd.f3 false true false false) := by
  refine Law.lifted_laid (C := Tryd.checked) (tb := 4) (laid := Rows.bidiLevelsMatchReferenceRow.laid) own started (by kernel_rfl) Tryd.func3
    (ChangeSpec.witness_shaped (enc := enc) (C := Tryd.checked) (os := os) (X := fun w _ => laidMetH Tryd.prog Rows.bidiLevelsMatchReferenceRow.laid w) false (World.doorLaid Tryd.prog 400 os) #[.slice none 0 0, .int .i64 0] 8 rfl (World.shaped_of_RefB (by kernel_rfl) (by kernel_rfl)) (by kernel_rfl) (by kernel_rfl) (by kernel_rfl) (door_met os _)) (by kernel_rfl) (by kernel_rfl) (by kernel_rfl) rfl rfl Tryd.underlying4 ?_ ?_
  · intro ds h
    match ds, h with
    | [d1, d2], _ => rfl
  · intro W args ds hc hL
    obtain ⟨hvS, hrS, hzS⟩ := hc
    rw [show Tryd.f3.params.toList = [22, 3] from rfl] at hvS hrS hzS
    have hvT : ∃ base, ∀ (j : Nat) t' v, ([22, 3])[j]? = some t' → args.toList[j]? = some v → Value.okWide Tryd.prog W .any base t' v := by
      obtain ⟨b, hb⟩ := hvS
      exact ⟨b, fun j t' v h1 h2 => hb j t' v h1 (by simpa using h2)⟩
    obtain ⟨v0, vs0, ds0, x0, e0, ⟨b0, k0⟩, r0, hv0, hr0, hz0⟩ := uncons (R := RSlice (RInt .i64) 1 8) hvT hrS hzS (fun _ => reader_slice Tryd.underlying22 (s := 1) (bytes := 8) (by kernel_rfl) (by omega) (by kernel_rfl) (fun _ _ => reader_int Tryd.underlying3))
    obtain ⟨v1, vs1, ds1, x1, rfl, ⟨b1, k1⟩, r1, hv1, hr1, hz1⟩ := uncons (R := RInt .i64) hv0 hr0 hz0 (fun _ => reader_int Tryd.underlying3)
    obtain ⟨pE, hrE⟩ := hr1
    obtain ⟨rfl, _, _⟩ := trodAll_nil hrE
    obtain ⟨a0, c0, rfl, l0, m0, t0, n0, el0⟩ := slice_arg Tryd.underlying22 k0 r0
    obtain ⟨in0, bd0⟩ := ints_of_elems el0
    obtain ⟨rfl, l1, u1⟩ := int_arg Tryd.underlying3 k1 r1
    obtain rfl : args = #[.slice a0 x0.length c0, .int .i64 x1] := by apply Array.ext'; simpa using e0
    obtain ⟨h1, h2, h3⟩ := tabs_of hL
    exact bidiLaw_any _ _ _ _ _ W (IntsF.of_ints in0) (by unfold reachBytes at t0; omega) (by omega) ⟨by omega, by omega⟩ h1 h2 h3
theorem over : Rows.BidiLevelsMatchReferenceSaid :=
  OpenClaim.holds_of_wide 3 Tryd.f3 rfl rfl rfl rfl rfl rfl rfl ⟨rfl, rfl, rfl, rfl, rfl⟩ rfl rfl rfl rfl rfl (by kernel_rfl) Tryd.func3 (by kernel_rfl)
    (of_decide_eq_true (by kernel_rfl)) (by unfold Func.isWrapper; first | (rw [if_pos (by decide +kernel)]; kernel_rfl) | (rw [if_neg (by decide +kernel)]; exact ⟨rfl, rfl⟩))
    (fun os started H enc _ => lifted os started H enc)
theorem proved : Rows.BidiLevelsMatchReferenceCardSaid :=
  Claim7.holds_tied_plain_at .later [] _ _ _ _
    over (fun _ h => by cases h) (by kernel_rfl) (fun _ h => by cases h) bidiLevelsMatchReference_row_tie rfl ⟨rfl, rfl⟩ (by kernel_rfl) rfl
    (fun f fn hf hfn => by
      obtain rfl : f = 3 := Option.some.inj ((show Tryd.prog.funcNamed "chancery/chancerylaw3.BidiLevelsMatchReference" = some 3 by kernel_rfl).symm.trans hf) |>.symm
      obtain rfl : fn = Tryd.f3 := (Option.some.inj (Tryd.func3.symm.trans hfn)).symm
      exact ⟨by kernel_rfl, fun j t ht => by
        rw [Tryd.params3] at ht
        have hm : t ∈ [22, 3] := by simpa using Array.mem_of_getElem? ht
        have hall : ([22, 3].all fun u => !Tryd.prog.wantsStandIn u) = true := by kernel_rfl
        exact (show Tryd.prog.wantsStandIn t = false by simpa using List.all_eq_true.1 hall t hm)⟩)
    (by kernel_rfl)
#print axioms proved
end Go.Proofs.YtojbicdmcodgdaaDoor.BDS
