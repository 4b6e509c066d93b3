

/-
  BidiClasses (Class and Mirror have the tables of the document): the call returns true for every number.
  Conditions: the package-level tables start as the program's text lays them (the card ties them to it).
-/
import Derived.Test.YtpbnkkeplhgepaaDoorRows
import Derived.Test.YtpbnkkeplhgepaaDoorCards
import Derived.Test.YtpbnkkeplhgepaaDoorTie
import Derived.Test.YtpbnkkeplhgepaaDoorReads
import Derived.Test.YtpbnkkeplhgepaaDoorDoorLaw
import Derived.SevenTiedAt
namespace Go.Proofs.YtpbnkkeplhgepaaDoor.BC
open Go.ChangeShapes Go.WideShapes Go.ChangeAt Go.RowKit Go.Law PC

theorem gTable : Tryd.prog.globalNamed "chancery/bidi.table" = some 2 := by kernel_rfl
theorem gBrackets : Tryd.prog.globalNamed "chancery/bidi.brackets" = some 3 := by kernel_rfl
theorem tTable : (Tryd.prog.globals[2]?).map (·.type) = some 35 := by kernel_rfl
theorem tBrackets : (Tryd.prog.globals[3]?).map (·.type) = some 38 := by kernel_rfl
theorem tabs_of {W : World} (h : laidMet Tryd.prog Rows.bidiClassesRow.laid W) : TabAt W 2 3 tableT ∧ TabAt W 3 2 bracketsT := by
  obtain ⟨ps, ⟨g0, t0, cs0, f0, p0, q0, hg0, ht0, hv0, hd0, ⟨g1, t1, cs1, f1, p1, q1, hg1, ht1, hv1, hd1, _, _⟩, _⟩, _, _⟩ := h
  obtain rfl := Option.some.inj (gTable.symm.trans hg0)
  obtain rfl := Option.some.inj (gBrackets.symm.trans hg1)
  obtain rfl := Option.some.inj (tTable.symm.trans ht0)
  obtain rfl := Option.some.inj (tBrackets.symm.trans ht1)
  exact ⟨tab_of_trod Tryd.underlying35 (by kernel_rfl) (by omega) (by decide) (laid_cell hg0 hv0) (fun n cs' y' r a b => row_struct Tryd.underlying37 Tryd.underlying3 (by kernel_rfl) (by kernel_rfl) rfl (by kernel_rfl) a b) hd0 rfl,
    tab_of_trod Tryd.underlying38 (by kernel_rfl) (by omega) (by decide) (laid_cell hg1 hv1) (fun n cs' y' r a b => row_array Tryd.underlying39 Tryd.underlying3 (by kernel_rfl) (by kernel_rfl) a b) hd1 rfl⟩

theorem own : ownKnob Tryd.prog.godebug = none := by kernel_rfl
theorem door_met (os : Os) (args : Array Value) : laidMetH Tryd.prog Rows.bidiClassesRow.laid ((World.doorLaid Tryd.prog 400 os).forCall (fun _ _ => 0) ⟨#[], args, []⟩).memory :=
  laidMetH_of_parts3 (fuel := 8) (laidMet_of_run' 8 (by kernel_rfl) (by kernel_rfl)) (by kernel_rfl) (by kernel_rfl)
set_option maxRecDepth 100000 in
theorem lifted (os : Os) (started : os.Started) (H : Type) (enc : TypeId × Value → H) :
    ReturnsInHanded {} Tryd.checked os 4 .any (fun w args => (Rows.bidiClassesSpec.pre enc Tryd.prog Tryd.f4 [] false w args ∧ laidMetH Tryd.prog Rows.bidiClassesRow.laid w) ∧ sizedMet enc Tryd.prog Tryd.f4 (OpenSpec.ofChange Rows.bidiClassesSpec) false w args)
      (Rows.bidiClassesSpec.post enc Tryd.prog Tryd.f4 false true false false) := by
  refine Law.lifted_laid (C := Tryd.checked) (tb := 4) (laid := Rows.bidiClassesRow.laid) own started (by kernel_rfl) Tryd.func4
    (ChangeSpec.witness_shaped (enc := enc) (C := Tryd.checked) (os := os) (X := fun w _ => laidMetH Tryd.prog Rows.bidiClassesRow.laid w) false (World.doorLaid Tryd.prog 400 os) #[.int .i64 0] 8 rfl (World.shaped_of_RefB (by kernel_rfl) (by kernel_rfl)) (by kernel_rfl) (by kernel_rfl) (by kernel_rfl) (door_met os _)) (by kernel_rfl) (by kernel_rfl) (by kernel_rfl) rfl rfl Tryd.underlying4 ?_ ?_
  · intro ds h
    match ds, h with
    | [d1], _ => rfl
  · intro W args ds hc hL
    obtain ⟨hvS, hrS, hzS⟩ := hc
    rw [show Tryd.f4.params.toList = [3] from rfl] at hvS hrS hzS
    have hvT : ∃ base, ∀ (j : Nat) t' v, ([3])[j]? = some t' → args.toList[j]? = some v → Value.okWide Tryd.prog W .any base t' v := by
      obtain ⟨b, hb⟩ := hvS
      exact ⟨b, fun j t' v h1 h2 => hb j t' v h1 (by simpa using h2)⟩
    obtain ⟨v0, vs0, ds0, x0, e0, ⟨b0, k0⟩, r0, hv0, hr0, hz0⟩ := uncons (R := RInt .i64) hvT hrS hzS (fun _ => reader_int Tryd.underlying3)
    obtain ⟨pE, hrE⟩ := hr0
    obtain ⟨rfl, _, _⟩ := trodAll_nil hrE
    obtain ⟨rfl, l0, u0⟩ := int_arg Tryd.underlying3 k0 r0
    obtain rfl : args = #[.int .i64 x0] := by apply Array.ext'; simpa using e0
    obtain ⟨h1, h2⟩ := tabs_of hL
    exact classes_any _ W h1 h2

theorem over : Rows.BidiClassesSaid :=
  OpenClaim.holds_of_wide 4 Tryd.f4 rfl rfl rfl rfl rfl rfl rfl ⟨rfl, rfl, rfl, rfl, rfl⟩ rfl rfl rfl rfl rfl (by kernel_rfl) Tryd.func4 (by kernel_rfl)
    (of_decide_eq_true (by kernel_rfl)) (by unfold Func.isWrapper; first | (rw [if_pos (by decide +kernel)]; kernel_rfl) | (rw [if_neg (by decide +kernel)]; exact ⟨rfl, rfl⟩))
    (fun os started H enc _ => lifted os started H enc)
theorem proved : Rows.BidiClassesCardSaid :=
  Claim7.holds_tied_plain_at .later [] [.data, .widerDeep] true (true, "5c182bad79c9510469a50d3d27a27c246663bb55ab58b4a765a06d17f2eb9111") false
    over (fun _ h => by cases h) (by kernel_rfl) (fun _ h => by cases h) bidiClasses_row_tie rfl ⟨rfl, rfl⟩ (by kernel_rfl) rfl
    (fun f fn hf hfn => by
      obtain rfl : f = 4 := Option.some.inj ((show Tryd.prog.funcNamed "chancery/chancerylaw3.BidiClasses" = some 4 by kernel_rfl).symm.trans hf) |>.symm
      obtain rfl : fn = Tryd.f4 := (Option.some.inj (Tryd.func4.symm.trans hfn)).symm
      exact ⟨by kernel_rfl, fun j t ht => by
        rw [Tryd.params4] at ht
        have hm : t ∈ [3] := by simpa using Array.mem_of_getElem? ht
        have hall : ([3].all fun u => !Tryd.prog.wantsStandIn u) = true := by kernel_rfl
        exact (show Tryd.prog.wantsStandIn t = false by simpa using List.all_eq_true.1 hall t hm)⟩)
    (by kernel_rfl)
#print axioms proved
end Go.Proofs.YtpbnkkeplhgepaaDoor.BC
