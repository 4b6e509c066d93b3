

/-
  PatternCheck (Check against the first error of the document's checker): the call returns true for every input.
  Conditions: the package-level variables start as the program's text lays them (the card ties them to it).
-/
import Derived.Test.YtghbicajcffjhaaDoorRows
import Derived.Test.YtghbicajcffjhaaDoorReads
import Derived.Test.YtghbicajcffjhaaDoorLift
import Derived.Test.YtghbicajcffjhaaDoorTie
import Derived.Test.YtghbicajcffjhaaDoorCards
import Derived.Test.YtghbicajcffjhaaDoorLaidRows
import Derived.Test.YtghbicajcffjhaaDoorPcRead
import Derived.Test.YtghbicajcffjhaaDoorPcLaw
import Derived.Lib.LaidTab
import Derived.Stop.LaidErr
namespace Go.Proofs.YtghbicajcffjhaaDoor.PCS
open Go.ChangeShapes Go.WideShapes Go.ChangeAt Go.RowKit Go.Law Go.Law.Pn PC
set_option linter.unusedVariables false
theorem tabRow_of {w : World} {g n : Nat} {rows : List (List Int)} {f : Nat → Int × Int} (h : TabAt w g 2 rows) (hn : rows.length = n) (hr : ∀ i, i < n → rows[i]? = some [(f i).1, (f i).2]) : TabRow w g n f := by
  obtain ⟨b, off, cap, h1, h2⟩ := h
  subst hn
  refine ⟨_, _, h1, fun _ => ⟨b, off, rfl, fun i hi j hj => ?_⟩⟩
  have h3 := h2 i _ (hr i hi) rfl
  match j, hj with
  | 0, _ => exact h3 0 _ rfl
  | 1, _ => exact h3 1 _ rfl
def db64 : List Int := [0, 1, 56, 2, 57, 49, 28, 3, 61, 58, 42, 50, 38, 29, 17, 4, 62, 47, 59, 36, 45, 43, 51, 22, 53, 39, 33, 30, 24, 18, 12, 5, 63, 55, 48, 27, 60, 41, 37, 16, 46, 35, 44, 21, 52, 32, 23, 11, 54, 26, 40, 15, 34, 20, 31, 10, 25, 14, 19, 9, 13, 8, 7, 6]
theorem env_of {W : World} (h : laidMet Tryd.prog Rows.patternCheckMatchesReferenceRow.laid W) : PEnv W := by
  have h1 := h.tail
  have h2 := h1.tail
  have h3 := h2.tail
  have e1 : (Rows.laid_math_bits_deBruijn64tab : DataW Unit) = Lib.tabData .u8 db64 := by rfl
  have e2 : (Rows.laid_internal_strconv_uint64pow10 : DataW Unit) = Lib.tabData .u64 Lib.pow10Tab := by rfl
  have k1 : laidMet Tryd.prog (("math/bits.deBruijn64tab", Lib.tabData .u8 db64) :: _) W := h1
  have k2 : laidMet Tryd.prog (("internal/strconv.uint64pow10", Lib.tabData .u64 Lib.pow10Tab) :: _) W := h2
  have t1 := Lib.tabIs_of_head (g := 12) (t := 254) (e := 5) (n := 64) (by kernel_rfl) (by kernel_rfl) (by kernel_rfl) (by kernel_rfl) (by kernel_rfl) (by kernel_rfl) k1
  have t2 := Lib.tabIs_of_head (g := 10) (t := 247) (e := 193) (n := 20) (by kernel_rfl) (by kernel_rfl) (by kernel_rfl) (by kernel_rfl) (by kernel_rfl) (by kernel_rfl) k2
  have hd := Lib.TabIs.cell t1 (g := 12) (by kernel_rfl) 15 (by decide)
  obtain ⟨ps, ⟨g0, t0, cs0, f0, p0, q0, hg0, ht0, hv0, hd0, ⟨g1, t1', cs1, f1, p1, q1, hg1, ht1, hv1, hd1, ⟨g2, t2', cs2, f2, p2, q2, hg2, ht2, hv2, hd2, _, _⟩, _⟩, _⟩, _, _⟩ := h3
  obtain rfl := Option.some.inj ((show Tryd.prog.globalNamed "chancery/pattern.digits" = some 4 by kernel_rfl).symm.trans hg0)
  obtain rfl := Option.some.inj ((show Tryd.prog.globalNamed "chancery/pattern.letters" = some 5 by kernel_rfl).symm.trans hg1)
  obtain rfl := Option.some.inj ((show Tryd.prog.globalNamed "chancery/pattern.blanks" = some 6 by kernel_rfl).symm.trans hg2)
  obtain rfl := Option.some.inj ((show (Tryd.prog.globals[4]?).map (·.type) = some 22 by kernel_rfl).symm.trans ht0)
  obtain rfl := Option.some.inj ((show (Tryd.prog.globals[5]?).map (·.type) = some 22 by kernel_rfl).symm.trans ht1)
  obtain rfl := Option.some.inj ((show (Tryd.prog.globals[6]?).map (·.type) = some 22 by kernel_rfl).symm.trans ht2)
  have r0 : TabAt W 4 2 [[48, 57]] := tab_of_trod Tryd.underlying22 (by kernel_rfl) (by omega) (by decide) (laid_cell hg0 hv0) (fun n cs' y' r a b => row_struct Tryd.underlying119 Tryd.underlying3 (by kernel_rfl) (by kernel_rfl) rfl (by kernel_rfl) a b) hd0 rfl
  have r1 : TabAt W 5 2 [[48, 57], [65, 90], [95, 95], [97, 122], [192, 591], [880, 1535]] := tab_of_trod Tryd.underlying22 (by kernel_rfl) (by omega) (by decide) (laid_cell hg1 hv1) (fun n cs' y' r a b => row_struct Tryd.underlying119 Tryd.underlying3 (by kernel_rfl) (by kernel_rfl) rfl (by kernel_rfl) a b) hd1 rfl
  have r2 : TabAt W 6 2 [[9, 10], [32, 32], [160, 160]] := tab_of_trod Tryd.underlying22 (by kernel_rfl) (by omega) (by decide) (laid_cell hg2 hv2) (fun n cs' y' r a b => row_struct Tryd.underlying119 Tryd.underlying3 (by kernel_rfl) (by kernel_rfl) rfl (by kernel_rfl) a b) hd2 rfl
  refine ⟨t2, hd, tabRow_of r0 rfl (fun i hi => ?_), tabRow_of r1 rfl (fun i hi => ?_), tabRow_of r2 rfl (fun i hi => ?_)⟩
  · obtain rfl : i = 0 := by omega
    rfl
  · obtain rfl | rfl | rfl | rfl | rfl | rfl : i = 0 ∨ i = 1 ∨ i = 2 ∨ i = 3 ∨ i = 4 ∨ i = 5 := by omega
    all_goals rfl
  · obtain rfl | rfl | rfl : i = 0 ∨ i = 1 ∨ i = 2 := by omega
    all_goals rfl

theorem own : ownKnob Tryd.prog.godebug = none := by kernel_rfl
theorem door_met (os : Os) (args : Array Value) : laidMetH Tryd.prog Rows.patternCheckMatchesReferenceRow.laid ((World.doorLaid Tryd.prog 400 os).forCall (fun _ _ => 0) ⟨#[], args, []⟩).memory :=
  laidMetH_of_parts3 (fuel := 8) (laidMet_of_run' 8 (by kernel_rfl) (by kernel_rfl)) (by kernel_rfl) (by kernel_rfl)
set_option maxRecDepth 100000 in
theorem lifted (os : Os) (started : os.Started) (H : Type) (enc : TypeId × Value → H) :
    ReturnsInHanded {} Tryd.checked os 3 .any (fun w args => (Rows.patternCheckMatchesReferenceSpec.pre enc Tryd.prog Tryd.f3 [] false w args ∧ laidMetH Tryd.prog Rows.patternCheckMatchesReferenceRow.laid w) ∧ sizedMet enc Tryd.prog Tryd.f3 (OpenSpec.ofChange Rows.patternCheckMatchesReferenceSpec) false w args)
      (Rows.patternCheckMatchesReferenceSpec.post enc Tryd.prog Tryd.f3 false true false false) := by
  refine Law.lifted_laid (C := Tryd.checked) (tb := 4) (laid := Rows.patternCheckMatchesReferenceRow.laid) own started (by kernel_rfl) Tryd.func3
    (ChangeSpec.witness_shaped (enc := enc) (C := Tryd.checked) (os := os) (X := fun w _ => laidMetH Tryd.prog Rows.patternCheckMatchesReferenceRow.laid w) false (World.doorLaid Tryd.prog 400 os) #[.agg #[.int .i64 0, .bool false, .bool false, .int .i64 0, .int .i64 0, .slice none 0 0, .slice none 0 0]] 8 rfl (World.shaped_of_RefB (by kernel_rfl) (by kernel_rfl)) (by kernel_rfl) (by kernel_rfl) (by kernel_rfl) (door_met os _)) (by kernel_rfl) (by kernel_rfl) (by kernel_rfl) rfl rfl Tryd.underlying4 ?_ ?_
  · intro ds h
    match ds, h with
    | [d1], _ => rfl
  · intro W args ds hc hL
    obtain ⟨hvS, hrS, hzS⟩ := hc
    rw [show Tryd.f3.params.toList = [25] from rfl] at hvS hrS hzS
    have hvT : ∃ base, ∀ (j : Nat) t' v, ([25])[j]? = some t' → args.toList[j]? = some v → Value.okWide Tryd.prog W .any base t' v := by
      obtain ⟨b, hb⟩ := hvS
      exact ⟨b, fun j t' v h1 h2 => hb j t' v h1 (by simpa using h2)⟩
    obtain ⟨v0, vs0, ds0, x0, e0, ⟨b0, k0⟩, r0, hv0, hr0, hz0⟩ := uncons (R := RNode) hvT hrS hzS (fun f => reader_node f)
    obtain ⟨pE, hrE⟩ := hr0
    obtain ⟨rfl, _, _⟩ := trodAll_nil hrE
    obtain ⟨cs, rfl, hcs⟩ := struct_arg Tryd.underlying25 k0
    rw [hcs] at r0
    obtain ⟨hok, hce⟩ := r0
    obtain rfl : args = #[.agg x0.hd.cells.toArray] := by
      apply Array.ext'
      rw [e0, ← hce]
    exact checkLaw_any x0 W hok (env_of hL)

theorem over : Rows.PatternCheckMatchesReferenceSaid :=
  OpenClaim.holds_of_wide 3 Tryd.f3 rfl rfl rfl rfl rfl rfl rfl ⟨rfl, rfl, rfl, rfl, rfl⟩ rfl rfl rfl rfl rfl (by kernel_rfl) Tryd.func3 (by kernel_rfl)
    (of_decide_eq_true (by kernel_rfl)) (by unfold Func.isWrapper; first | (rw [if_pos (by decide +kernel)]; kernel_rfl) | (rw [if_neg (by decide +kernel)]; exact ⟨rfl, rfl⟩))
    (fun os started H enc _ => lifted os started H enc)
theorem proved : Rows.PatternCheckMatchesReferenceCardSaid :=
  Claim7.holds_tied_plain_at .later [] _ _ _ _
    over (fun _ h => by cases h) (by kernel_rfl) (fun _ h => by cases h) patternCheckMatchesReference_row_tie rfl ⟨rfl, rfl⟩ (by kernel_rfl) rfl
    (fun f fn hf hfn => by
      obtain rfl : f = 3 := Option.some.inj ((show Tryd.prog.funcNamed "chancery/chancerylaw3.PatternCheckMatchesReference" = some 3 by kernel_rfl).symm.trans hf) |>.symm
      obtain rfl : fn = Tryd.f3 := (Option.some.inj (Tryd.func3.symm.trans hfn)).symm
      exact ⟨by kernel_rfl, fun j t ht => by
        rw [Tryd.params3] at ht
        have hm : t ∈ [25] := by simpa using Array.mem_of_getElem? ht
        have hall : ([25].all fun u => !Tryd.prog.wantsStandIn u) = true := by kernel_rfl
        exact (show Tryd.prog.wantsStandIn t = false by simpa using List.all_eq_true.1 hall t hm)⟩)
    (by kernel_rfl)
#print axioms proved
end Go.Proofs.YtghbicajcffjhaaDoor.PCS
