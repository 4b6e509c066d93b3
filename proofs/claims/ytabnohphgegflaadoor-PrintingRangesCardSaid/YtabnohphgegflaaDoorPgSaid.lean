

/-
  PrintingRanges (Ranges against the reader of the document): the call returns true for every input.
  Conditions: the package-level variables start as the program's text lays them (the card ties them to it).
-/
import Derived.Test.YtabnohphgegflaaDoorRows
import Derived.Test.YtabnohphgegflaaDoorReads
import Derived.Test.YtabnohphgegflaaDoorLift
import Derived.Test.YtabnohphgegflaaDoorTie
import Derived.Test.YtabnohphgegflaaDoorCards
import Derived.Test.YtabnohphgegflaaDoorLaidRows
import Derived.Test.YtabnohphgegflaaDoorPgLaw
import Derived.Stop.LaidErr
import Derived.Lib.LaidTab
import Derived.Lay
namespace Go.Law
open Go.RowKit Go.ChangeShapes
/-- what a listed variable of an interface type holds -/
theorem iface_of_laid {P : Program} {n : String} {d : DataW Unit} {r : List (String × DataW Unit)} {W : World} {g : Nat} {ti : TypeId} {ms : Array (String × TypeId)}
    (h : laidMet P ((n, d) :: r) W) (hg : P.globalNamed n = some g) (ht : (P.globals[g]?).map (·.type) = some ti) (hi : P.underlying ti = some (.interface ms)) :
    ∃ ev, W.cell? ⟨g, 0, none⟩ = some ev ∧ (ev = .nilIface ∨ ∃ te pe, ev = .iface te pe) := by
  obtain ⟨ps, ⟨g0, t0, cs0, f0, p0, q0, hg0, ht0, hv0, hd0, _, e0⟩, _, hrows⟩ := h
  obtain rfl := Option.some.inj (hg.symm.trans hg0)
  obtain rfl := Option.some.inj (ht.symm.trans ht0)
  have hc := World.var?_cell hg0 hv0 0
  obtain ⟨l⟩ := cs0
  cases f0 with
  | zero => simp [DataW.trod] at hd0
  | succ f =>
    rcases l with _ | ⟨v, _ | ⟨v2, l⟩⟩
    · unfold DataW.trod at hd0
      simp [hi] at hd0
    · cases v
      all_goals first
        | exact ⟨_, hc, .inl rfl⟩
        | exact ⟨_, hc, .inr ⟨_, _, rfl⟩⟩
        | (unfold DataW.trod at hd0; simp [hi] at hd0; done)
    · unfold DataW.trod at hd0
      simp [hi] at hd0
end Go.Law
namespace Go.Proofs.YtabnohphgegflaaDoor.PGS
open Go.ChangeShapes Go.WideShapes Go.ChangeAt Go.RowKit Go.Law Go.Law.Pg PG
set_option linter.unusedVariables false
theorem env_of {W : World} (h : laidMet Tryd.prog Rows.printingRangesRow.laid W) : TEnv W := by
  have h1 := h.tail.tail
  have h2 := h1.tail.tail
  have h3 := h2.tail
  refine ⟨?_, ?_, ?_⟩
  · exact iface_of_laid h3 (by kernel_rfl) (ti := 70) (by kernel_rfl) Tryd.underlying70
  · exact iface_of_laid h2 (by kernel_rfl) (ti := 70) (by kernel_rfl) Tryd.underlying70
  · have e : (Rows.laid_internal_strconv_uint64pow10 : DataW Unit) = Lib.tabData .u64 Lib.pow10Tab := by rfl
    have h4 : laidMet Tryd.prog (("internal/strconv.uint64pow10", Lib.tabData .u64 Lib.pow10Tab) :: _) W := h1
    exact Lib.tabIs_of_head (g := 7) (t := 148) (e := 104) (n := 20) (by kernel_rfl) (by kernel_rfl) (by kernel_rfl) (by kernel_rfl) (by kernel_rfl) (by kernel_rfl) h4

theorem own : ownKnob Tryd.prog.godebug = none := by kernel_rfl
set_option maxRecDepth 100000 in
theorem lifted (os : Os) (started : os.Started) (H : Type) (enc : TypeId × Value → H) :
    ReturnsInHanded {} Tryd.checked os 3 .any (fun w args => (Rows.printingRangesSpec.pre enc Tryd.prog Tryd.f3 [] false w args ∧ laidMetH Tryd.prog Rows.printingRangesRow.laid w) ∧ sizedMet enc Tryd.prog Tryd.f3 (OpenSpec.ofChange Rows.printingRangesSpec) false w args)
      (Rows.printingRangesSpec.post enc Tryd.prog Tryd.f3 false true false false) := by
  refine Law.lifted_laid (C := Tryd.checked) (tb := 4) (laid := Rows.printingRangesRow.laid) own started (by kernel_rfl) Tryd.func3
    (ChangeSpec.witness_shaped (enc := enc) (C := Tryd.checked) (os := os) (X := fun w _ => laidMetH Tryd.prog Rows.printingRangesRow.laid w) false (World.laidAll Tryd.prog os Rows.printingRangesRow.laid) #[.string ⟨#[]⟩, .int .i64 0] 8 (World.laidAll_os _ _ _) (World.shaped_of_ZipB (by kernel_rfl) (by kernel_rfl)) (by kernel_rfl) (by kernel_rfl) (by kernel_rfl)
      (by rw [MakeChecks.laidMetH_plain _ _ _ (by kernel_rfl)]; exact laidMet_laidAll _ (by kernel_rfl) (by kernel_rfl))) (by kernel_rfl) (by kernel_rfl) (by kernel_rfl) rfl rfl Tryd.underlying4 ?_ ?_
  · intro ds h
    match ds, h with
    | [d1, d2], _ => rfl
  · intro W args ds hc hL
    obtain ⟨hvS, hrS, hzS⟩ := hc
    rw [show Tryd.f3.params.toList = [9, 3] from rfl] at hvS hrS hzS
    have hvT : ∃ base, ∀ (j : Nat) t' v, ([9, 3])[j]? = some t' → args.toList[j]? = some v → Value.okWide Tryd.prog W .any base t' v := by
      obtain ⟨b, hb⟩ := hvS
      exact ⟨b, fun j t' v h1 h2 => hb j t' v h1 (by simpa using h2)⟩
    obtain ⟨v0, vs0, ds0, x0, e0, ⟨b0, k0⟩, r0, hv0, hr0, hz0⟩ := uncons (R := RStr) hvT hrS hzS (fun _ => reader_string Tryd.underlying9)
    obtain ⟨v1, vs1, ds1, x1, rfl, ⟨b1, k1⟩, r1, hv1, hr1, hz1⟩ := uncons (R := RInt .i64) hv0 hr0 hz0 (fun _ => reader_int Tryd.underlying3)
    obtain ⟨pE, hrE⟩ := hr1
    obtain ⟨rfl, _, _⟩ := trodAll_nil hrE
    obtain ⟨rfl, l1, u1⟩ := int_arg Tryd.underlying3 k1 r1
    obtain ⟨rfl, hs0⟩ := string_arg Tryd.underlying9 k0 r0
    obtain rfl : args = #[.string x0, .int .i64 x1] := by apply Array.ext'; simpa using e0
    exact printingLaw_any _ _ W (env_of hL)

theorem over : Rows.PrintingRangesSaid :=
  OpenClaim.holds_of_wide 3 Tryd.f3 rfl rfl rfl rfl rfl rfl rfl ⟨rfl, rfl, rfl, rfl, rfl⟩ rfl rfl rfl rfl rfl (by kernel_rfl) Tryd.func3 (by kernel_rfl)
    (of_decide_eq_true (by kernel_rfl)) (by unfold Func.isWrapper; first | (rw [if_pos (by decide +kernel)]; kernel_rfl) | (rw [if_neg (by decide +kernel)]; exact ⟨rfl, rfl⟩))
    (fun os started H enc _ => lifted os started H enc)
theorem proved : Rows.PrintingRangesCardSaid :=
  Claim7.holds_tied_plain_at .later [] _ _ _ _
    over (fun _ h => by cases h) (by kernel_rfl) (fun _ h => by cases h) printingRanges_row_tie rfl ⟨rfl, rfl⟩ (by kernel_rfl) rfl
    (fun f fn hf hfn => by
      obtain rfl : f = 3 := Option.some.inj ((show Tryd.prog.funcNamed "chancery/chancerylaw3.PrintingRanges" = some 3 by kernel_rfl).symm.trans hf) |>.symm
      obtain rfl : fn = Tryd.f3 := (Option.some.inj (Tryd.func3.symm.trans hfn)).symm
      exact ⟨by kernel_rfl, fun j t ht => by
        rw [Tryd.params3] at ht
        have hm : t ∈ [9, 3] := by simpa using Array.mem_of_getElem? ht
        have hall : ([9, 3].all fun u => !Tryd.prog.wantsStandIn u) = true := by kernel_rfl
        exact (show Tryd.prog.wantsStandIn t = false by simpa using List.all_eq_true.1 hall t hm)⟩)
    (by kernel_rfl)
#print axioms proved
end Go.Proofs.YtabnohphgegflaaDoor.PGS
