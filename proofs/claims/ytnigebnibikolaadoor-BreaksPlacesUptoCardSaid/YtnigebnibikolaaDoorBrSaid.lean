

/-
  BreaksPlaces (Places decides each position by the rules of the document): the call returns true for every input that holds at most 1048576 values and letters.
  Conditions: the row's own bound of what the arguments hold together; the package-level table starts as the program's text lays it (the card ties it to the text).
-/
import Derived.Test.YtnigebnibikolaaDoorRows
import Derived.Test.YtnigebnibikolaaDoorCards
import Derived.Test.YtnigebnibikolaaDoorTie
import Derived.Test.YtnigebnibikolaaDoorReads
import Derived.Test.YtnigebnibikolaaDoorLaidUpto
import Derived.Test.YtnigebnibikolaaDoorBrLaw
import Derived.SevenTiedAt
namespace Go.Proofs.YtnigebnibikolaaDoor.BRS
open Go.ChangeShapes Go.WideShapes Go.ChangeAt Go.RowKit Go.Law Go.Law.Me ME BR
set_option linter.unusedVariables false

theorem gMarks : Tryd.prog.globalNamed "chancery/metric.marks" = some 1 := by kernel_rfl
theorem tMarks : (Tryd.prog.globals[1]?).map (·.type) = some 73 := by kernel_rfl
theorem marks_of {W : World} (h : laidMet Tryd.prog Rows.breaksPlacesUptoRow.laid W) : MarkT W := by
  obtain ⟨ps, ⟨g0, t0, cs0, f0, p0, q0, hg0, ht0, hv0, hd0, _, _⟩, _, _⟩ := h
  obtain rfl := Option.some.inj (gMarks.symm.trans hg0)
  obtain rfl := Option.some.inj (tMarks.symm.trans ht0)
  exact ⟨tab_of_trod Tryd.underlying73 (by kernel_rfl) (by omega) (by decide) (laid_cell hg0 hv0) (fun n cs' y' r a b => row_struct Tryd.underlying92 Tryd.underlying3 (by kernel_rfl) (by kernel_rfl) rfl (by kernel_rfl) a b) hd0 rfl⟩

theorem one_le {H : Type} (d : DataW H) : 1 ≤ Rows.uptoBulk d := by
  cases d with
  | lit l => cases l <;> simp [Rows.uptoBulk]
  | nil => simp [Rows.uptoBulk]
  | ptr d => simp [Rows.uptoBulk]
  | slice elems spare => simp [Rows.uptoBulk]
  | agg parts => simp [Rows.uptoBulk]
  | iface t d => simp [Rows.uptoBulk]
  | map entries => simp [Rows.uptoBulk]
  | held h => simp [Rows.uptoBulk]
theorem length_le {H : Type} (l : List (DataW H)) : l.length ≤ Rows.uptoBulkAll l := by
  induction l with
  | nil => simp [Rows.uptoBulkAll]
  | cons x r ih => have := one_le x; simp only [Rows.uptoBulkAll, List.length_cons]; omega
/-- a slice that comes first is no longer than the bulk -/
theorem len_bulk {H : Type} {enc : TypeId × Value → H} {P : Program} {W : World} {t e : TypeId} {ts : List TypeId} {a : Option Addr} {n c : Nat} {vs : List Value} {ds : List (DataW H)} (ht : P.underlying t = some (.slice e))
    (h : ∃ p, DataW.TrodAll enc P W 0 (fun _ => true) true (t :: ts) (.slice a n c :: vs) ds p) : n ≤ Rows.uptoBulkAll ds := by
  obtain ⟨p, hp⟩ := h
  obtain ⟨v, vs', d, ds', p0, q0, h1, rfl, rfl, ⟨fuel, hf⟩, _⟩ := trodAll_cons hp
  cases h1
  rcases DataW.trod_slice ht hf with ⟨h1, h2⟩ | ⟨a, len, cap, elems, rest, m, hm, h1, h2, _, _, _, hlen, _⟩
  · simp [Value.cells] at h1
    omega
  · simp [Value.cells] at h1
    simp only [Prod.mk.injEq] at h2
    rw [h2.1]
    have := length_le (elems.map (·.1))
    simp only [Rows.uptoBulkAll, Rows.uptoBulk]
    simp at this
    omega

theorem own : ownKnob Tryd.prog.godebug = none := by kernel_rfl
theorem door_met (os : Os) (args : Array Value) : laidMetH Tryd.prog Rows.breaksPlacesUptoRow.laid ((World.doorLaid Tryd.prog 400 os).forCall (fun _ _ => 0) ⟨#[], args, []⟩).memory :=
  laidMetH_of_parts3 (fuel := 8) (laidMet_of_run' 8 (by kernel_rfl) (by kernel_rfl)) (by kernel_rfl) (by kernel_rfl)
theorem reads (os : Os) {H : Type} (enc : TypeId × Value → H) : ∃ places, DataW.whole enc Tryd.prog ((World.doorLaid Tryd.prog 400 os).forCall (fun _ _ => 0) ⟨#[], #[.slice none 0 0], []⟩).memory Tryd.f4.params.toList Rows.breaksPlacesSpec.vars false #[.slice none 0 0].toList 8 = some ([.nil], [], places) :=
  ⟨[], by kernel_rfl⟩
set_option maxRecDepth 100000 in
theorem lifted (os : Os) (started : os.Started) (H : Type) (enc : TypeId × Value → H) (F : Stop.Interp) :
    ReturnsInHanded {} Tryd.checked os 4 .any ((Rows.OpenSpec.upto Rows.breaksPlacesSpec).preRow enc Tryd.prog Tryd.f4 Rows.breaksPlacesUptoRow.domain false Rows.breaksPlacesUptoRow.laid) (((Rows.OpenSpec.upto Rows.breaksPlacesSpec).at F).post enc Tryd.prog Tryd.f4 false true false false) := by
  obtain ⟨places, hx⟩ := reads os enc
  refine Law.lifted_upto (C := Tryd.checked) (tb := 4) (k := Rows.uptoSmall) (laid := Rows.breaksPlacesUptoRow.laid) own started (by kernel_rfl) Tryd.func4
    (witness_row_atRef (enc := enc) (C := Tryd.checked) false (World.doorLaid Tryd.prog 400 os) #[.slice none 0 0] rfl (by kernel_rfl) (by kernel_rfl) (by kernel_rfl)
      (OpenSpec.preRow_of_cond 8 hx (by kernel_rfl) (fun k hk => by cases hk; kernel_rfl) (by kernel_rfl) (door_met os _))) (by kernel_rfl) (by kernel_rfl) (by kernel_rfl) rfl rfl Tryd.underlying4 ?_ ?_
  · intro ds h
    match ds, h with
    | [d1], _ => rfl
  · intro W args ds hc hL hk
    obtain ⟨hvS, hrS, hzS⟩ := hc
    rw [show Tryd.f4.params.toList = [23] from rfl] at hvS hrS hzS
    have hvT : ∃ base, ∀ (j : Nat) t' v, ([23])[j]? = some t' → args.toList[j]? = some v → Value.okWide Tryd.prog W .any base t' v := by
      obtain ⟨b, hb⟩ := hvS
      exact ⟨b, fun j t' v h1 h2 => hb j t' v h1 (by simpa using h2)⟩
    have hrK := hrS
    obtain ⟨v0, vs0, ds0, x0, e0, ⟨b0, k0⟩, r0, hv0, hr0, hz0⟩ := uncons (R := RSlice (RInt .i64) 1 8) hvT hrS hzS (fun _ => reader_slice Tryd.underlying23 (s := 1) (bytes := 8) (by kernel_rfl) (by omega) (by kernel_rfl) (fun _ _ => reader_int Tryd.underlying3))
    obtain ⟨pE, hrE⟩ := hr0
    obtain ⟨rfl, _, _⟩ := trodAll_nil hrE
    obtain ⟨a0, c0, rfl, l0, m0, t0, n0, el0⟩ := slice_arg Tryd.underlying23 k0 r0
    obtain ⟨in0, bd0⟩ := ints_of_elems el0
    obtain rfl : args = #[.slice a0 x0.length c0] := by apply Array.ext'; simpa using e0
    have hb := len_bulk Tryd.underlying23 hrK
    have hk' : Rows.uptoBulkAll ds ≤ 1048576 := of_decide_eq_true hk
    exact law_any _ _ _ _ W (marks_of hL) (IntsF.of_ints in0) (by omega) (by omega) (by omega)

theorem over : Rows.BreaksPlacesUptoSaid :=
  OpenClaim.holds_of_cond 4 Tryd.f4 rfl rfl rfl rfl rfl rfl rfl ⟨rfl, rfl, rfl, rfl, rfl⟩ rfl rfl rfl rfl rfl (by kernel_rfl) Tryd.func4 (by kernel_rfl)
    (of_decide_eq_true (by kernel_rfl)) (by unfold Func.isWrapper; first | (rw [if_pos (by decide +kernel)]; kernel_rfl) | (rw [if_neg (by decide +kernel)]; exact ⟨rfl, rfl⟩))
    (fun os started H enc _ F => by rw [OpenClaim.pre_eq_preRow]; exact lifted os started H enc F)
theorem plain (f : FuncId) (fn : Func) (hf : Tryd.pinned.checked.prog.funcNamed "chancery/chancerylaw3.BreaksPlaces" = some f) (hfn : Tryd.pinned.checked.prog.funcs[f]? = some fn) :
    false = Tryd.pinned.checked.prog.looks [] ∧ ∀ (j : Nat) t, fn.params[j]? = some t → Tryd.pinned.checked.prog.wantsStandIn t = false := by
  obtain rfl : f = 4 := Option.some.inj ((show Tryd.prog.funcNamed "chancery/chancerylaw3.BreaksPlaces" = some 4 by kernel_rfl).symm.trans hf) |>.symm
  obtain rfl : fn = Tryd.f4 := (Option.some.inj (Tryd.func4.symm.trans hfn)).symm
  refine ⟨by kernel_rfl, fun j t ht => ?_⟩
  rw [Tryd.params4] at ht
  have hm : t ∈ [23] := by simpa using Array.mem_of_getElem? ht
  have hall : ([23].all fun u => !Tryd.prog.wantsStandIn u) = true := by kernel_rfl
  exact (show Tryd.prog.wantsStandIn t = false by simpa using List.all_eq_true.1 hall t hm)
theorem proved : Rows.BreaksPlacesUptoCardSaid :=
  Claim7.holds_tied_plain_at .later [] _ _ _ _ over (fun _ h => by cases h) (by kernel_rfl) (fun _ h => by cases h) breaksPlacesUpto_row_tie rfl ⟨rfl, rfl⟩ (by kernel_rfl) rfl plain (by kernel_rfl)
#print axioms proved
end Go.Proofs.YtnigebnibikolaaDoor.BRS
