

/-
  PatternExpands (Expand puts the ranges of a match into a template): the call returns true for every input that holds at most 1048576 values and letters.
  Conditions: the row's own bound of what the arguments hold together.
-/
import Derived.Test.YtnigebnibikolabRows
import Derived.Test.YtnigebnibikolabReads
import Derived.Test.YtnigebnibikolabLaidUpto
import Derived.Test.YtnigebnibikolabPxLaw
namespace Go.Proofs.Ytnigebnibikolab.PXS
open Go.ChangeShapes Go.WideShapes Go.ChangeAt Go.RowKit Go.Law Go.Law.Px PX
set_option linter.unusedVariables false
theorem one_le {H : Type} (d : DataW H) : 1 ≤ Rows.uptoBulk d := by
  cases d with
  | lit l => cases l <;> simp [Rows.uptoBulk]
  | nil => simp [Rows.uptoBulk]
  | ptr d => simp [Rows.uptoBulk]
  | slice elems spare => simp [Rows.uptoBulk]
  | agg parts => simp [Rows.uptoBulk]
  | iface t d => simp [Rows.uptoBulk]
  | map entries => simp [Rows.uptoBulk]
  | held h => simp [Rows.uptoBulk]
theorem length_le {H : Type} (l : List (DataW H)) : l.length ≤ Rows.uptoBulkAll l := by
  induction l with
  | nil => simp [Rows.uptoBulkAll]
  | cons x r ih => have := one_le x; simp only [Rows.uptoBulkAll, List.length_cons]; omega
section
variable {H : Type} {enc : TypeId × Value → H} {P : Program} {W : World} {t e : TypeId} {ts : List TypeId} {vs : List Value} {ds : List (DataW H)}
/-- a slice that comes first is no longer than the bulk -/
theorem len_bulk {a : Option Addr} {n c : Nat} (ht : P.underlying t = some (.slice e))
    (h : ∃ p, DataW.TrodAll enc P W 0 (fun _ => true) true (t :: ts) (.slice a n c :: vs) ds p) : n ≤ Rows.uptoBulkAll ds := by
  obtain ⟨p, hp⟩ := h
  obtain ⟨v, vs', d, ds', p0, q0, h1, rfl, rfl, ⟨fuel, hf⟩, _⟩ := trodAll_cons hp
  cases h1
  rcases DataW.trod_slice ht hf with ⟨h1, h2⟩ | ⟨a, len, cap, elems, rest, m, hm, h1, h2, _, _, _, hlen, _⟩
  · simp [Value.cells] at h1
    omega
  · simp [Value.cells] at h1
    simp only [Prod.mk.injEq] at h2
    rw [h2.1]
    have := length_le (elems.map (·.1))
    simp only [Rows.uptoBulkAll, Rows.uptoBulk]
    simp at this
    omega
/-- a text that comes first is no longer than the bulk -/
theorem str_bulk {s : ByteArray} (ht : P.underlying t = some .string)
    (h : ∃ p, DataW.TrodAll enc P W 0 (fun _ => true) true (t :: ts) (.string s :: vs) ds p) : s.size ≤ Rows.uptoBulkAll ds := by
  obtain ⟨p, hp⟩ := h
  obtain ⟨v, vs', d, ds', p0, q0, h1, rfl, rfl, ⟨fuel, hf⟩, _⟩ := trodAll_cons hp
  cases h1
  obtain ⟨s', h1, h2, _⟩ := DataW.trod_string ht hf
  simp [Value.cells] at h1
  subst h1
  simp only [Prod.mk.injEq] at h2
  rw [h2.1]
  have : s.data.toList.length = s.size := Array.length_toList
  simp only [Rows.uptoBulkAll, Rows.uptoBulk]
  omega
theorem tail_bulk {v : Value} (h : ∃ p, DataW.TrodAll enc P W 0 (fun _ => true) true (t :: ts) (v :: vs) ds p) : ∃ ds', (∃ p, DataW.TrodAll enc P W 0 (fun _ => true) true ts vs ds' p) ∧ Rows.uptoBulkAll ds' ≤ Rows.uptoBulkAll ds := by
  obtain ⟨p, hp⟩ := h
  obtain ⟨v, vs', d, ds', p0, q0, h1, rfl, rfl, _, h2⟩ := trodAll_cons hp
  cases h1
  exact ⟨ds', ⟨q0, h2⟩, by simp only [Rows.uptoBulkAll]; omega⟩
end
theorem own : ownKnob Try.prog.godebug = none := by kernel_rfl
theorem door_met (os : Os) (args : Array Value) : laidMetH Try.prog Rows.patternExpandsUptoRow.laid ((World.doorLaid Try.prog 400 os).forCall (fun _ _ => 0) ⟨#[], args, []⟩).memory :=
  laidMetH_of_parts3 (fuel := 8) (laidMet_of_run' 8 (by kernel_rfl) (by kernel_rfl)) (by kernel_rfl) (by kernel_rfl)
theorem reads (os : Os) {H : Type} (enc : TypeId × Value → H) : ∃ places, DataW.whole enc Try.prog ((World.doorLaid Try.prog 400 os).forCall (fun _ _ => 0) ⟨#[], #[.string ⟨#[]⟩, .slice none 0 0, .agg #[.int .i64 0, .int .i64 0, .slice none 0 0]], []⟩).memory Try.f3.params.toList Rows.patternExpandsSpec.vars false #[.string ⟨#[]⟩, .slice none 0 0, .agg #[.int .i64 0, .int .i64 0, .slice none 0 0]].toList 8 = some ([.lit (.string []), .nil, .agg [.lit (.int .i64 0), .lit (.int .i64 0), .nil]], [], places) :=
  ⟨[], by kernel_rfl⟩
set_option maxRecDepth 100000 in
theorem lifted (os : Os) (started : os.Started) (H : Type) (enc : TypeId × Value → H) (F : Stop.Interp) :
    ReturnsInHanded {} Try.checked os 3 .any ((Rows.OpenSpec.upto Rows.patternExpandsSpec).preRow enc Try.prog Try.f3 Rows.patternExpandsUptoRow.domain false Rows.patternExpandsUptoRow.laid) (((Rows.OpenSpec.upto Rows.patternExpandsSpec).at F).post enc Try.prog Try.f3 false true false false) := by
  obtain ⟨places, hx⟩ := reads os enc
  refine Law.lifted_upto (C := Try.checked) (tb := 4) (k := Rows.uptoSmall) (laid := Rows.patternExpandsUptoRow.laid) own started (by kernel_rfl) Try.func3
    (witness_row_atRef (enc := enc) (C := Try.checked) false (World.doorLaid Try.prog 400 os) #[.string ⟨#[]⟩, .slice none 0 0, .agg #[.int .i64 0, .int .i64 0, .slice none 0 0]] rfl (by kernel_rfl) (by kernel_rfl) (by kernel_rfl)
      (OpenSpec.preRow_of_cond 8 hx (by kernel_rfl) (fun k hk => by cases hk; kernel_rfl) (by kernel_rfl) (door_met os _))) (by kernel_rfl) (by kernel_rfl) (by kernel_rfl) rfl rfl Try.underlying4 ?_ ?_
  · intro ds h
    match ds, h with
    | [d1, d2, d3], _ => rfl
  · intro W args ds hc hL hk
    obtain ⟨hvS, hrS, hzS⟩ := hc
    rw [show Try.f3.params.toList = [9, 22, 25] from rfl] at hvS hrS hzS
    have hvT : ∃ base, ∀ (j : Nat) t' v, ([9, 22, 25])[j]? = some t' → args.toList[j]? = some v → Value.okWide Try.prog W .any base t' v := by
      obtain ⟨b, hb⟩ := hvS
      exact ⟨b, fun j t' v h1 h2 => hb j t' v h1 (by simpa using h2)⟩
    have hrK := hrS
    obtain ⟨v0, vs0, ds0, x0, e0, ⟨b0, k0⟩, r0, hv0, hr0, hz0⟩ := uncons (R := RStr) hvT hrS hzS (fun _ => reader_string Try.underlying9)
    obtain ⟨v1, vs1, ds1, x1, rfl, ⟨b1, k1⟩, r1, hv1, hr1, hz1⟩ := uncons (R := RSlice (RInt .i64) 1 8) hv0 hr0 hz0 (fun _ => reader_slice Try.underlying22 (s := 1) (bytes := 8) (by kernel_rfl) (by omega) (by kernel_rfl) (fun _ _ => reader_int Try.underlying3))
    obtain ⟨v2, vs2, ds2, x2, rfl, ⟨b2, k2⟩, r2, hv2, hr2, hz2⟩ := uncons (R := RPair (RInt .i64) (RPair (RInt .i64) (RPair (RSlice (RPair (RInt .i64) (RPair (RInt .i64) RNil)) 2 16) RNil))) hv1 hr1 hz1 (fun _ => reader_struct Try.underlying25 rfl (by kernel_rfl) (fun m _ => fields_cons (c := 1) rfl (by kernel_rfl) (reader_int Try.underlying3) (fields_cons (c := 1) rfl (by kernel_rfl) (reader_int Try.underlying3) (fields_cons (c := 1) rfl (by kernel_rfl) (reader_slice Try.underlying23 (s := 2) (bytes := 16) (by kernel_rfl) (by omega) (by kernel_rfl) (fun _ _ => reader_struct Try.underlying30 rfl (by kernel_rfl) (fun m _ => fields_cons (c := 1) rfl (by kernel_rfl) (reader_int Try.underlying3) (fields_cons (c := 1) rfl (by kernel_rfl) (reader_int Try.underlying3) fields_nil)))) fields_nil))))
    obtain ⟨pE, hrE⟩ := hr2
    obtain ⟨rfl, _, _⟩ := trodAll_nil hrE
    obtain ⟨rfl, hs0⟩ := string_arg Try.underlying9 k0 r0
    obtain ⟨a1, c1, rfl, l1, m1, t1, n1, el1⟩ := slice_arg Try.underlying22 k1 r1
    obtain ⟨in1, bd1⟩ := ints_of_elems el1
    obtain ⟨cs, rfl, hcs⟩ := struct_arg Try.underlying25 k2
    obtain ⟨_, _, hc1, ⟨rfl, _⟩, _, _, rfl, ⟨rfl, _⟩, _, _, rfl, ⟨aG, cG, rfl, hG1, hG2, hG3, hG4, elG⟩, rfl⟩ := r2
    rw [hcs] at hc1
    obtain ⟨y0, y1, y2, u⟩ := x2
    obtain rfl : cs = #[.int .i64 y0, .int .i64 y1, .slice aG y2.length cG] := by apply Array.ext'; simpa using hc1
    obtain rfl : args = #[.string x0, .slice a1 x1.length c1, .agg #[.int .i64 y0, .int .i64 y1, .slice aG y2.length cG]] := by apply Array.ext'; simpa using e0
    have hk' : Rows.uptoBulkAll ds ≤ 1048576 := of_decide_eq_true hk
    have hb0 := str_bulk Try.underlying9 hrK
    obtain ⟨ds1, hr1', hle1⟩ := tail_bulk hrK
    have hb1 := len_bulk Try.underlying22 hr1'
    have hSF := StrF.of_elems (s := 2) (g := fun x => [x.1, x.2.1]) elG (fun cs x h => by
      obtain ⟨_, _, rfl, ⟨rfl, _⟩, _, _, rfl, ⟨rfl, _⟩, rfl⟩ := h
      rfl)
    exact law_any _ _ _ _ _ _ _ _ _ _ _ W (IntsF.of_ints in1) hSF n1 hG4 l1 hG1 (by omega) (by omega) (by unfold reachBytes at t1; omega) (by unfold reachBytes at hG3; omega)

theorem over : Rows.PatternExpandsUptoSaid :=
  OpenClaim.holds_of_cond 3 Try.f3 rfl rfl rfl rfl rfl rfl rfl ⟨rfl, rfl, rfl, rfl, rfl⟩ rfl rfl rfl rfl rfl (by kernel_rfl) Try.func3 (by kernel_rfl)
    (of_decide_eq_true (by kernel_rfl)) (by unfold Func.isWrapper; first | (rw [if_pos (by decide +kernel)]; kernel_rfl) | (rw [if_neg (by decide +kernel)]; exact ⟨rfl, rfl⟩))
    (fun os started H enc _ F => by rw [OpenClaim.pre_eq_preRow]; exact lifted os started H enc F)
theorem proved : Rows.PatternExpandsUptoSaid := over
#print axioms proved
end Go.Proofs.Ytnigebnibikolab.PXS
