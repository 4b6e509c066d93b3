/-
  Tables: where they can be divided.
-/
import Derived.Test.YtabnohphgegflaaTbCheck2
import Derived.Test.YtabnohphgegflaaBlk
namespace Go.Law.Tb
open Go.RowKit Go.Law
set_option linter.unusedVariables false
theorem tabE_zero {t : TabD} (h : tabE t = 0) : ¬ headBad t ∧ t.n ≤ 4000 ∧ ∀ i, i < t.n → tcE t i = 0 := by
  unfold tabE at h
  by_cases h1 : headBad t
  · rw [if_pos h1] at h; omega
  · rw [if_neg h1] at h
    by_cases h2 : 4000 < t.n
    · rw [if_pos h2] at h; omega
    · rw [if_neg h2] at h
      exact ⟨h1, by omega, (fstE_zero h).1⟩
theorem tab_in {t : TabD} (h : tabE t = 0) : (1 ≤ t.rows ∧ t.rows ≤ 500) ∧ (1 ≤ t.cols ∧ t.cols ≤ 64) ∧ (0 ≤ t.head ∧ t.head ≤ t.rows) := by
  have := (tabE_zero h).1
  unfold headBad at this
  omega
theorem tab_cell {t : TabD} (h : tabE t = 0) {i : Nat} (hi : i < t.n) : (0 ≤ (t.cell i).row ∧ 1 ≤ (t.cell i).h ∧ (t.cell i).row + (t.cell i).h ≤ t.rows) ∧ (0 ≤ (t.cell i).col ∧ 1 ≤ (t.cell i).w ∧ (t.cell i).col + (t.cell i).w ≤ t.cols) :=
  cellE_in (tcE_zero ((tabE_zero h).2.2 i hi)).1
/-- a cell reaches over an edge -/
def over (c : CellD) (r : Int) : Prop := c.row < r ∧ r < c.row + c.h
/-- while the flags of edges are set -/
noncomputable def fre0 (t : TabD) (k : Int) (r : Nat) : Bool := decide (t.head < (r : Int) ∧ (r : Int) < k)
open Classical in
noncomputable def fre (t : TabD) (i : Nat) (c : Int) (r : Nat) : Bool := decide ((t.head < (r : Int) ∧ (r : Int) < t.rows) ∧ (∀ j, j < i → ¬ over (t.cell j) r) ∧ ¬ ((t.cell i).row < (r : Int) ∧ (r : Int) < c))
open Classical in
theorem fre_iff {t : TabD} {i : Nat} {c : Int} {r : Nat} : fre t i c r = true ↔ (t.head < (r : Int) ∧ (r : Int) < t.rows) ∧ (∀ j, j < i → ¬ over (t.cell j) r) ∧ ¬ ((t.cell i).row < (r : Int) ∧ (r : Int) < c) := by
  unfold fre; exact decide_eq_true_iff
open Classical in
theorem fre0_iff {t : TabD} {k : Int} {r : Nat} : fre0 t k r = true ↔ t.head < (r : Int) ∧ (r : Int) < k := by
  unfold fre0; exact decide_eq_true_iff
theorem fre0_start (t : TabD) (r : Nat) : false = fre0 t (t.head + 1) r := by
  apply bool_ext
  rw [fre0_iff]
  constructor
  · intro h; cases h
  · intro h; omega
theorem fre0_put (t : TabD) (k : Int) (p : Nat) (hp : (p : Int) = k) (hk : t.head < k) (r : Nat) : (if r = p then true else fre0 t k r) = fre0 t (k + 1) r := by
  apply bool_ext
  by_cases h : r = p
  · rw [if_pos h]
    simp only [true_iff]
    rw [fre0_iff]
    omega
  · rw [if_neg h, fre0_iff, fre0_iff]
    omega
theorem fre0_end (t : TabD) (k : Int) (hk : t.rows ≤ k) (h1 : k ≤ t.rows ∨ k = t.head + 1) (hh : t.head ≤ t.rows) (r : Nat) : fre0 t k r = fre t 0 ((t.cell 0).row + 1) r := by
  apply bool_ext
  rw [fre0_iff, fre_iff]
  constructor
  · intro h
    exact ⟨by omega, fun j hj => by omega, by omega⟩
  · intro h; omega
theorem fre_put (t : TabD) (i : Nat) (c : Int) (p : Nat) (hp : (p : Int) = c) (hc : (t.cell i).row < c) (r : Nat) : (if r = p then false else fre t i c r) = fre t i (c + 1) r := by
  apply bool_ext
  by_cases h : r = p
  · rw [if_pos h, fre_iff]
    constructor
    · intro h; cases h
    · intro h; omega
  · rw [if_neg h, fre_iff, fre_iff]
    constructor
    · rintro ⟨a, b, d⟩; exact ⟨a, b, by omega⟩
    · rintro ⟨a, b, d⟩; exact ⟨a, b, by omega⟩
theorem fre_next (t : TabD) (i : Nat) (c : Int) (hc : c = (t.cell i).row + (t.cell i).h) (r : Nat) : fre t i c r = fre t (i + 1) ((t.cell (i + 1)).row + 1) r := by
  apply bool_ext
  rw [fre_iff, fre_iff]
  constructor
  · rintro ⟨a, b, d⟩
    refine ⟨a, fun j hj => ?_, by omega⟩
    rcases Nat.lt_or_ge j i with h | h
    · exact b j h
    · rw [show j = i by omega]; unfold over; omega
  · rintro ⟨a, b, d⟩
    refine ⟨a, fun j hj => b j (by omega), ?_⟩
    have := b i (by omega)
    unfold over at this
    omega
/-- an edge at which a table can be divided -/
noncomputable def cutB (t : TabD) (r : Nat) : Bool := fre t t.n ((t.cell t.n).row + 1) r
theorem cutB_iff {t : TabD} {r : Nat} : cutB t r = true ↔ (t.head < (r : Int) ∧ (r : Int) < t.rows) ∧ ∀ j, j < t.n → ¬ over (t.cell j) r := by
  unfold cutB
  rw [fre_iff]
  constructor
  · rintro ⟨a, b, _⟩; exact ⟨a, b⟩
  · rintro ⟨a, b⟩; exact ⟨a, b, by omega⟩
noncomputable def cutL (t : TabD) : Nat → List Int
  | 0 => []
  | r + 1 => if cutB t r then cutL t r ++ [(r : Int)] else cutL t r
theorem cutL_yes {t : TabD} {r : Nat} (h : cutB t r = true) : cutL t (r + 1) = cutL t r ++ [(r : Int)] := by rw [cutL, if_pos h]
theorem cutL_no {t : TabD} {r : Nat} (h : cutB t r = false) : cutL t (r + 1) = cutL t r := by rw [cutL, if_neg (by rw [h]; simp)]
theorem cutL_len (t : TabD) : ∀ r, (cutL t r).length ≤ r
  | 0 => Nat.le_refl _
  | r + 1 => by
    have := cutL_len t r
    rw [cutL]
    split <;> simp <;> omega
theorem cutL_low {t : TabD} : ∀ r : Nat, (r : Int) ≤ t.head + 1 → cutL t r = []
  | 0, _ => rfl
  | r + 1, h => by
    have hf : cutB t r = false := by
      cases hb : cutB t r
      · rfl
      · have := (cutB_iff.1 hb).1; omega
    rw [cutL_no hf]
    exact cutL_low r (by omega)
open Classical in
/-- how many rows are repeated -/
noncomputable def headE (t : TabD) : Int := if t.head < 1 ∨ t.rows ≤ t.head then 0 else if ∃ i, i < t.n ∧ over (t.cell i) t.head then 0 else t.head
/-- the flags of edges -/
structure FrS (TT EB : TypeId) (w : World) (tb : Array Value) (g nr : Nat) (u : Nat → Bool) (wx : World) : Prop where
  below : Below w.heap.size w wx
  tab : Blk wx w.heap.size tb TT
  own : OwnB wx EB g nr u
  apart : w.heap.size < g
section
variable {TT EB : TypeId} {w : World} {tb : Array Value} {g nr : Nat} {u u' : Nat → Bool} {wx wy : World}
theorem FrS.congr (h : FrS TT EB w tb g nr u wx) (he : ∀ i, i < nr → u i = u' i) : FrS TT EB w tb g nr u' wx :=
  ⟨h.below, h.tab, h.own.congr he, h.apart⟩
theorem FrS.put (h : FrS TT EB w tb g nr u wx) (p : Nat) (x : Bool) : FrS TT EB w tb g nr (fun q => if q = p then x else u q) (wx.setCell ⟨g, p, none⟩ (.bool x)) :=
  ⟨h.below.setCell (by have := h.apart; simp; omega) _, h.tab.other (by have := h.apart; simp; omega) _, h.own.set p x, h.apart⟩
theorem FrS.under (h : FrS TT EB w tb g nr u wx) (hb : Below wx.heap.size wx wy) : FrS TT EB w tb g nr u wy :=
  ⟨h.below.trans (hb.mono h.below.size), h.tab.below hb h.tab.lt, h.own.block (hb.block _ h.own.lt), h.apart⟩
theorem FrS.grown {base e s n : Nat} {v : Value} {xs : List Value} (h : FrS TT EB w tb g nr u wx) (hr : RowL wx base e s v n xs) (hb : g < base) (hg : wx.grownBy wy v.ownBlock) : FrS TT EB w tb g nr u wy := by
  have hv : ∀ k, v.ownBlock = some k → base ≤ k := RowL.ge hr
  have hap := h.apart
  exact ⟨Below.grown h.below hg h.below.size (fun k hk => by have := hv k hk; omega), h.tab.block (hg.block _ h.tab.lt (fun e => by have := hv _ e.symm; omega)), h.own.block (hg.block _ h.own.lt (fun e => by have := hv _ e.symm; omega)), h.apart⟩
end
end Go.Law.Tb
