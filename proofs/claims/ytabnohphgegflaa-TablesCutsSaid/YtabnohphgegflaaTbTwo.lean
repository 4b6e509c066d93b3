/-
  Tables: the table of the law's example; the reference's edges.
-/
import Derived.Test.YtabnohphgegflaaTbFreeP
import Derived.Test.YtabnohphgegflaaTbCutP
namespace Go.Law.Tb
open Go.RowKit Go.Law
set_option linter.unusedVariables false
def twoC (i : Nat) : CellD := ⟨(i : Int), 0, 1, 1, 0, none, 0, fun _ => default, 0, 0, 0, 0⟩
def twoT (a : Option Addr) (c : Nat) : TabD := ⟨3, 1, 3, a, c, twoC, 0, 1, 0, 0⟩
theorem two_cell {i : Nat} (h : i < 3) : cellE 3 1 (twoC i) = 0 := by
  unfold cellE
  rw [if_neg (by unfold boxBad twoC; simp only; omega), if_neg (by unfold numBad twoC; simp only; omega), if_neg (by unfold twoC; simp only; omega)]
  exact fstE_none (fun j hj => absurd hj (by unfold twoC; simp))
theorem two_tab (a : Option Addr) (c : Nat) : tabE (twoT a c) = 0 := by
  unfold tabE
  rw [if_neg (by unfold headBad twoT; simp only; omega), if_neg (by unfold twoT; simp only; omega)]
  refine fstE_none (fun i hi => ?_)
  have hi3 : i < 3 := hi
  have hc : ∀ k, cntC (twoT a c) k = 0 := by
    intro k
    induction k with
    | zero => rfl
    | succ k ih => show cntC (twoT a c) k + 0 = 0; rw [ih]; rfl
  refine tcE_fine (two_cell hi3) ?_ ?_ (by rw [hc]; omega)
  · rintro ⟨h1, h2⟩
    unfold twoT twoC at h2
    simp only at h2
    omega
  · rintro ⟨j, hj, h⟩
    unfold hit twoT twoC at h
    simp only at h
    omega
theorem two_cut (a : Option Addr) (c : Nat) : cutL (twoT a c) 4 = [2] := by
  have hb : ∀ r, cutB (twoT a c) r = decide (r = 2) := by
    intro r
    apply bool_ext
    rw [cutB_iff, decide_eq_true_iff]
    constructor
    · rintro ⟨⟨h1, h2⟩, _⟩
      have h1' : (1 : Int) < r := h1
      have h2' : (r : Int) < 3 := h2
      omega
    · rintro rfl
      refine ⟨⟨by show (1 : Int) < 2; omega, by show (2 : Int) < 3; omega⟩, fun j hj h => ?_⟩
      unfold over twoT twoC at h
      simp only at h
      omega
  simp [cutL, hb]
theorem two_head (a : Option Addr) (c : Nat) : headE (twoT a c) = 1 := by
  unfold headE
  rw [if_neg (by unfold twoT; simp only; omega), if_neg]
  · rfl
  · rintro ⟨i, hi, h⟩
    unfold over twoT twoC at h
    simp only at h
    omega
open Classical in
/-- no cell ahead of the j-th reaches over an edge -/
noncomputable def freB (t : TabD) (j : Nat) (r : Int) : Bool := decide (∀ q, q < j → ¬ over (t.cell q) r)
open Classical in
theorem freB_iff {t : TabD} {j : Nat} {r : Int} : freB t j r = true ↔ ∀ q, q < j → ¬ over (t.cell q) r := by unfold freB; exact decide_eq_true_iff
theorem freB_zero (t : TabD) (r : Int) : true = freB t 0 r := (freB_iff.2 (fun q hq => by omega)).symm
theorem freB_no {t : TabD} {j : Nat} {r : Int} (h : freB t j r = false) : freB t (j + 1) r = false := by
  cases hb : freB t (j + 1) r
  · rfl
  · have := (freB_iff (t := t) (j := j) (r := r)).2 (fun q hq => freB_iff.1 hb q (by omega))
    rw [h] at this; cases this
theorem freB_over {t : TabD} {j : Nat} {r : Int} (h : over (t.cell j) r) : freB t (j + 1) r = false := by
  cases hb : freB t (j + 1) r
  · rfl
  · exact absurd h (freB_iff.1 hb j (by omega))
theorem freB_yes {t : TabD} {j : Nat} {r : Int} (h : freB t j r = true) (h2 : ¬ over (t.cell j) r) : freB t (j + 1) r = true :=
  freB_iff.2 fun q hq => by
    rcases Nat.lt_or_ge q j with h1 | h1
    · exact freB_iff.1 h q h1
    · rw [show q = j by omega]; exact h2
theorem cutB_free {t : TabD} {r : Nat} : cutB t r = true ↔ (t.head < (r : Int) ∧ (r : Int) < t.rows) ∧ freB t t.n r = true := by rw [cutB_iff, freB_iff]
/-- the head while the reference looks for edges -/
noncomputable def hdL (t : TabD) (r : Int) : Int := if t.head < r ∧ freB t t.n t.head = false then 0 else t.head
theorem hdL_start (t : TabD) : hdL t t.head = t.head := by unfold hdL; rw [if_neg (by omega)]
theorem hdL_zero {t : TabD} (h : freB t t.n t.head = false) : hdL t (t.head + 1) = 0 := by unfold hdL; rw [if_pos ⟨by omega, h⟩]
theorem hdL_same {t : TabD} (h : freB t t.n t.head = true) (r : Int) : hdL t r = t.head := by unfold hdL; rw [if_neg (by rw [h]; simp)]
theorem hdL_next {t : TabD} {r : Int} (h : t.head < r) : hdL t (r + 1) = hdL t r := by
  unfold hdL
  have : (t.head < r + 1 ∧ freB t t.n t.head = false) ↔ (t.head < r ∧ freB t t.n t.head = false) := by constructor <;> rintro ⟨a, b⟩ <;> exact ⟨by omega, b⟩
  simp only [this]
theorem hdL_bd {t : TabD} (h0 : 0 ≤ t.head) (r : Int) : 0 ≤ hdL t r ∧ hdL t r ≤ t.head := by unfold hdL; split <;> omega
theorem headE_low {t : TabD} (h : t.head < 1 ∨ t.rows ≤ t.head) : headE t = 0 := by unfold headE; rw [if_pos h]
theorem headE_over {t : TabD} (h : ¬ (t.head < 1 ∨ t.rows ≤ t.head)) {i : Nat} (hi : i < t.n) (ho : over (t.cell i) t.head) : headE t = 0 := by unfold headE; rw [if_neg h, if_pos ⟨i, hi, ho⟩]
theorem headE_free {t : TabD} (h : ¬ (t.head < 1 ∨ t.rows ≤ t.head)) (ho : ∀ i, i < t.n → ¬ over (t.cell i) t.head) : headE t = t.head := by unfold headE; rw [if_neg h, if_neg (fun ⟨i, hi, hx⟩ => ho i hi hx)]
/-- both ways agree on the head -/
theorem head_same {t : TabD} (h : tabE t = 0) : (if hdL t t.rows = t.rows then 0 else hdL t t.rows) = headE t := by
  obtain ⟨⟨b1, b2⟩, _, b5, b6⟩ := tab_in h
  by_cases h1 : t.rows ≤ t.head
  · rw [headE_low (.inr h1)]
    have e : hdL t t.rows = t.rows := by unfold hdL; rw [if_neg (by omega)]; omega
    rw [if_pos e]
  · by_cases hf : freB t t.n t.head = true
    · rw [hdL_same hf, if_neg (by omega)]
      by_cases h2 : t.head < 1
      · rw [headE_low (.inl h2)]; omega
      · rw [headE_free (by omega) (freB_iff.1 hf)]
    · have hf' : freB t t.n t.head = false := by simpa using hf
      have e : hdL t t.rows = 0 := by unfold hdL; rw [if_pos ⟨by omega, hf'⟩]
      rw [e, if_neg (by omega)]
      by_cases h2 : t.head < 1
      · rw [headE_low (.inl h2)]
      · have : ∃ i, i < t.n ∧ over (t.cell i) t.head := Classical.byContradiction fun hn => hf (freB_iff.2 fun q hq ho => hn ⟨q, hq, ho⟩)
        obtain ⟨i, hi, ho⟩ := this
        rw [headE_over (by omega) hi ho]
end Go.Law.Tb
