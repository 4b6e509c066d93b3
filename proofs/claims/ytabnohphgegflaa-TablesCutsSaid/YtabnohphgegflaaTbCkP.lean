/-
  Tables: what Check answers, and what it marks.
-/
import Derived.Test.YtabnohphgegflaaTbPlain
namespace Go.Law.Tb
open Go.RowKit Go.Law
set_option linter.unusedVariables false
def headBad (t : TabD) : Prop := (t.rows < 1 ∨ 500 < t.rows) ∨ (t.cols < 1 ∨ 64 < t.cols) ∨ (t.width < 0 ∨ 31680 < t.width) ∨ (t.head < 0 ∨ t.rows < t.head) ∨ (t.align < 0 ∨ 2 < t.align) ∨ (t.node < 0 ∨ 1073741824 < t.node)
def ordBad (t : TabD) (i : Nat) : Prop := 0 < i ∧ ((t.cell i).row < (t.cell (i - 1)).row ∨ ((t.cell i).row = (t.cell (i - 1)).row ∧ (t.cell i).col ≤ (t.cell (i - 1)).col))
def hit (x y : CellD) : Prop := x.row < y.row + y.h ∧ y.row < x.row + x.h ∧ x.col < y.col + y.w ∧ y.col < x.col + x.w
def hitBad (t : TabD) (i : Nat) : Prop := ∃ j, j < i ∧ hit (t.cell i) (t.cell j)
/-- the items of the paragraphs ahead of the k-th -/
def cntP (c : CellD) : Nat → Int
  | 0 => 0
  | k + 1 => cntP c k + (c.par k).n
/-- the items of the cells ahead of the i-th -/
def cntC (t : TabD) : Nat → Int
  | 0 => 0
  | i + 1 => cntC t i + cntP (t.cell i) (t.cell i).np
open Classical in
noncomputable def tcE (t : TabD) (i : Nat) : Int :=
  if cellE t.rows t.cols (t.cell i) ≠ 0 then cellE t.rows t.cols (t.cell i) else if ordBad t i then 5 else if hitBad t i then 6 else if 100000 < cntC t (i + 1) then 3 else 0
open Classical in
noncomputable def tabE (t : TabD) : Int := if headBad t then 2 else if 4000 < t.n then 3 else fstE t.n (tcE t) 0
/-- a place lies in a cell -/
def inR (x : CellD) (r c : Int) : Prop := (x.row ≤ r ∧ r < x.row + x.h) ∧ (x.col ≤ c ∧ c < x.col + x.w)
def mkd (t : TabD) (i : Nat) (r c : Int) : Prop := ∃ j, j < i ∧ inR (t.cell j) r c
def ahd (r0 c0 r c : Int) : Prop := r < r0 ∨ (r = r0 ∧ c < c0)
open Classical in
/-- the flags while the i-th cell is marked, ahead of row r0 and column c0 -/
noncomputable def flg (t : TabD) (i : Nat) (r0 c0 : Int) (q : Nat) : Bool :=
  decide (mkd t i ((q : Int) / t.cols) ((q : Int) % t.cols) ∨ (inR (t.cell i) ((q : Int) / t.cols) ((q : Int) % t.cols) ∧ ahd r0 c0 ((q : Int) / t.cols) ((q : Int) % t.cols)))
open Classical in
theorem flg_iff (t : TabD) (i : Nat) (r0 c0 : Int) (q : Nat) : flg t i r0 c0 q = true ↔ (mkd t i ((q : Int) / t.cols) ((q : Int) % t.cols) ∨ (inR (t.cell i) ((q : Int) / t.cols) ((q : Int) % t.cols) ∧ ahd r0 c0 ((q : Int) / t.cols) ((q : Int) % t.cols))) := by
  unfold flg
  exact decide_eq_true_iff
theorem flat_div {r c k : Int} (hc : 0 ≤ c) (hk : c < k) : (r * k + c) / k = r ∧ (r * k + c) % k = c := by
  constructor
  · rw [Int.add_comm, Int.add_mul_ediv_right _ _ (by omega), Int.ediv_eq_zero_of_lt hc hk]; omega
  · rw [Int.add_comm, Int.add_mul_emod_self_right, Int.emod_eq_of_lt hc hk]
/-- where a cell begins, nothing of it is marked -/
theorem flg_start (t : TabD) (i : Nat) (q : Nat) : flg t i (t.cell i).row (t.cell i).col q = true ↔ mkd t i ((q : Int) / t.cols) ((q : Int) % t.cols) := by
  rw [flg_iff]
  constructor
  · rintro (h | ⟨⟨⟨h1, h2⟩, h3, h4⟩, h5⟩)
    · exact h
    · unfold ahd at h5; omega
  · exact Or.inl
theorem bool_ext {a b : Bool} (h : a = true ↔ b = true) : a = b := by
  cases a <;> cases b <;> simp_all
/-- the next row of a cell -/
theorem flg_row (t : TabD) (i : Nat) (r0 c1 : Int) (q : Nat) (h1 : (t.cell i).col + (t.cell i).w ≤ c1) : flg t i r0 c1 q = flg t i (r0 + 1) (t.cell i).col q := by
  apply bool_ext
  rw [flg_iff, flg_iff]
  have e : ∀ r c, inR (t.cell i) r c → (ahd r0 c1 r c ↔ ahd (r0 + 1) (t.cell i).col r c) := by
    rintro r c ⟨⟨a1, a2⟩, a3, a4⟩
    unfold ahd
    omega
  constructor
  · rintro (h | ⟨h, h'⟩)
    · exact Or.inl h
    · exact Or.inr ⟨h, (e _ _ h).1 h'⟩
  · rintro (h | ⟨h, h'⟩)
    · exact Or.inl h
    · exact Or.inr ⟨h, (e _ _ h).2 h'⟩
/-- a cell is marked whole -/
theorem flg_done (t : TabD) (i : Nat) (r1 : Int) (q : Nat) (h1 : (t.cell i).row + (t.cell i).h ≤ r1) : flg t i r1 (t.cell i).col q = flg t (i + 1) (t.cell (i + 1)).row (t.cell (i + 1)).col q := by
  apply bool_ext
  rw [flg_start]
  rw [flg_iff]
  constructor
  · rintro (⟨j, hj, h⟩ | ⟨h, h'⟩)
    · exact ⟨j, by omega, h⟩
    · exact ⟨i, by omega, h⟩
  · rintro ⟨j, hj, h⟩
    by_cases hji : j = i
    · subst hji
      refine Or.inr ⟨h, ?_⟩
      obtain ⟨⟨a1, a2⟩, a3, a4⟩ := h
      unfold ahd
      omega
    · exact Or.inl ⟨j, by omega, h⟩
/-- one place more is marked -/
theorem flg_put (t : TabD) (i : Nat) (r0 c0 : Int) (p : Nat) (hk : 0 < t.cols) (hin : inR (t.cell i) r0 c0) (h0 : 0 ≤ c0) (h1 : c0 < t.cols) (hp : (p : Int) = r0 * t.cols + c0) (q : Nat) : (if q = p then true else flg t i r0 c0 q) = flg t i r0 (c0 + 1) q := by
  apply bool_ext
  obtain ⟨d1, d2⟩ := flat_div (r := r0) h0 h1
  by_cases hq : q = p
  · subst hq
    rw [if_pos rfl]
    simp only [true_iff]
    rw [flg_iff, hp, d1, d2]
    exact Or.inr ⟨hin, by unfold ahd; omega⟩
  · rw [if_neg hq]
    rw [flg_iff, flg_iff]
    have hne : ¬ ((q : Int) / t.cols = r0 ∧ (q : Int) % t.cols = c0) := by
      rintro ⟨a, b⟩
      have := Int.mul_ediv_add_emod (q : Int) t.cols
      rw [a, b, Int.mul_comm] at this
      omega
    have e : ahd r0 c0 ((q : Int) / t.cols) ((q : Int) % t.cols) ↔ ahd r0 (c0 + 1) ((q : Int) / t.cols) ((q : Int) % t.cols) := by
      unfold ahd
      omega
    rw [e]
/-- a place that is marked lies in an earlier cell -/
theorem flg_hit (t : TabD) (i : Nat) (r0 c0 : Int) (p : Nat) (hin : inR (t.cell i) r0 c0) (h0 : 0 ≤ c0) (h1 : c0 < t.cols) (hp : (p : Int) = r0 * t.cols + c0) : flg t i r0 c0 p = true ↔ mkd t i r0 c0 := by
  obtain ⟨d1, d2⟩ := flat_div (r := r0) h0 h1
  rw [flg_iff, hp, d1, d2]
  constructor
  · rintro (h | ⟨h, h'⟩)
    · exact h
    · unfold ahd at h'; omega
  · exact Or.inl
theorem hit_of_mkd {t : TabD} {i : Nat} {r c : Int} (hin : inR (t.cell i) r c) (hm : mkd t i r c) : hitBad t i := by
  obtain ⟨j, hj, h⟩ := hm
  refine ⟨j, hj, ?_⟩
  obtain ⟨⟨a1, a2⟩, a3, a4⟩ := h
  obtain ⟨⟨b1, b2⟩, b3, b4⟩ := hin
  unfold hit
  omega
/-- what was passed over is in no earlier cell -/
def freeTo (t : TabD) (i : Nat) (r0 c0 : Int) : Prop := ∀ r c, inR (t.cell i) r c → ahd r0 c0 r c → ¬ mkd t i r c
theorem free_start (t : TabD) (i : Nat) : freeTo t i (t.cell i).row (t.cell i).col := by
  rintro r c ⟨⟨a1, a2⟩, a3, a4⟩ h
  unfold ahd at h
  omega
theorem free_step {t : TabD} {i : Nat} {r0 c0 : Int} (h : freeTo t i r0 c0) (hn : ¬ mkd t i r0 c0) : freeTo t i r0 (c0 + 1) := by
  intro r c hin ha
  by_cases he : r = r0 ∧ c = c0
  · rw [he.1, he.2]; exact hn
  · exact h r c hin (by unfold ahd at *; omega)
theorem free_row {t : TabD} {i : Nat} {r0 c1 : Int} (h : freeTo t i r0 c1) (h1 : (t.cell i).col + (t.cell i).w ≤ c1) : freeTo t i (r0 + 1) (t.cell i).col := by
  intro r c hin ha
  refine h r c hin ?_
  obtain ⟨⟨a1, a2⟩, a3, a4⟩ := hin
  unfold ahd at *
  omega
theorem free_done {t : TabD} {i : Nat} {r1 : Int} (h : freeTo t i r1 (t.cell i).col) (h1 : (t.cell i).row + (t.cell i).h ≤ r1) (hp : ∀ j, j ≤ i → 0 < (t.cell j).h ∧ 0 < (t.cell j).w) : ¬ hitBad t i := by
  rintro ⟨j, hj, x⟩
  have p1 := hp i (Nat.le_refl _)
  have p2 := hp j (by omega)
  unfold hit at x
  have hx : inR (t.cell i) (max (t.cell i).row (t.cell j).row) (max (t.cell i).col (t.cell j).col) := by unfold inR; omega
  refine h _ _ hx (by unfold ahd; obtain ⟨⟨a1, a2⟩, a3, a4⟩ := hx; omega) ⟨j, hj, by unfold inR; omega⟩
theorem cellE_box {rows cols : Int} {c : CellD} (h : cellE rows cols c = 0) : ¬ boxBad rows cols c := by
  intro hb
  unfold cellE at h
  rw [if_pos hb] at h
  omega
theorem cntP_bd {c : CellD} {K : Nat} (h : ∀ k, k < c.np → (c.par k).n ≤ K) : ∀ k, k ≤ c.np → 0 ≤ cntP c k ∧ cntP c k ≤ k * K
  | 0, _ => by simp [cntP]
  | k + 1, hk => by
    have := cntP_bd h k (by omega)
    have h2 := h k (by omega)
    have h3 : ((k + 1 : Nat) : Int) * (K : Int) = (k : Int) * (K : Int) + K := by rw [Int.natCast_add, Int.add_mul]; omega
    unfold cntP
    omega
end Go.Law.Tb
