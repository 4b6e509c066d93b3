/-
  clock.Left: what the program and the reference reckon, in plain Lean.
-/
import Derived.Test.YtpbnkkeplhgepaaClPlain
namespace Go.Law.Cl
set_option linter.unusedVariables false
/-- the sum of the first k times of a plan -/
def sumP (p : Nat → Int) : Nat → Int
  | 0 => 0
  | k + 1 => sumP p k + p k
/-- the sum of those whose place is less than x -/
def dueP (p : Nat → Int) (x : Int) : Nat → Int
  | 0 => 0
  | k + 1 => if (k : Int) < x then dueP p x k + p k else dueP p x k
def okP (m : Nat) (p : Nat → Int) : Prop := ∀ i, i < m → 0 ≤ p i ∧ p i ≤ 10000000
theorem sumP_bd {p : Nat → Int} {k : Nat} (h : ∀ i, i < k → 0 ≤ p i ∧ p i ≤ 10000000) : 0 ≤ sumP p k ∧ sumP p k ≤ 10000000 * (k : Int) := by
  induction k with
  | zero => simp [sumP]
  | succ k ih =>
    have h1 := ih (fun i hi => h i (by omega))
    have h2 := h k (by omega)
    simp only [sumP]
    omega
theorem dueP_bd {p : Nat → Int} {x : Int} {k : Nat} (h : ∀ i, i < k → 0 ≤ p i ∧ p i ≤ 10000000) : 0 ≤ dueP p x k ∧ dueP p x k ≤ 10000000 * (k : Int) := by
  induction k with
  | zero => simp [dueP]
  | succ k ih =>
    have h1 := ih (fun i hi => h i (by omega))
    have h2 := h k (by omega)
    simp only [dueP]
    split <;> omega
theorem dueP_step {p : Nat → Int} {x : Int} {k : Nat} (h : (k : Int) < x) : dueP p x (k + 1) = dueP p x k + p k := by simp only [dueP]; rw [if_pos h]
theorem dueP_stay {p : Nat → Int} {x : Int} {k : Nat} (h : ¬ (k : Int) < x) : dueP p x (k + 1) = dueP p x k := by simp only [dueP]; rw [if_neg h]
theorem dueP_none {p : Nat → Int} {x : Int} (h : x ≤ 0) (k : Nat) : dueP p x k = 0 := by
  induction k with
  | zero => rfl
  | succ k ih => rw [dueP_stay (by omega), ih]
/-- with the slide that is shown -/
theorem dueP_next {p : Nat → Int} {q : Nat} : ∀ k, q < k → dueP p ((q : Int) + 1) k = dueP p (q : Int) k + p q := by
  intro k
  induction k with
  | zero => intro h; omega
  | succ k ih =>
    intro h
    by_cases hk : q = k
    · subst hk
      rw [dueP_step (by omega), dueP_stay (by omega)]
      congr 1
      have : ∀ j, j ≤ q → dueP p ((q : Int) + 1) j = dueP p (q : Int) j := by
        intro j
        induction j with
        | zero => intro _; rfl
        | succ j ihj => intro hj; rw [dueP_step (by omega), dueP_step (by omega), ihj (by omega)]
      exact this q (Nat.le_refl _)
    · rw [dueP_stay (by omega), dueP_stay (by omega)]
      exact ih (by omega)
theorem dueP_far {p : Nat → Int} {x : Int} {m : Nat} (h : (m : Int) < x) : dueP p x m = dueP p (x - 1) m := by
  have : ∀ j, j ≤ m → dueP p x j = dueP p (x - 1) j := by
    intro j
    induction j with
    | zero => intro _; rfl
    | succ j ihj => intro hj; rw [dueP_step (by omega), dueP_step (by omega), ihj (by omega)]
  exact this m (Nat.le_refl _)
theorem fin_good {n : Nat} {E : Nat → Nat → Int} {T : Int} (he : clE n E = 0) (hT : 0 ≤ T) : Good (finS n E T) T n := by
  obtain ⟨hn, hev⟩ := clE_zero he
  obtain ⟨h1, h2⟩ := Good.pr hT (fun i hi => by obtain ⟨_, q1, _, q2, q3⟩ := hev i hi; exact ⟨q1.1, q2.1, q3⟩) n (Nat.le_refl _)
  have hg := h1.pass (d := T - min (lastA E n) T) (by omega)
  rw [show min (lastA E n) T + (T - min (lastA E n) T) = T by omega] at hg
  exact hg
theorem Good.sl_nonneg {s : St} {c : Int} {k : Nat} (h : Good s c k) : 0 ≤ s.sl := by
  rcases h.cur with h0 | ⟨i, hi, he⟩
  · omega
  · have := h.pos i hi; omega
end Go.Law.Cl
