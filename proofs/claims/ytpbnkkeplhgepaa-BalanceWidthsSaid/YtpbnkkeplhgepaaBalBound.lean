/-
  The widths stay small: plain Lean.
-/
import Derived.Test.YtpbnkkeplhgepaaBalPlain
namespace Go.Law.Bal
set_option linter.unusedVariables false
theorem sumB_nonneg {f : Nat → Int} {s : Nat} (h : ∀ i, i < s → 0 ≤ f i) : 0 ≤ sumB f s := by
  induction s with
  | zero => exact Int.le_refl _
  | succ s ih =>
    have h1 := ih (fun i hi => h i (by omega))
    have h2 := h s (by omega)
    simp only [sumB]; omega
theorem le_sumB {f : Nat → Int} {s k : Nat} (h : ∀ i, i < s → 0 ≤ f i) (hk : k < s) : f k ≤ sumB f s := by
  induction s with
  | zero => omega
  | succ s ih =>
    simp only [sumB]
    by_cases hks : k = s
    · subst hks
      have := sumB_nonneg (f := f) (s := k) (fun i hi => h i (by omega))
      omega
    · have h1 := ih (fun i hi => h i (by omega)) (by omega)
      have h2 := h s (by omega)
      omega
theorem share_le {x : Int} {s : Nat} {R : Prop} [Decidable R] (hs : 0 < s) (hx : 0 < x) (hR : R → 0 < x % (s : Int)) : 0 ≤ x / (s : Int) + (if R then 1 else 0) ∧ x / (s : Int) + (if R then 1 else 0) ≤ x := by
  have h0 := Int.ediv_nonneg (show 0 ≤ x by omega) (show 0 ≤ (s : Int) by omega)
  have h1 := Int.ediv_le_self (s : Int) (show 0 ≤ x by omega)
  split
  · rename_i h
    have h2 := hR h
    have h3 := Int.mul_ediv_add_emod x (s : Int)
    have h4 : x / (s : Int) ≤ (s : Int) * (x / (s : Int)) := by
      have := Int.mul_le_mul_of_nonneg_right (show (1 : Int) ≤ (s : Int) by omega) h0
      rw [Int.one_mul] at this
      exact this
    omega
  · omega
theorem cellF_bd {f : Nat → Int} {c s m : Nat} {want : Int} (h : ∀ j, j < m → 0 ≤ f j ∧ f j ≤ 31680) (hs : 0 < s) (hc : c + s ≤ m) (hw : want ≤ 31680) : ∀ j, j < m → 0 ≤ cellF f c s want j ∧ cellF f c s want j ≤ 31680 := by
  intro j hj
  unfold cellF
  by_cases h0 : 0 < want - sumB (fun j => f (c + j)) s
  · rw [if_pos h0]
    unfold giveF
    by_cases h1 : c ≤ j ∧ j < c + s
    · rw [if_pos h1]
      have h2 := le_sumB (f := fun j => f (c + j)) (s := s) (k := j - c) (fun i hi => (h _ (by omega)).1) (by omega)
      try simp only at h2
      rw [show c + (j - c) = j by omega] at h2
      have h3 := share_le (x := want - sumB (fun j => f (c + j)) s) (s := s) (R := ((j - c : Nat) : Int) < (want - sumB (fun j => f (c + j)) s) % (s : Int)) hs h0 (fun hR => by omega)
      have h4 := h j hj
      omega
    · rw [if_neg h1]; exact h j hj
  · rw [if_neg h0]; exact h j hj
theorem spanF_bd {E : Nat → Nat → Int} {want : Nat → Int} {span m n : Nat} {f : Nat → Int} (h : ∀ j, j < m → 0 ≤ f j ∧ f j ≤ 31680) (hE : ∀ i, i < n → cellOk (m : Int) (E i)) (hw : ∀ i, i < n → want i ≤ 31680) (hs : 0 < span) :
    ∀ i, i ≤ n → ∀ j, j < m → 0 ≤ spanF E want span f i j ∧ spanF E want span f i j ≤ 31680 := by
  intro i
  induction i with
  | zero => intro _; exact h
  | succ i ih =>
    intro hi
    simp only [spanF]
    by_cases h1 : E i 1 = (span : Int)
    · rw [if_pos h1]
      obtain ⟨h2, h3, _, _⟩ := hE i (by omega)
      exact cellF_bd (ih (by omega)) hs (by omega) (hw i (by omega))
    · rw [if_neg h1]; exact ih (by omega)
theorem needF_bd {E : Nat → Nat → Int} {want : Nat → Int} {m n : Nat} (hE : ∀ i, i < n → cellOk (m : Int) (E i)) (hw : ∀ i, i < n → want i ≤ 31680) :
    ∀ t, ∀ j, j < m → 0 ≤ needF E want n t j ∧ needF E want n t j ≤ 31680 := by
  intro t
  induction t with
  | zero => intro j _; simp [needF]
  | succ t ih => exact spanF_bd ih hE hw (by omega) n (Nat.le_refl _)
end Go.Law.Bal
