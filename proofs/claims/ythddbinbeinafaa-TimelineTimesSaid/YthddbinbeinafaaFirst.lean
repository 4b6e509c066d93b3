/-
  The first number that is not 0.
-/
import Derived.Test.YthddbinbeinafaaCellsF
namespace Go.Law
def firstE (f : Nat → Int) : Nat → Int
  | 0 => 0
  | n + 1 => if firstE f n ≠ 0 then firstE f n else f n
theorem firstE_none {f : Nat → Int} {n : Nat} (h : ∀ i, i < n → f i = 0) : firstE f n = 0 := by
  induction n with
  | zero => rfl
  | succ n ih => simp only [firstE]; rw [ih (fun i hi => h i (by omega)), if_neg (by simp), h n (by omega)]
theorem firstE_at {f : Nat → Int} {n k : Nat} (hk : k < n) (h : ∀ i, i < k → f i = 0) (hg : f k ≠ 0) : firstE f n = f k := by
  induction n with
  | zero => omega
  | succ n ih =>
    simp only [firstE]
    by_cases hkn : k = n
    · subst hkn; rw [firstE_none h, if_neg (by simp)]
    · rw [ih (by omega), if_pos hg]
theorem firstE_zero {f : Nat → Int} {n : Nat} (h : firstE f n = 0) : ∀ i, i < n → f i = 0 := by
  intro i hi
  induction n with
  | zero => omega
  | succ n ih =>
    simp only [firstE] at h
    by_cases h1 : firstE f n = 0
    · rw [if_neg (by simpa using h1)] at h
      by_cases hin : i = n
      · rw [hin]; exact h
      · exact ih h1 (by omega)
    · rw [if_pos h1] at h; exact absurd h h1
end Go.Law
