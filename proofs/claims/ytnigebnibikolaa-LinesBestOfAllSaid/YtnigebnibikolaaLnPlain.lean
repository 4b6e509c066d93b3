/-
  Parts of paragraphs, and what is checked of them.
-/
import Derived.Test.YtnigebnibikolaaCellsF
namespace Go.Law.Ln
open Go.Law
structure Part where
  kind : Int
  width : Int
  stretch : Int
  shrink : Int
  cost : Int
  flag : Bool
def Part.V (p : Part) (j : Nat) : Value := match j with
  | 0 => .int .i64 p.kind
  | 1 => .int .i64 p.width
  | 2 => .int .i64 p.stretch
  | 3 => .int .i64 p.shrink
  | 4 => .int .i64 p.cost
  | _ => .bool p.flag
/-- the first error of one part -/
def partE (p : Part) : Int :=
  if ¬ (0 ≤ p.kind ∧ p.kind ≤ 2) then 8
  else if (p.kind ≠ 1 ∧ (p.stretch ≠ 0 ∨ p.shrink ≠ 0)) ∨ (p.kind ≠ 2 ∧ (p.cost ≠ 0 ∨ p.flag = true)) then 4
  else if ¬ ((0 ≤ p.width ∧ p.width ≤ 100000) ∧ (0 ≤ p.stretch ∧ p.stretch ≤ 100000) ∧ (0 ≤ p.shrink ∧ p.shrink ≤ p.width) ∧ (-10000 ≤ p.cost ∧ p.cost ≤ 10000)) then 2 else 0
structure Part.Ok (p : Part) : Prop where
  kind : 0 ≤ p.kind ∧ p.kind ≤ 2
  form : (p.kind ≠ 1 → p.stretch = 0 ∧ p.shrink = 0) ∧ (p.kind ≠ 2 → p.cost = 0 ∧ p.flag = false)
  width : 0 ≤ p.width ∧ p.width ≤ 100000
  stretch : 0 ≤ p.stretch ∧ p.stretch ≤ 100000
  shrink : 0 ≤ p.shrink ∧ p.shrink ≤ p.width
  cost : -10000 ≤ p.cost ∧ p.cost ≤ 10000
theorem partE_ok {p : Part} (h : partE p = 0) : p.Ok := by
  unfold partE at h
  split at h
  · omega
  · rename_i h1
    split at h
    · omega
    · rename_i h2
      split at h
      · omega
      · rename_i h3
        have h3 := Decidable.not_not.1 h3
        refine ⟨Decidable.not_not.1 h1, ⟨fun hk => ?_, fun hk => ?_⟩, h3.1, h3.2.1, h3.2.2.1, h3.2.2.2⟩
        · exact ⟨Classical.byContradiction fun h => h2 (.inl ⟨hk, .inl h⟩), Classical.byContradiction fun h => h2 (.inl ⟨hk, .inr h⟩)⟩
        · refine ⟨Classical.byContradiction fun h => h2 (.inr ⟨hk, .inl h⟩), ?_⟩
          cases hf : p.flag
          · rfl
          · exact absurd (.inr ⟨hk, .inr hf⟩) h2
/-- the first error of the first n -/
def firstP (L : Nat → Part) : Nat → Int
  | 0 => 0
  | n + 1 => if firstP L n ≠ 0 then firstP L n else partE (L n)
theorem firstP_none {L : Nat → Part} {n : Nat} (h : ∀ i, i < n → partE (L i) = 0) : firstP L n = 0 := by
  induction n with
  | zero => rfl
  | succ n ih => simp only [firstP]; rw [ih (fun i hi => h i (by omega)), if_neg (by simp), h n (by omega)]
theorem firstP_at {L : Nat → Part} {n k : Nat} (hk : k < n) (h : ∀ i, i < k → partE (L i) = 0) (hg : partE (L k) ≠ 0) : firstP L n = partE (L k) := by
  induction n with
  | zero => omega
  | succ n ih =>
    simp only [firstP]
    by_cases hkn : k = n
    · subst hkn; rw [firstP_none h, if_neg (by simp)]
    · rw [ih (by omega), if_pos hg]
theorem firstP_zero {L : Nat → Part} {n : Nat} (h : firstP L n = 0) : ∀ i, i < n → partE (L i) = 0 := by
  intro i hi
  induction n with
  | zero => omega
  | succ n ih =>
    simp only [firstP] at h
    by_cases h1 : firstP L n = 0
    · rw [if_neg (by simpa using h1)] at h
      by_cases hin : i = n
      · rw [hin]; exact h
      · exact ih h1 (by omega)
    · rw [if_pos h1] at h; exact absurd h h1
def partsE (n : Nat) (L : Nat → Part) : Int := if 8000 < n then 3 else firstP L n
theorem partsE_large {n : Nat} {L : Nat → Part} (h : 8000 < n) : partsE n L = 3 := by unfold partsE; rw [if_pos h]
theorem partsE_small {n : Nat} {L : Nat → Part} (h : ¬ 8000 < n) : partsE n L = firstP L n := by unfold partsE; rw [if_neg h]
theorem partsE_zero {n : Nat} {L : Nat → Part} (h : partsE n L = 0) : n ≤ 8000 ∧ ∀ i, i < n → (L i).Ok := by
  by_cases h1 : 8000 < n
  · rw [partsE_large h1] at h; omega
  · rw [partsE_small h1] at h
    exact ⟨by omega, fun i hi => partE_ok (firstP_zero h i hi)⟩
end Go.Law.Ln
