/-
  The widths of the columns of tables: what the program and the reference reckon, in plain Lean.
-/
import Init
namespace Go.Law.Bal
set_option linter.unusedVariables false
/-- a cell: column, span, least and wanted width -/
def cellOk (cols : Int) (E : Nat → Int) : Prop := (0 ≤ E 0 ∧ E 0 < cols) ∧ (1 ≤ E 1 ∧ E 1 ≤ cols - E 0) ∧ (0 ≤ E 2 ∧ E 2 ≤ 31680) ∧ (0 ≤ E 3 ∧ E 3 ≤ 31680)
def cellsOk (cols : Int) (n : Nat) (E : Nat → Nat → Int) : Prop := ∀ i, i < n → cellOk cols (E i)
open Classical in
noncomputable def balE (cols : Int) (n : Nat) (E : Nat → Nat → Int) : Int :=
  if ¬ (1 ≤ cols ∧ cols ≤ 64) then 2 else if 4000 < n then 3 else if cellsOk cols n E then 0 else 2
theorem balE_cols {cols : Int} {n : Nat} {E : Nat → Nat → Int} (h : ¬ (1 ≤ cols ∧ cols ≤ 64)) : balE cols n E = 2 := by unfold balE; rw [if_pos h]
theorem balE_large {cols : Int} {n : Nat} {E : Nat → Nat → Int} (h : 1 ≤ cols ∧ cols ≤ 64) (h2 : 4000 < n) : balE cols n E = 3 := by unfold balE; rw [if_neg (by simpa using h), if_pos h2]
theorem balE_ok {cols : Int} {n : Nat} {E : Nat → Nat → Int} (h : 1 ≤ cols ∧ cols ≤ 64) (h2 : ¬ 4000 < n) (h3 : cellsOk cols n E) : balE cols n E = 0 := by unfold balE; rw [if_neg (by simpa using h), if_neg h2, if_pos h3]
theorem balE_bad {cols : Int} {n : Nat} {E : Nat → Nat → Int} (h : 1 ≤ cols ∧ cols ≤ 64) (h2 : ¬ 4000 < n) (h3 : ¬ cellsOk cols n E) : balE cols n E = 2 := by unfold balE; rw [if_neg (by simpa using h), if_neg h2, if_neg h3]
theorem balE_zero {cols : Int} {n : Nat} {E : Nat → Nat → Int} (h : balE cols n E = 0) : (1 ≤ cols ∧ cols ≤ 64) ∧ n ≤ 4000 ∧ cellsOk cols n E := by
  by_cases h1 : 1 ≤ cols ∧ cols ≤ 64
  · by_cases h2 : 4000 < n
    · rw [balE_large h1 h2] at h; omega
    · by_cases h3 : cellsOk cols n E
      · exact ⟨h1, by omega, h3⟩
      · rw [balE_bad h1 h2 h3] at h; omega
  · rw [balE_cols h1] at h; omega
/-- the sum of the first k -/
def sumB (f : Nat → Int) : Nat → Int
  | 0 => 0
  | k + 1 => sumB f k + f k
/-- what each of s columns from c on gets of a number -/
def giveF (f : Nat → Int) (c s : Nat) (x : Int) : Nat → Int := fun j => if c ≤ j ∧ j < c + s then f j + (x / (s : Int) + (if ((j - c : Nat) : Int) < x % (s : Int) then 1 else 0)) else f j
/-- a cell that lacks width -/
def cellF (f : Nat → Int) (c s : Nat) (want : Int) : Nat → Int :=
  if 0 < want - sumB (fun j => f (c + j)) s then giveF f c s (want - sumB (fun j => f (c + j)) s) else f
/-- the cells of a span, the first i of them -/
def spanF (E : Nat → Nat → Int) (want : Nat → Int) (span : Nat) (f : Nat → Int) : Nat → (Nat → Int)
  | 0 => f
  | i + 1 => if E i 1 = (span : Int) then cellF (spanF E want span f i) (E i 0).toNat span (want i) else spanF E want span f i
/-- all cells: the spans from 1 to t -/
def needF (E : Nat → Nat → Int) (want : Nat → Int) (n : Nat) : Nat → (Nat → Int)
  | 0 => fun _ => 0
  | t + 1 => spanF E want (t + 1) (needF E want n t) n
end Go.Law.Bal
