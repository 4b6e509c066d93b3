/-
  The first error of shapes.
-/
import Derived.Test.YtabnohphgegflaaDoorShFind
namespace Go.Law.Sh
open Go.RowKit
/-- the error of a chain of groups: f levels are left -/
def parE (i : Nat) (E : Nat → Nat → Int) : Nat → Int → Int
  | 0, g => if g = 0 then 0 else 22
  | f + 1, g => if g = 0 then 0 else if findV i E g < 0 then 7 else if E (findV i E g).toNat 2 ≠ 5 then 8 else parE i E f (E (findV i E g).toNat 1)
theorem parE_zero (i : Nat) (E : Nat → Nat → Int) (f : Nat) : parE i E f 0 = 0 := by cases f <;> rfl
theorem parE_deep {i : Nat} {E : Nat → Nat → Int} {g : Int} (h : g ≠ 0) : parE i E 0 g = 22 := by unfold parE; rw [if_neg h]
theorem parE_none {i f : Nat} {E : Nat → Nat → Int} {g : Int} (h : g ≠ 0) (h2 : findV i E g < 0) : parE i E (f + 1) g = 7 := by unfold parE; rw [if_neg h, if_pos h2]
theorem parE_kind {i f k : Nat} {E : Nat → Nat → Int} {g : Int} (h : g ≠ 0) (h2 : findV i E g = k) (h3 : E k 2 ≠ 5) : parE i E (f + 1) g = 8 := by
  unfold parE; rw [if_neg h, h2, if_neg (by omega), if_pos (by simpa using h3)]
theorem parE_up {i f k : Nat} {E : Nat → Nat → Int} {g : Int} (h : g ≠ 0) (h2 : findV i E g = k) (h3 : E k 2 = 5) : parE i E (f + 1) g = parE i E f (E k 1) := by
  rw [parE, if_neg h, h2, if_neg (by omega), if_neg (by simpa using h3)]; rfl
def kindS (x : Nat → Int) : Prop := 0 ≤ x 2 ∧ x 2 ≤ 7
def numS (x : Nat → Int) : Prop := (1 ≤ x 0 ∧ x 0 ≤ 1073741824) ∧ (0 ≤ x 1 ∧ x 1 ≤ 1073741824) ∧ (0 ≤ x 8 ∧ x 8 ≤ 1073741824) ∧ (0 ≤ x 9 ∧ x 9 ≤ 1073741824)
def boxS (x : Nat → Int) : Prop := (-1048576 ≤ x 3 ∧ x 3 ≤ 1048576) ∧ (-1048576 ≤ x 4 ∧ x 4 ≤ 1048576) ∧ (0 ≤ x 5 ∧ x 5 ≤ 1048576) ∧ (0 ≤ x 6 ∧ x 6 ≤ 1048576) ∧ (0 ≤ x 7 ∧ x 7 ≤ 3599)
def endS (x : Nat → Int) : Prop := x 2 = 6 ∨ (x 8 = 0 ∧ x 9 = 0)
instance (x : Nat → Int) : Decidable (kindS x) := by unfold kindS; infer_instance
instance (x : Nat → Int) : Decidable (numS x) := by unfold numS; infer_instance
instance (x : Nat → Int) : Decidable (boxS x) := by unfold boxS; infer_instance
instance (x : Nat → Int) : Decidable (endS x) := by unfold endS; infer_instance
/-- the error of a shape behind those before it -/
def errAt (E : Nat → Nat → Int) (i : Nat) : Int :=
  if ¬ kindS (E i) then 8 else if ¬ numS (E i) then 2 else if ¬ boxS (E i) then 2 else if ¬ endS (E i) then 4 else if 0 ≤ findV i E (E i 0) then 6 else parE i E 19 (E i 1)
def shE (n : Nat) (E : Nat → Nat → Int) : Int :=
  if 1000 < n then 3 else match (List.range n).find? (fun i => decide (errAt E i ≠ 0)) with
  | some k => errAt E k
  | none => 0
theorem shE_large {n : Nat} {E : Nat → Nat → Int} (h : 1000 < n) : shE n E = 3 := by unfold shE; rw [if_pos h]
theorem shE_some {n k : Nat} {E : Nat → Nat → Int} (h : n ≤ 1000) (hk : k < n) (hn : ∀ j, j < k → errAt E j = 0) (hx : errAt E k ≠ 0) : shE n E = errAt E k := by
  have : (List.range n).find? (fun i => decide (errAt E i ≠ 0)) = some k := by
    rw [List.find?_eq_some_iff_getElem]
    refine ⟨by simpa using hx, k, by simpa using hk, by simp, fun j hj => by simp [hn j hj]⟩
  unfold shE
  rw [if_neg (by omega), this]
theorem shE_none {n : Nat} {E : Nat → Nat → Int} (h : n ≤ 1000) (hn : ∀ j, j < n → errAt E j = 0) : shE n E = 0 := by
  have : (List.range n).find? (fun i => decide (errAt E i ≠ 0)) = none := by
    rw [List.find?_eq_none]
    intro i hi
    simp [hn i (by simpa using hi)]
  unfold shE
  rw [if_neg (by omega), this]
theorem shE_zero {n : Nat} {E : Nat → Nat → Int} (h : shE n E = 0) : n ≤ 1000 ∧ ∀ j, j < n → errAt E j = 0 := by
  rcases Nat.lt_or_ge 1000 n with h1 | h1
  · rw [shE_large h1] at h; omega
  · refine ⟨h1, ?_⟩
    intro j
    induction j using Nat.strongRecOn with
    | _ j ih =>
      intro hj
      by_cases he : errAt E j = 0
      · exact he
      · rw [shE_some h1 hj (fun i hi => ih i hi (by omega)) he] at h
        exact h
theorem err_kind {E : Nat → Nat → Int} {i : Nat} (h : ¬ kindS (E i)) : errAt E i = 8 := by unfold errAt; rw [if_pos h]
theorem err_num {E : Nat → Nat → Int} {i : Nat} (h1 : kindS (E i)) (h : ¬ numS (E i)) : errAt E i = 2 := by unfold errAt; rw [if_neg (by simpa using h1), if_pos h]
theorem err_box {E : Nat → Nat → Int} {i : Nat} (h1 : kindS (E i)) (h2 : numS (E i)) (h : ¬ boxS (E i)) : errAt E i = 2 := by unfold errAt; rw [if_neg (by simpa using h1), if_neg (by simpa using h2), if_pos h]
theorem err_end {E : Nat → Nat → Int} {i : Nat} (h1 : kindS (E i)) (h2 : numS (E i)) (h3 : boxS (E i)) (h : ¬ endS (E i)) : errAt E i = 4 := by
  unfold errAt; rw [if_neg (by simpa using h1), if_neg (by simpa using h2), if_neg (by simpa using h3), if_pos h]
theorem err_twice {E : Nat → Nat → Int} {i : Nat} (h1 : kindS (E i)) (h2 : numS (E i)) (h3 : boxS (E i)) (h4 : endS (E i)) (h : 0 ≤ findV i E (E i 0)) : errAt E i = 6 := by
  unfold errAt; rw [if_neg (by simpa using h1), if_neg (by simpa using h2), if_neg (by simpa using h3), if_neg (by simpa using h4), if_pos h]
theorem err_par {E : Nat → Nat → Int} {i : Nat} (h1 : kindS (E i)) (h2 : numS (E i)) (h3 : boxS (E i)) (h4 : endS (E i)) (h : findV i E (E i 0) < 0) : errAt E i = parE i E 19 (E i 1) := by
  unfold errAt; rw [if_neg (by simpa using h1), if_neg (by simpa using h2), if_neg (by simpa using h3), if_neg (by simpa using h4), if_neg (by omega)]
end Go.Law.Sh
