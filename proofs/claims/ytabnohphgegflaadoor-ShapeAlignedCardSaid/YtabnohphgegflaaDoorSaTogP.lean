/-
  Items that are moved together: the error, and what holds where there is none.
-/
import Derived.Test.YtabnohphgegflaaDoorSaPlain
import Derived.Test.YtabnohphgegflaaDoorShFind
namespace Go.Law.Sh
open Go.RowKit
set_option linter.unusedVariables false
def pos (n : Nat) (E : Nat → Nat → Int) (It : Nat → Int) (i : Nat) : Nat := (findV n E (It i)).toNat
def badAt (n : Nat) (E : Nat → Nat → Int) (It : Nat → Int) (i : Nat) : Int :=
  if findV n E (It i) < 0 then 7 else if (List.range i).any (fun m => decide (It m = It i)) then 6 else if E (pos n E It i) 1 ≠ E (pos n E It 0) 1 then 14 else 0
def togE (n : Nat) (E : Nat → Nat → Int) (It : Nat → Int) (c : Nat) (least : Int) : Int :=
  if shE n E ≠ 0 then shE n E else if (c : Int) < least then 7 else match (List.range c).find? (fun i => decide (badAt n E It i ≠ 0)) with
  | some k => badAt n E It k
  | none => 0
section
variable {n c : Nat} {E : Nat → Nat → Int} {It : Nat → Int} {least : Int}
theorem togE_shapes (h : shE n E ≠ 0) : togE n E It c least = shE n E := by unfold togE; rw [if_pos h]
theorem togE_few (h : shE n E = 0) (h2 : (c : Int) < least) : togE n E It c least = 7 := by unfold togE; rw [if_neg (by simpa using h), if_pos h2]
theorem togE_some {k : Nat} (h : shE n E = 0) (h2 : ¬ (c : Int) < least) (hk : k < c) (hn : ∀ j, j < k → badAt n E It j = 0) (hx : badAt n E It k ≠ 0) : togE n E It c least = badAt n E It k := by
  have : (List.range c).find? (fun i => decide (badAt n E It i ≠ 0)) = some k := by
    rw [List.find?_eq_some_iff_getElem]
    refine ⟨by simpa using hx, k, by simpa using hk, by simp, fun j hj => by simp [hn j hj]⟩
  unfold togE
  rw [if_neg (by simpa using h), if_neg h2, this]
theorem togE_none (h : shE n E = 0) (h2 : ¬ (c : Int) < least) (hn : ∀ j, j < c → badAt n E It j = 0) : togE n E It c least = 0 := by
  have : (List.range c).find? (fun i => decide (badAt n E It i ≠ 0)) = none := by
    rw [List.find?_eq_none]
    intro i hi
    simp [hn i (by simpa using hi)]
  unfold togE
  rw [if_neg (by simpa using h), if_neg h2, this]
theorem togE_zero (h : togE n E It c least = 0) : shE n E = 0 ∧ ¬ (c : Int) < least ∧ ∀ j, j < c → badAt n E It j = 0 := by
  by_cases h0 : shE n E = 0
  · by_cases h2 : (c : Int) < least
    · rw [togE_few h0 h2] at h; omega
    · refine ⟨h0, h2, ?_⟩
      cases hf : (List.range c).find? (fun i => decide (badAt n E It i ≠ 0)) with
      | none =>
        rw [List.find?_eq_none] at hf
        intro j hj
        have := hf j (by simpa using hj)
        simpa using this
      | some k =>
        have hx := List.find?_some hf
        unfold togE at h
        rw [if_neg (by simpa using h0), if_neg h2, hf] at h
        simp at hx
        exact absurd h hx
  · rw [togE_shapes h0] at h; exact absurd h h0
theorem bad_none {i : Nat} (h : findV n E (It i) < 0) : badAt n E It i = 7 := by unfold badAt; rw [if_pos h]
theorem bad_twice {i : Nat} (h : ¬ findV n E (It i) < 0) (h2 : (List.range i).any (fun m => decide (It m = It i)) = true) : badAt n E It i = 6 := by
  unfold badAt; rw [if_neg h, if_pos h2]
theorem bad_fit {i : Nat} (h : ¬ findV n E (It i) < 0) (h2 : (List.range i).any (fun m => decide (It m = It i)) = false) (h3 : E (pos n E It i) 1 ≠ E (pos n E It 0) 1) : badAt n E It i = 14 := by
  unfold badAt; rw [if_neg h, if_neg (by simp [h2]), if_pos h3]
theorem bad_ok {i : Nat} (h : ¬ findV n E (It i) < 0) (h2 : (List.range i).any (fun m => decide (It m = It i)) = false) (h3 : E (pos n E It i) 1 = E (pos n E It 0) 1) : badAt n E It i = 0 := by
  unfold badAt; rw [if_neg h, if_neg (by simp [h2]), if_neg (by simpa using h3)]
theorem ok_bad {i : Nat} (h : badAt n E It i = 0) : ¬ findV n E (It i) < 0 ∧ (List.range i).any (fun m => decide (It m = It i)) = false ∧ E (pos n E It i) 1 = E (pos n E It 0) 1 := by
  by_cases h1 : findV n E (It i) < 0
  · rw [bad_none h1] at h; omega
  · cases h2 : (List.range i).any (fun m => decide (It m = It i)) with
    | true => rw [bad_twice h1 h2] at h; omega
    | false =>
      refine ⟨h1, rfl, ?_⟩
      by_cases h3 : E (pos n E It i) 1 = E (pos n E It 0) 1
      · exact h3
      · rw [bad_fit h1 h2 h3] at h; omega
theorem pos_find {i : Nat} (h : ¬ findV n E (It i) < 0) : findV n E (It i) = pos n E It i ∧ pos n E It i < n ∧ E (pos n E It i) 0 = It i := by
  unfold pos
  rcases findV_cases n E (It i) with ⟨h1, _⟩ | ⟨k, hk, h1, h2, _⟩
  · omega
  · rw [h1]; exact ⟨by omega, by omega, by simpa using h2⟩
/-- items without an error up to i: found, and at different places -/
theorem pos_ne {i j : Nat} (hall : ∀ j, j < c → badAt n E It j = 0) (hi : i < c) (hj : j < i) : pos n E It j ≠ pos n E It i := by
  intro he
  obtain ⟨h1, h2, _⟩ := ok_bad (hall i hi)
  obtain ⟨g1, _, _⟩ := ok_bad (hall j (by omega))
  have e1 := (pos_find h1).2.2
  have e2 := (pos_find g1).2.2
  rw [he, e1] at e2
  rw [List.any_eq_false] at h2
  exact h2 j (by simpa using hj) (by simpa using e2.symm)
/-- n pigeonholes -/
theorem holes : ∀ (n c : Nat) (f : Nat → Nat), (∀ i, i < c → f i < n) → (∀ i j, i < c → j < i → f j ≠ f i) → c ≤ n := by
  intro n
  induction n with
  | zero =>
    intro c f h _
    rcases Nat.eq_zero_or_pos c with h0 | h0
    · omega
    · have := h 0 h0; omega
  | succ n ih =>
    intro c f h hd
    rcases Nat.eq_zero_or_pos c with h0 | h0
    · omega
    · have hc : c - 1 ≤ n := by
        refine ih (c - 1) (fun i => if f i = n then f (c - 1) else f i) (fun i hi => ?_) (fun i j hi hj => ?_)
        · have h1 := h i (by omega)
          have h2 := h (c - 1) (by omega)
          have h3 := hd (c - 1) i (by omega) (by omega)
          show (if f i = n then f (c - 1) else f i) < n
          split <;> omega
        · have h3 := hd (c - 1) i (by omega) (by omega)
          have h4 := hd (c - 1) j (by omega) (by omega)
          have h5 := hd i j (by omega) hj
          show (if f j = n then f (c - 1) else f j) ≠ (if f i = n then f (c - 1) else f i)
          split <;> split <;> omega
      omega
theorem count_le {i : Nat} (hall : ∀ j, j < i → badAt n E It j = 0) : i ≤ n := by
  refine holes n i (pos n E It) (fun j hj => ?_) (fun a b ha hb => pos_ne hall ha hb)
  obtain ⟨h1, _, _⟩ := ok_bad (hall j hj)
  exact (pos_find h1).2.1
end
end Go.Law.Sh
