/-
  A stable sort by insertion: what it keeps. (No program.)
-/
import Derived.Test.YtabnohphgegflaaDoorOwn
namespace Go.Law.Sh
open Go.RowKit Go.Law
set_option linter.unusedVariables false
/-- by the key, then by itself -/
def lexL (X : Int → Int) (p q : Int) : Prop := X p < X q ∨ (X p = X q ∧ p < q)
theorem lexL.trans {X : Int → Int} {p q r : Int} (h : lexL X p q) (k : lexL X q r) : lexL X p r := by
  unfold lexL at *; omega
theorem lexL.irrefl {X : Int → Int} {p q : Int} (h : lexL X p q) (k : lexL X q p) : False := by
  unfold lexL at *; omega
theorem lexL.total {X : Int → Int} {p q : Int} (h : ¬ lexL X p q) (hne : p ≠ q) : lexL X q p := by
  unfold lexL at *; omega
/-- the same values in another order -/
def PermF (c : Nat) (A B : Nat → Int) : Prop := List.Perm ((List.range c).map A) ((List.range c).map B)
theorem PermF.refl (c : Nat) (A : Nat → Int) : PermF c A A := List.Perm.refl _
theorem PermF.trans {c : Nat} {A B C : Nat → Int} (h : PermF c A B) (k : PermF c B C) : PermF c A C := List.Perm.trans h k
theorem PermF.symm {c : Nat} {A B : Nat → Int} (h : PermF c A B) : PermF c B A := List.Perm.symm h
theorem PermF.congr {c : Nat} {A B C : Nat → Int} (h : PermF c A B) (he : ∀ i, i < c → C i = A i) : PermF c C B := by
  unfold PermF at *
  rw [show (List.range c).map C = (List.range c).map A from List.map_congr_left (fun i hi => he i (by simpa using hi))]
  exact h
theorem PermF.mem {c : Nat} {A B : Nat → Int} (h : PermF c A B) {i : Nat} (hi : i < c) : ∃ j, j < c ∧ B j = A i := by
  have h1 : A i ∈ (List.range c).map A := List.mem_map.2 ⟨i, by simpa using hi, rfl⟩
  have h2 := (List.Perm.mem_iff h).1 h1
  obtain ⟨j, hj, e⟩ := List.mem_map.1 h2
  exact ⟨j, by simpa using hj, e⟩
/-- neighbours exchanged -/
def swF (A : Nat → Int) (j : Nat) : Nat → Int := upd (upd A j (A (j - 1))) (j - 1) (A j)
theorem swF_lo {A : Nat → Int} {j : Nat} : swF A j (j - 1) = A j := by unfold swF upd; rw [if_pos rfl]
theorem swF_hi {A : Nat → Int} {j : Nat} (hj : 0 < j) : swF A j j = A (j - 1) := by unfold swF upd; rw [if_neg (by omega), if_pos rfl]
theorem swF_ne {A : Nat → Int} {j a : Nat} (h1 : a ≠ j) (h2 : a ≠ j - 1) : swF A j a = A a := by unfold swF upd; rw [if_neg h2, if_neg h1]
theorem swF_perm {c j : Nat} {A : Nat → Int} (hj : 0 < j) (hjc : j < c) : PermF c (swF A j) A := by
  unfold PermF
  have hs : ((List.range c).map A).toArray.size = c := by simp
  have h := Array.swap_perm (xs := ((List.range c).map A).toArray) (i := j) (j := j - 1) (by rw [hs]; omega) (by rw [hs]; omega)
  have h2 := Array.perm_iff_toList_perm.1 h
  have e : (((List.range c).map A).toArray.swap j (j - 1) (by rw [hs]; omega) (by rw [hs]; omega)).toList = (List.range c).map (swF A j) := by
    apply List.ext_getElem
    · simp
    · intro k h3 h4
      simp at h4
      rw [Array.getElem_toList, Array.getElem_swap]
      simp only [List.getElem_toArray, List.getElem_map, List.getElem_range]
      by_cases e1 : k = j
      · subst e1; rw [if_pos rfl, swF_hi hj]
      · by_cases e2 : k = j - 1
        · subst e2; rw [if_neg e1, if_pos rfl, swF_lo]
        · rw [if_neg e1, if_neg e2, swF_ne e1 e2]
  rw [e] at h2
  exact h2
/-- the first i are in order, the others as they were -/
structure SortI (X : Int → Int) (A0 A : Nat → Int) (c i : Nat) : Prop where
  perm : PermF c A A0
  ord : ∀ a b, a < b → b < i → lexL X (A a) (A b)
  tail : ∀ b, i ≤ b → b < c → A b = A0 b
  low : ∀ a b, a < i → i ≤ b → b < c → A a < A0 b
/-- the i-th wanders down and stands at j -/
structure InsI (X : Int → Int) (A0 A : Nat → Int) (c i j : Nat) : Prop where
  perm : PermF c A A0
  at_ : A j = A0 i
  ord : ∀ a b, a < b → b ≤ i → a ≠ j → b ≠ j → lexL X (A a) (A b)
  up : ∀ b, j < b → b ≤ i → lexL X (A0 i) (A b)
  own : ∀ a, a ≤ i → a ≠ j → A a < A0 i
  low : ∀ a b, a ≤ i → i < b → b < c → A a < A0 b
  tail : ∀ b, i < b → b < c → A b = A0 b
section
variable {X : Int → Int} {A0 A : Nat → Int} {c i j : Nat}
theorem sort_start (hA : ∀ a b, a < b → b < c → A0 a < A0 b) : SortI X A0 A0 c 1 :=
  ⟨PermF.refl _ _, fun a b h1 h2 => by omega, fun _ _ _ => rfl, fun a b h1 h2 h3 => hA a b (by omega) h3⟩
theorem ins_start (h : SortI X A0 A c i) (hi : i < c) (hA : ∀ a b, a < b → b < c → A0 a < A0 b) : InsI X A0 A c i i := by
  refine ⟨h.perm, h.tail i (Nat.le_refl _) hi, fun a b h1 h2 h3 h4 => h.ord a b h1 (by omega), fun b h1 h2 => by omega, fun a h1 h2 => h.low a i (by omega) (Nat.le_refl _) hi, fun a b h1 h2 h3 => ?_, fun b h1 h2 => h.tail b (by omega) h2⟩
  rcases Nat.lt_or_ge a i with h4 | h4
  · exact h.low a b h4 (by omega) h3
  · obtain rfl : a = i := by omega
    rw [h.tail a (Nat.le_refl _) hi]
    exact hA a b h2 h3
theorem ins_swap (h : InsI X A0 A c i j) (hj : 0 < j) (hji : j ≤ i) (hi : i < c) (hlt : X (A0 i) < X (A (j - 1))) : InsI X A0 (swF A j) c i (j - 1) := by
  have hperm := (swF_perm (c := c) (A := A) hj (by omega)).trans h.perm
  refine ⟨hperm, by rw [swF_lo]; exact h.at_, fun a b h1 h2 h3 h4 => ?_, fun b h1 h2 => ?_, fun a h1 h2 => ?_, fun a b h1 h2 h3 => ?_, fun b h1 h2 => ?_⟩
  · by_cases ha : a = j
    · subst ha
      rw [swF_hi hj, swF_ne (by omega) (by omega)]
      exact h.ord (a - 1) b (by omega) h2 (by omega) (by omega)
    · by_cases hb : b = j
      · subst hb
        rw [swF_hi hj, swF_ne ha h3]
        exact h.ord a (b - 1) (by omega) (by omega) ha (by omega)
      · rw [swF_ne ha h3, swF_ne hb h4]
        exact h.ord a b h1 h2 ha hb
  · by_cases hb : b = j
    · subst hb; rw [swF_hi hj]; exact .inl hlt
    · rw [swF_ne hb (by omega)]; exact h.up b (by omega) h2
  · by_cases ha : a = j
    · subst ha; rw [swF_hi hj]; exact h.own (a - 1) (by omega) (by omega)
    · rw [swF_ne ha h2]; exact h.own a h1 ha
  · by_cases ha : a = j
    · subst ha; rw [swF_hi hj]; exact h.low (a - 1) b (by omega) h2 h3
    · by_cases ha2 : a = j - 1
      · subst ha2; rw [swF_lo]; exact h.low j b hji h2 h3
      · rw [swF_ne ha ha2]; exact h.low a b h1 h2 h3
  · rw [swF_ne (by omega) (by omega)]; exact h.tail b h1 h2
theorem ins_end (h : InsI X A0 A c i j) (hji : j ≤ i) (hstop : j = 0 ∨ ¬ X (A0 i) < X (A (j - 1))) : SortI X A0 A c (i + 1) := by
  refine ⟨h.perm, fun a b h1 h2 => ?_, fun b h1 h2 => h.tail b (by omega) h2, fun a b h1 h2 h3 => h.low a b (by omega) (by omega) h3⟩
  by_cases ha : a = j
  · subst ha
    rw [h.at_]; exact h.up b h1 (by omega)
  · by_cases hb : b = j
    · subst hb
      rw [h.at_]
      have hs : ¬ X (A0 i) < X (A (b - 1)) := by
        rcases hstop with h3 | h3
        · omega
        · exact h3
      have hu := h.own (b - 1) (by omega) (by omega)
      have hlx : lexL X (A (b - 1)) (A0 i) := by unfold lexL; omega
      by_cases ha2 : a = b - 1
      · subst ha2; exact hlx
      · exact (h.ord a (b - 1) (by omega) (by omega) ha (by omega)).trans hlx
    · exact h.ord a b h1 (by omega) ha hb
end
/-- one order only -/
theorem sorted_unique {X : Int → Int} {c : Nat} {A B : Nat → Int} (hp : PermF c A B) (hA : ∀ a b, a < b → b < c → lexL X (A a) (A b)) (hB : ∀ a b, a < b → b < c → lexL X (B a) (B b)) : ∀ i, i < c → A i = B i := by
  intro i
  induction i using Nat.strongRecOn with
  | _ i ih =>
    intro hi
    -- A i stands somewhere in B, B i somewhere in A
    obtain ⟨j, hj, ej⟩ := hp.mem hi
    obtain ⟨k, hk, ek⟩ := hp.symm.mem hi
    rcases Nat.lt_trichotomy j i with h1 | h1 | h1
    · have := ih j h1 hj
      have h2 := hA j i h1 hi
      rw [this, ej] at h2
      exact (h2.irrefl h2).elim
    · subst h1; exact ej.symm
    · rcases Nat.lt_trichotomy k i with h3 | h3 | h3
      · have := ih k h3 hk
        have h2 := hB k i h3 hi
        rw [← this, ek] at h2
        exact (h2.irrefl h2).elim
      · subst h3; exact ek
      · have h4 := hB i j h1 hj
        have h5 := hA i k h3 hk
        rw [ej] at h4
        rw [ek] at h5
        exact (h4.irrefl h5).elim
end Go.Law.Sh
