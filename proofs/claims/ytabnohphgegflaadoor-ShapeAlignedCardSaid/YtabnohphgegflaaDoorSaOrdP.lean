/-
  The reference's order of items: what its insertion keeps. (Plain.)
-/
import Derived.Test.YtabnohphgegflaaDoorSaAlignP
namespace Go.Law.Sh
open Go.RowKit Go.Law
set_option linter.unusedVariables false
/-- the places of items -/
def plc (n : Nat) (E : Nat → Nat → Int) (O : Nat → Int) : Nat → Int := fun j => findV n E (O j)
theorem plc_sw (n : Nat) (E : Nat → Nat → Int) (O : Nat → Int) (j : Nat) : plc n E (swF O j) = swF (plc n E O) j := by
  funext k
  unfold plc
  unfold swF upd
  split
  · rfl
  · split <;> rfl
structure InsR (X : Int → Int) (A : Nat → Int) (i j : Nat) : Prop where
  ord : ∀ a b, a < b → b ≤ i → a ≠ j → b ≠ j → lexL X (A a) (A b)
  up : ∀ b, j < b → b ≤ i → lexL X (A j) (A b)
section
variable {X : Int → Int} {A : Nat → Int} {i j : Nat}
theorem insR_start (h : ∀ a b, a < b → b < i → lexL X (A a) (A b)) : InsR X A i i :=
  ⟨fun a b h1 h2 h3 h4 => h a b h1 (by omega), fun b h1 h2 => by omega⟩
theorem insR_swap (h : InsR X A i j) (hj : 0 < j) (hji : j ≤ i) (hlt : lexL X (A j) (A (j - 1))) : InsR X (swF A j) i (j - 1) := by
  refine ⟨fun a b h1 h2 h3 h4 => ?_, fun b h1 h2 => ?_⟩
  · by_cases ha : a = j
    · subst ha
      rw [swF_hi hj, swF_ne (by omega) (by omega)]
      exact h.ord (a - 1) b (by omega) h2 (by omega) (by omega)
    · by_cases hb : b = j
      · subst hb
        rw [swF_hi hj, swF_ne ha h3]
        exact h.ord a (b - 1) (by omega) (by omega) ha (by omega)
      · rw [swF_ne ha h3, swF_ne hb h4]
        exact h.ord a b h1 h2 ha hb
  · rw [swF_lo]
    by_cases hb : b = j
    · subst hb; rw [swF_hi hj]; exact hlt
    · rw [swF_ne hb (by omega)]; exact h.up b (by omega) h2
theorem insR_end (h : InsR X A i j) (hji : j ≤ i) (hstop : j = 0 ∨ lexL X (A (j - 1)) (A j)) : ∀ a b, a < b → b < i + 1 → lexL X (A a) (A b) := by
  intro a b h1 h2
  by_cases ha : a = j
  · subst ha; exact h.up b h1 (by omega)
  · by_cases hb : b = j
    · subst hb
      have hs : lexL X (A (b - 1)) (A b) := by
        rcases hstop with h3 | h3
        · omega
        · exact h3
      by_cases ha2 : a = b - 1
      · subst ha2; exact hs
      · exact (h.ord a (b - 1) (by omega) (by omega) ha (by omega)).trans hs
    · exact h.ord a b h1 (by omega) ha hb
end
theorem PermF.distinct {c : Nat} {A B : Nat → Int} (h : PermF c A B) (hB : ∀ a b, a < b → b < c → B a ≠ B b) : ∀ a b, a < b → b < c → A a ≠ A b := by
  have hnd : ((List.range c).map A).Nodup := by
    refine (List.Perm.nodup_iff h).2 ?_
    rw [List.nodup_iff_pairwise_ne, List.pairwise_map]
    refine List.Pairwise.imp_of_mem ?_ (List.pairwise_lt_range (n := c))
    intro a b ha hb hlt
    exact hB a b hlt (by simpa using hb)
  intro a b h1 h2
  have e2 := (List.pairwise_iff_getElem.1 hnd) a b (by simp; omega) (by simp; omega) h1
  simpa using e2
theorem plc_perm {n c : Nat} {E : Nat → Nat → Int} {O It : Nat → Int} (h : PermF c O It) : PermF c (plc n E O) (plc n E It) := by
  unfold PermF at *
  have := List.Perm.map (findV n E) h
  rw [List.map_map, List.map_map] at this
  exact this
theorem plc_posF {n c : Nat} {E : Nat → Nat → Int} {It : Nat → Int} (hall : ∀ j, j < c → badAt n E It j = 0) : ∀ j, j < c → plc n E It j = Go.Proofs.YtabnohphgegflaaDoor.ShT.posF n E It j := by
  intro j hj
  unfold plc Go.Proofs.YtabnohphgegflaaDoor.ShT.posF
  exact (pos_find (ok_bad (hall j hj)).1).1
end Go.Law.Sh
