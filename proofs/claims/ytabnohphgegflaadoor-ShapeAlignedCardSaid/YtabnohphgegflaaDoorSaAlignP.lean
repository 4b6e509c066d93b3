/-
  Align and Spread: what they give. (Plain.)
-/
import Derived.Test.YtabnohphgegflaaDoorSaAlike
import Derived.Test.YtabnohphgegflaaDoorSaSortP
import Derived.Test.YtabnohphgegflaaDoorSaRow
namespace Go.Law.Sh
open Go.RowKit Go.Law Go.Proofs.YtabnohphgegflaaDoor.ShT
set_option linter.unusedVariables false
def lowR (X : Nat → Int) : Nat → Int
  | 0 => X 0
  | j + 1 => min (lowR X j) (X j)
def highR (X : Nat → Int) : Nat → Int
  | 0 => X 0
  | j + 1 => max (highR X j) (X j)
theorem lowR_le (X : Nat → Int) : ∀ c j, j < c → lowR X c ≤ X j := by
  intro c
  induction c with
  | zero => intro j hj; omega
  | succ c ih =>
    intro j hj
    unfold lowR
    rcases Nat.lt_or_ge j c with h | h
    · have := ih j h; omega
    · obtain rfl : j = c := by omega
      omega
theorem lowR_mem (X : Nat → Int) : ∀ c, 0 < c → ∃ j, j < c ∧ lowR X c = X j := by
  intro c
  induction c with
  | zero => intro h; omega
  | succ c ih =>
    intro _
    unfold lowR
    rcases Nat.eq_zero_or_pos c with h | h
    · subst h; exact ⟨0, by omega, by show min (X 0) (X 0) = X 0; omega⟩
    · obtain ⟨j, hj, e⟩ := ih h
      rcases Int.le_total (lowR X c) (X c) with h1 | h1
      · exact ⟨j, by omega, by omega⟩
      · exact ⟨c, by omega, by omega⟩
theorem highR_ge (X : Nat → Int) : ∀ c j, j < c → X j ≤ highR X c := by
  intro c
  induction c with
  | zero => intro j hj; omega
  | succ c ih =>
    intro j hj
    unfold highR
    rcases Nat.lt_or_ge j c with h | h
    · have := ih j h; omega
    · obtain rfl : j = c := by omega
      omega
theorem highR_mem (X : Nat → Int) : ∀ c, 0 < c → ∃ j, j < c ∧ highR X c = X j := by
  intro c
  induction c with
  | zero => intro h; omega
  | succ c ih =>
    intro _
    unfold highR
    rcases Nat.eq_zero_or_pos c with h | h
    · subst h; exact ⟨0, by omega, by show max (X 0) (X 0) = X 0; omega⟩
    · obtain ⟨j, hj, e⟩ := ih h
      rcases Int.le_total (highR X c) (X c) with h1 | h1
      · exact ⟨c, by omega, by omega⟩
      · exact ⟨j, by omega, by omega⟩
theorem lowR_perm {c : Nat} {A B : Nat → Int} (f : Int → Int) (h : PermF c A B) (hc : 0 < c) : lowR (fun j => f (A j)) c = lowR (fun j => f (B j)) c := by
  obtain ⟨i, hi, e⟩ := lowR_mem (fun j => f (A j)) c hc
  obtain ⟨k, hk, e2⟩ := lowR_mem (fun j => f (B j)) c hc
  obtain ⟨i', hi', e3⟩ := h.mem hi
  obtain ⟨k', hk', e4⟩ := h.symm.mem hk
  have h1 := lowR_le (fun j => f (B j)) c i' hi'
  have h2 := lowR_le (fun j => f (A j)) c k' hk'
  simp only [e3] at h1
  simp only [e4] at h2
  omega
theorem highR_perm {c : Nat} {A B : Nat → Int} (f : Int → Int) (h : PermF c A B) (hc : 0 < c) : highR (fun j => f (A j)) c = highR (fun j => f (B j)) c := by
  obtain ⟨i, hi, e⟩ := highR_mem (fun j => f (A j)) c hc
  obtain ⟨k, hk, e2⟩ := highR_mem (fun j => f (B j)) c hc
  obtain ⟨i', hi', e3⟩ := h.mem hi
  obtain ⟨k', hk', e4⟩ := h.symm.mem hk
  have h1 := highR_ge (fun j => f (B j)) c i' hi'
  have h2 := highR_ge (fun j => f (A j)) c k' hk'
  simp only [e3] at h1
  simp only [e4] at h2
  omega
/-- shapes moved one after the other -/
def mvR (E : Nat → Nat → Int) (S : Nat → Int) (ax : Int) (B : Nat → Int) : Nat → Nat → Nat → Int
  | 0 => E
  | j + 1 => movE (mvR E S ax B j) (S j).toNat ax (B j)
theorem mvR_other {E : Nat → Nat → Int} {S B : Nat → Int} {ax : Int} {i c : Nat} (h3 : c ≠ 3) (h4 : c ≠ 4) : ∀ j, mvR E S ax B j i c = E i c := by
  intro j
  induction j with
  | zero => rfl
  | succ j ih => unfold mvR; rw [movE_other h3 h4, ih]
theorem mvR_findV (n : Nat) (E : Nat → Nat → Int) (S B : Nat → Int) (ax x : Int) (j : Nat) : findV n (mvR E S ax B j) x = findV n E x := by
  unfold findV
  simp only [mvR_other (show (0 : Nat) ≠ 3 by omega) (show (0 : Nat) ≠ 4 by omega)]
theorem mvR_congr {E : Nat → Nat → Int} {S S' B B' : Nat → Int} {ax : Int} : ∀ c, (∀ j, j < c → S j = S' j ∧ B j = B' j) → mvR E S ax B c = mvR E S' ax B' c := by
  intro c
  induction c with
  | zero => intro _; rfl
  | succ c ih =>
    intro h
    unfold mvR
    rw [ih (fun j hj => h j (by omega)), (h c (by omega)).1, (h c (by omega)).2]
theorem mvR_hit {E : Nat → Nat → Int} {S : Nat → Int} {ax : Int} {K : Int → Int} {i col : Nat} (hc : col = if ax = 0 then 3 else 4) : ∀ c, (∀ a, a < c → (S a).toNat ≠ i) → mvR E S ax (fun j => K (S j)) c i col = E i col := by
  intro c
  induction c with
  | zero => intro _; rfl
  | succ c ih =>
    intro h
    unfold mvR movE
    rw [if_neg (fun e => h c (by omega) e.1.symm)]
    exact ih (fun a ha => h a (by omega))
theorem mvR_once {E : Nat → Nat → Int} {S : Nat → Int} {ax : Int} {K : Int → Int} {i col q : Nat} (hc : col = if ax = 0 then 3 else 4) (hq : (S q).toNat = i) : ∀ c, q < c → (∀ a, a < c → a ≠ q → (S a).toNat ≠ i) →
    mvR E S ax (fun j => K (S j)) c i col = wrap64 (E i col + K (S q)) := by
  intro c
  induction c with
  | zero => intro h; omega
  | succ c ih =>
    intro hqc h
    rcases Nat.lt_or_ge q c with h1 | h1
    · unfold mvR movE
      rw [if_neg (fun e => h c (by omega) (by omega) e.1.symm)]
      exact ih h1 (fun a ha hne => h a (by omega) hne)
    · obtain rfl : q = c := by omega
      unfold mvR movE
      rw [if_pos ⟨hq.symm, hc⟩]
      have := mvR_hit (E := E) (K := K) hc q (fun a ha => h a (by omega) (by omega))
      rw [this]
theorem mvR_perm {E : Nat → Nat → Int} {A B : Nat → Int} {ax : Int} {K : Int → Int} {c : Nat} (h : PermF c A B) (hA : ∀ a b, a < b → b < c → A a ≠ A b) (hB : ∀ a b, a < b → b < c → B a ≠ B b) (hA0 : ∀ a, a < c → 0 ≤ A a) (hB0 : ∀ a, a < c → 0 ≤ B a) :
    mvR E A ax (fun j => K (A j)) c = mvR E B ax (fun j => K (B j)) c := by
  have dist : ∀ {A : Nat → Int}, (∀ a b, a < b → b < c → A a ≠ A b) → (∀ a, a < c → 0 ≤ A a) → ∀ a q, a < c → q < c → a ≠ q → (A a).toNat ≠ (A q).toNat := by
    intro A h1 h2 a q ha hq hne he
    have e1 := h2 a ha
    have e2 := h2 q hq
    rcases Nat.lt_or_ge a q with h3 | h3
    · exact h1 a q h3 hq (by omega)
    · exact h1 q a (by omega) ha (by omega)
  funext i col
  by_cases hc : col = if ax = 0 then 3 else 4
  · by_cases hm : ∃ q, q < c ∧ (A q).toNat = i
    · obtain ⟨q, hq, e⟩ := hm
      obtain ⟨r, hr, e2⟩ := h.mem hq
      rw [mvR_once hc e c hq (fun a ha hne => by rw [← e]; exact dist hA hA0 a q ha hq hne), mvR_once hc (by rw [e2]; exact e) c hr (fun a ha hne => by rw [← e, ← e2]; exact dist hB hB0 a r ha hr hne), e2]
    · rw [mvR_hit hc c (fun a ha e => hm ⟨a, ha, e⟩), mvR_hit hc c (fun a ha e => by
        obtain ⟨r, hr, e2⟩ := h.symm.mem ha
        exact hm ⟨r, hr, by rw [e2]; exact e⟩)]
  · have key : ∀ (S Bf : Nat → Int) (j : Nat), mvR E S ax Bf j i col = E i col := by
      intro S Bf j
      induction j with
      | zero => rfl
      | succ j ih => unfold mvR movE; rw [if_neg (fun e => hc e.2), ih]
    rw [key, key]
/-- how far a shape moves -/
def byA (md lo hi a b : Int) : Int := if md = 0 then wrap64 (lo - a) else if md = 1 then rnd (wrap64 (wrap64 (wrap64 (lo + hi) - a) - b)) 2 else wrap64 (hi - b)
/-- the row of places in order -/
def srtF (n : Nat) (E : Nat → Nat → Int) (It : Nat → Int) (c : Nat) : Nat → Int := fun i => (srt c (posF n E It)).getD i 0
section
variable {n c : Nat} {E : Nat → Nat → Int} {It : Nat → Int}
theorem srtF_perm : PermF c (srtF n E It c) (posF n E It) := by
  unfold PermF
  have e : (List.range c).map (srtF n E It c) = srt c (posF n E It) := by
    apply List.ext_getElem
    · simp [srt_len]
    · intro k h1 h2
      simp [srtF, List.getD_eq_getElem?_getD, List.getElem?_eq_getElem h2]
  rw [e]
  exact List.mergeSort_perm _ _
theorem posF_ne (hall : ∀ j, j < c → badAt n E It j = 0) : ∀ a b, a < b → b < c → posF n E It a ≠ posF n E It b := by
  intro a b h1 h2 e
  have := pos_ne hall h2 h1
  unfold posF at e
  omega
theorem posF_at (hall : ∀ j, j < c → badAt n E It j = 0) {a : Nat} (ha : a < c) : 0 ≤ posF n E It a ∧ posF n E It a < n := by
  have := pos_find (ok_bad (hall a ha)).1
  unfold posF
  omega
theorem srtF_asc (hall : ∀ j, j < c → badAt n E It j = 0) : ∀ a b, a < b → b < c → srtF n E It c a < srtF n E It c b := by
  have hs : List.Pairwise (fun x y => decide (x ≤ y) = true) (srt c (posF n E It)) := List.pairwise_mergeSort (le := fun x y : Int => decide (x ≤ y)) (fun a b d h1 h2 => by simp at *; omega) (fun a b => by simp; omega) _
  have hnd : (srt c (posF n E It)).Nodup := by
    refine (List.Perm.nodup_iff (List.mergeSort_perm _ _)).2 ?_
    rw [List.nodup_iff_pairwise_ne] 
    rw [List.pairwise_map]
    refine List.Pairwise.imp_of_mem ?_ (List.pairwise_lt_range (n := c))
    intro a b ha hb hlt
    exact posF_ne hall a b hlt (by simpa using hb)
  intro a b h1 h2
  have hl := srt_len c (posF n E It)
  have e1 := (List.pairwise_iff_getElem.1 hs) a b (by omega) (by omega) h1
  have e2 := (List.pairwise_iff_getElem.1 hnd) a b (by omega) (by omega) h1
  unfold srtF
  rw [List.getD_eq_getElem?_getD, List.getD_eq_getElem?_getD, List.getElem?_eq_getElem (by omega), List.getElem?_eq_getElem (by omega)]
  simp at e1
  simp only [Option.getD_some]
  omega
theorem srtF_at (hall : ∀ j, j < c → badAt n E It j = 0) {a : Nat} (ha : a < c) : 0 ≤ srtF n E It c a ∧ srtF n E It c a < n := by
  obtain ⟨j, hj, e⟩ := (srtF_perm (n := n) (E := E) (It := It) (c := c)).mem ha
  rw [← e]
  exact posF_at hall hj
end
end Go.Law.Sh
