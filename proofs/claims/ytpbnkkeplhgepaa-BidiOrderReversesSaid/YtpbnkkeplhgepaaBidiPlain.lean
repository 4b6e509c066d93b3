/-
  The plain law behind BidiOrderReverses: turning round the stretches of a level, from the greatest level down.
-/
import Derived.Test.YtpbnkkeplhgepaaOwn
namespace Go.Law.Bidi
open Go.Law

/-- a stretch: as long as it can be -/
def Run (p : Nat → Prop) (n l h : Nat) : Prop := l < h ∧ h ≤ n ∧ (∀ j, l ≤ j → j < h → p j) ∧ (l = 0 ∨ ¬ p (l - 1)) ∧ (h = n ∨ ¬ p h)
/-- f' is f with each stretch below i turned round, and as f from i on -/
def PassTo (p : Nat → Prop) (n : Nat) (f f' : Nat → Int) (i : Nat) : Prop :=
  ∀ j, j < n → (i ≤ j → f' j = f j) ∧ (j < i → (¬ p j → f' j = f j) ∧ ∀ l h, Run p n l h → l ≤ j → j < h → h ≤ i ∧ f' j = f (l + h - 1 - j))
def Passed (p : Nat → Prop) (n : Nat) (f f' : Nat → Int) : Prop :=
  ∀ j, j < n → (¬ p j → f' j = f j) ∧ ∀ l h, Run p n l h → l ≤ j → j < h → f' j = f (l + h - 1 - j)
theorem PassTo.zero (p : Nat → Prop) (n : Nat) (f : Nat → Int) : PassTo p n f f 0 := fun j _ => ⟨fun _ => rfl, fun h => by omega⟩
theorem PassTo.done {p : Nat → Prop} {n : Nat} {f f' : Nat → Int} {i : Nat} (h : PassTo p n f f' i) (hi : n ≤ i) : Passed p n f f' :=
  fun j hj => ⟨((h j hj).2 (by omega)).1, fun l k hr h1 h2 => (((h j hj).2 (by omega)).2 l k hr h1 h2).2⟩
/-- a place that is in no stretch is passed over -/
theorem PassTo.skip {p : Nat → Prop} {n : Nat} {f f' : Nat → Int} {i : Nat} (h : PassTo p n f f' i) (hp : ¬ p i) : PassTo p n f f' (i + 1) := by
  intro j hj
  refine ⟨fun hij => (h j hj).1 (by omega), fun hji => ?_⟩
  by_cases e : j < i
  · obtain ⟨h1, h2⟩ := (h j hj).2 e
    exact ⟨h1, fun l k hr a b => ⟨by have := (h2 l k hr a b).1; omega, (h2 l k hr a b).2⟩⟩
  · obtain rfl : j = i := by omega
    exact ⟨fun _ => (h j hj).1 (Nat.le_refl _), fun l k hr a b => absurd (hr.2.2.1 j a b) hp⟩
/-- a stretch is turned round -/
theorem PassTo.turn {p : Nat → Prop} {n : Nat} {f f' f'' : Nat → Int} {l h : Nat} (hp : PassTo p n f f' l) (hr : Run p n l h)
    (ht : ∀ j, j < n → f'' j = if l ≤ j ∧ j < h then f' (l + h - 1 - j) else f' j) : PassTo p n f f'' (h + 1) := by
  obtain ⟨r1, r2, r3, r4, r5⟩ := hr
  intro j hj
  rw [ht j hj]
  refine ⟨fun hij => by rw [if_neg (by omega)]; exact (hp j hj).1 (by omega), fun hji => ?_⟩
  by_cases c1 : j < l
  · rw [if_neg (by omega)]
    obtain ⟨h1, h2⟩ := (hp j hj).2 c1
    exact ⟨h1, fun l' k hr' a b => ⟨by have := (h2 l' k hr' a b).1; omega, (h2 l' k hr' a b).2⟩⟩
  · by_cases c2 : j < h
    · rw [if_pos ⟨by omega, c2⟩, (hp (l + h - 1 - j) (by omega)).1 (by omega)]
      refine ⟨fun hn => absurd (r3 j (by omega) c2) hn, fun l' k hr' a b => ?_⟩
      obtain ⟨q1, q2, q3, q4, q5⟩ := hr'
      have e1 : l' = l := by
        rcases Nat.lt_trichotomy l' l with hl | hl | hl
        · rcases r4 with r4 | r4
          · omega
          · exact absurd (q3 (l - 1) (by omega) (by omega)) r4
        · exact hl
        · rcases q4 with q4 | q4
          · omega
          · exact absurd (r3 (l' - 1) (by omega) (by omega)) q4
      have e2 : k = h := by
        rcases Nat.lt_trichotomy k h with hl | hl | hl
        · rcases q5 with q5 | q5
          · omega
          · exact absurd (r3 k (by omega) hl) q5
        · exact hl
        · rcases r5 with r5 | r5
          · omega
          · exact absurd (q3 h (by omega) hl) r5
      subst e1; subst e2
      exact ⟨by omega, rfl⟩
    · obtain rfl : j = h := by omega
      rw [if_neg (by omega), (hp j hj).1 (by omega)]
      have hnp : ¬ p j := by rcases r5 with r5 | r5; omega; exact r5
      exact ⟨fun _ => rfl, fun l' k hr' a b => absurd (hr'.2.2.1 j a b) hnp⟩
theorem PassTo.congr {p : Nat → Prop} {n : Nat} {f f' f'' : Nat → Int} {i : Nat} (h : PassTo p n f f' i) (e : ∀ j, j < n → f'' j = f' j) : PassTo p n f f'' i := by
  intro j hj
  rw [e j hj]
  exact h j hj

theorem run_low {p : Nat → Prop} {n j : Nat} (hj : j < n) (hp : p j) : ∃ l h, Run p n l h ∧ l ≤ j ∧ j < h := by
  have low : ∀ i, p i → ∃ l, l ≤ i ∧ (∀ k, l ≤ k → k ≤ i → p k) ∧ (l = 0 ∨ ¬ p (l - 1)) := by
    intro i
    induction i with
    | zero => intro h; exact ⟨0, Nat.le_refl _, fun k _ h2 => by rw [show k = 0 by omega]; exact h, .inl rfl⟩
    | succ i ih =>
      intro h
      by_cases hi : p i
      · obtain ⟨l, h1, h2, h3⟩ := ih hi
        exact ⟨l, by omega, fun k a b => by rcases Nat.lt_or_ge k (i + 1) with c | c; exact h2 k a (by omega); rw [show k = i + 1 by omega]; exact h, h3⟩
      · exact ⟨i + 1, Nat.le_refl _, fun k a b => by rw [show k = i + 1 by omega]; exact h, .inr (by simpa using hi)⟩
  have high : ∀ d i, n - i = d → i < n → p i → ∃ h, i < h ∧ h ≤ n ∧ (∀ k, i ≤ k → k < h → p k) ∧ (h = n ∨ ¬ p h) := by
    intro d
    induction d with
    | zero => intro i h1 h2; omega
    | succ d ih =>
      intro i h1 h2 h3
      by_cases hn : i + 1 = n
      · exact ⟨n, h2, Nat.le_refl _, fun k a b => by rw [show k = i by omega]; exact h3, .inl rfl⟩
      · by_cases hi : p (i + 1)
        · obtain ⟨h, a, b, c, e⟩ := ih (i + 1) (by omega) (by omega) hi
          exact ⟨h, by omega, b, fun k x y => by rcases Nat.lt_or_ge i k with z | z; exact c k (by omega) y; rw [show k = i by omega]; exact h3, e⟩
        · exact ⟨i + 1, by omega, by omega, fun k a b => by rw [show k = i by omega]; exact h3, .inr hi⟩
  obtain ⟨l, a1, a2, a3⟩ := low j hp
  obtain ⟨h, b1, b2, b3, b4⟩ := high _ j rfl hj hp
  exact ⟨l, h, ⟨by omega, b2, fun k x y => by rcases Nat.lt_or_ge k j with z | z; exact a2 k x (by omega); exact b3 k z y, a3, b4⟩, a1, b1⟩

/-- after k passes, from level t on down; P tells whether a place is in a stretch, of the level and of the row as it stood ahead of the pass -/
def Passes (P : Nat → (Nat → Int) → Nat → Prop) (n t : Nat) : Nat → (Nat → Int) → Prop
  | 0, f => ∀ i, i < n → f i = i
  | k + 1, f' => ∃ f, Passes P n t k f ∧ Passed (P (t - k) f) n f f'
theorem Passes.congr {P : Nat → (Nat → Int) → Nat → Prop} {n t k : Nat} {f f' : Nat → Int} (h : Passes P n t k f) (e : ∀ j, j < n → f' j = f j) : Passes P n t k f' := by
  cases k with
  | zero => intro i hi; rw [e i hi]; exact h i hi
  | succ k =>
    obtain ⟨g, h1, h2⟩ := h
    exact ⟨g, h1, fun j hj => by rw [e j hj]; exact h2 j hj⟩
/-- the program's stretches: by places; the reference's: by what stands there -/
def byPlace (L : Nat → Int) : Nat → (Nat → Int) → Nat → Prop := fun m _ j => (m : Int) ≤ L j
def byWhat (L : Nat → Int) : Nat → (Nat → Int) → Nat → Prop := fun m f j => (m : Int) ≤ L (f j).toNat
def Kept (L : Nat → Int) (n m : Nat) (f : Nat → Int) : Prop := ∀ j, j < n → 0 ≤ f j ∧ f j < n ∧ ∀ m' : Nat, m' ≤ m → ((m' : Int) ≤ L (f j).toNat ↔ (m' : Int) ≤ L j)
theorem what_place {L : Nat → Int} {n t : Nat} : ∀ {k : Nat} {g : Nat → Int}, k ≤ t → Passes (byWhat L) n t k g → Passes (byPlace L) n t k g ∧ Kept L n (t - k) g
  | 0, g, _, h => ⟨h, fun j hj => by rw [h j hj]; exact ⟨by omega, by omega, fun m' _ => by simp⟩⟩
  | k + 1, g', hk, ⟨g, hg, hp⟩ => by
    obtain ⟨h1, h2⟩ := what_place (by omega) hg
    have hsame : ∀ j, j < n → (byWhat L (t - k) g j ↔ byPlace L (t - k) g j) := fun j hj => (h2 j hj).2.2 (t - k) (Nat.le_refl _)
    have hrun : ∀ l h, Run (byPlace L (t - k) g) n l h → Run (byWhat L (t - k) g) n l h := by
      intro l h ⟨r1, r2, r3, r4, r5⟩
      refine ⟨r1, r2, fun j a b => (hsame j (by omega)).2 (r3 j a b), ?_, ?_⟩
      · rcases r4 with r4 | r4
        · exact .inl r4
        · exact .inr fun hh => r4 ((hsame _ (by omega)).1 hh)
      · rcases Nat.lt_or_ge h n with hn | hn
        · rcases r5 with r5 | r5
          · exact .inl r5
          · exact .inr fun hh => r5 ((hsame _ hn).1 hh)
        · exact .inl (by omega)
    have hp' : Passed (byPlace L (t - k) g) n g g' := fun j hj =>
      ⟨fun hn => (hp j hj).1 fun hh => hn ((hsame j hj).1 hh), fun l h hr a b => (hp j hj).2 l h (hrun l h hr) a b⟩
    refine ⟨⟨g, h1, hp'⟩, fun j hj => ?_⟩
    by_cases hj' : byPlace L (t - k) g j
    · obtain ⟨l, h, hr, a, b⟩ := run_low hj hj'
      have e := (hp' j hj).2 l h hr a b
      have hlt : l + h - 1 - j < n := by have := hr.2.1; omega
      obtain ⟨c1, c2, c3⟩ := h2 (l + h - 1 - j) hlt
      rw [e]
      refine ⟨c1, c2, fun m' hm => ?_⟩
      have x1 : byPlace L (t - k) g (l + h - 1 - j) := hr.2.2.1 _ (by omega) (by omega)
      unfold byPlace at x1 hj'
      have := c3 m' (by omega)
      constructor
      · intro _; omega
      · intro _; exact this.2 (by omega)
    · rw [(hp' j hj).1 hj']
      obtain ⟨c1, c2, c3⟩ := h2 j hj
      exact ⟨c1, c2, fun m' hm => c3 m' (by omega)⟩
theorem place_one {L : Nat → Int} {n t : Nat} : ∀ {k : Nat} {f g : Nat → Int}, Passes (byPlace L) n t k f → Passes (byPlace L) n t k g → ∀ j, j < n → f j = g j
  | 0, f, g, hf, hg, j, hj => by rw [hf j hj, hg j hj]
  | k + 1, f', g', ⟨f, hf, pf⟩, ⟨g, hg, pg⟩, j, hj => by
    have ih := place_one hf hg
    by_cases hj' : byPlace L (t - k) f j
    · obtain ⟨l, h, hr, a, b⟩ := run_low hj hj'
      have hlt : l + h - 1 - j < n := by have := hr.2.1; omega
      rw [(pf j hj).2 l h hr a b, (pg j hj).2 l h hr a b, ih _ hlt]
    · rw [(pf j hj).1 hj', (pg j hj).1 hj', ih j hj]
end Go.Law.Bidi
