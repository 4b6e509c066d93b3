/-
  The best way: plain laws.
-/
import Derived.Test.YtnigebnibikolaaLnEndsP
namespace Go.Law.Ln
open Go.Law
set_option linter.unusedVariables false
abbrev Pl := Nat × Int × Nat
def better (acc : Option Pl) (z : Nat) (c : Int) (k : Nat) : Option Pl :=
  match acc with
  | none => some (z, c, k)
  | some p => if c < p.2.1 ∨ (c = p.2.1 ∧ k ≤ p.2.2) then some (z, c, k) else some p
section
variable (n : Nat) (L : Nat → Part) (nw : Nat) (W : Nat → Int) (D : Int)
/-- what a line costs with all that follows it, and how many lines there are -/
def wayC (rec : Nat → Nat → Bool → Pl) (num : Nat) (flag : Bool) (x : Line) : Int × Nat :=
  if lastB n L x.z = true then (costF n L x + dblF n L D flag x.z, 1)
  else (costF n L x + dblF n L D flag x.z + (rec (aftF n L x.z) (num + 1) (flgB n L x.z)).2.1, 1 + (rec (aftF n L x.z) (num + 1) (flgB n L x.z)).2.2)
def stepB (rec : Nat → Nat → Bool → Pl) (num : Nat) (flag : Bool) (acc : Option Pl) (x : Line) : Option Pl := better acc x.z (wayC n L D rec num flag x).1 (wayC n L D rec num flag x).2
def bestG : Nat → Nat → Nat → Bool → Pl
  | 0, _, _, _ => (0, 0, 0)
  | f + 1, a, num, flag => ((endF n L nw W a num).foldl (stepB n L D (bestG f) num flag) none).getD (0, 0, 0)
def bestF (a num : Nat) (flag : Bool) : Pl := bestG n L nw W D (n + 1 - a) a num flag
end
section
variable {n : Nat} {L : Nat → Part} {nw : Nat} {W : Nat → Int} {D : Int}
theorem endG_mem {a num : Nat} : ∀ (f z : Nat) (first : Bool), a ≤ z → z + f ≤ n + 1 → ∀ x ∈ endG n L nw W a num f z first, x = lineF n L nw W a x.z num ∧ a ≤ x.z ∧ x.z ≤ n
  | 0, z, first, _, _, x, hx => by simp [endG] at hx
  | f + 1, z, first, ha, hz, x, hx => by
    have hrec : ∀ fr, x ∈ (if mustB n L z = true then [] else endG n L nw W a num f (z + 1) fr) → x = lineF n L nw W a x.z num ∧ a ≤ x.z ∧ x.z ≤ n := by
      intro fr h
      split at h
      · cases h
      · exact endG_mem f (z + 1) fr (by omega) (by omega) x h
    cases ho : okB n L a z
    · rw [endG_no ho] at hx
      exact endG_mem f (z + 1) first (by omega) (by omega) x hx
    · cases hf : (!fullB (lineF n L nw W a z num) || first)
      · rw [endG_skip ho hf] at hx
        exact hrec _ hx
      · rw [endG_add ho hf] at hx
        rcases List.mem_cons.1 hx with rfl | hx
        · exact ⟨rfl, ha, show z ≤ n by omega⟩
        · exact hrec _ hx
theorem endF_mem {a num : Nat} {x : Line} (ha : a ≤ n) (hx : x ∈ endF n L nw W a num) : x = lineF n L nw W a x.z num ∧ a ≤ x.z ∧ x.z ≤ n :=
  endG_mem _ _ _ (Nat.le_refl _) (by omega) x hx
theorem endG_some {a num : Nat} : ∀ (f z : Nat), z + (f + 1) = n + 1 → endG n L nw W a num (f + 1) z true ≠ [] := by
  intro f
  induction f with
  | zero =>
    intro z hz
    obtain rfl : z = n := by omega
    rw [endG_add (okB_must (mustB_end _ _)) (by simp)]
    simp
  | succ f ih =>
    intro z hz
    cases ho : okB n L a z
    · rw [endG_no ho]; exact ih (z + 1) (by omega)
    · rw [endG_add ho (by simp)]; simp
theorem endF_some {a num : Nat} (ha : a ≤ n) : endF n L nw W a num ≠ [] := by
  unfold endF
  obtain ⟨f, hf⟩ : ∃ f, n + 1 - a = f + 1 := ⟨n - a, by omega⟩
  rw [hf]
  exact endG_some f a (by omega)
theorem endF_num (a num : Nat) : endF n L nw W a num = endF n L nw W a (min num (nw - 1)) := by
  have hl : ∀ z, lineF n L nw W a z num = lineF n L nw W a z (min num (nw - 1)) := by
    intro z
    unfold lineF
    rw [show min (min num (nw - 1)) (nw - 1) = min num (nw - 1) by omega]
  have : ∀ (f z : Nat) (first : Bool), endG n L nw W a num f z first = endG n L nw W a (min num (nw - 1)) f z first := by
    intro f
    induction f with
    | zero => intro z first; rfl
    | succ f ih => intro z first; simp only [endG, hl, ih]
  exact this _ _ _
theorem aftF_gt {z : Nat} (hz : z ≤ n) (h : lastB n L z = false) : z < aftF n L z ∧ aftF n L z < n := by
  have hn : z ≠ n := by
    rintro rfl
    unfold lastB aftF at h
    simp at h
  unfold lastB at h
  have h1 := begF_ge (n := n) (L := L) (i := z + 1) (by omega)
  unfold aftF at h ⊢
  rw [if_neg hn] at h ⊢
  have : begF n L (z + 1) ≠ n := by simpa using h
  omega
theorem foldl_same {α β : Type} {f g : β → α → β} : ∀ (l : List α) (b : β), (∀ b x, x ∈ l → f b x = g b x) → l.foldl f b = l.foldl g b
  | [], _, _ => rfl
  | x :: l, b, h => by
    rw [List.foldl_cons, List.foldl_cons, h b x (by simp)]
    exact foldl_same l _ (fun b y hy => h b y (by simp [hy]))
theorem stepB_same {rec rec' : Nat → Nat → Bool → Pl} {num num' : Nat} {flag : Bool} {acc : Option Pl} {x : Line} (h : lastB n L x.z = false → rec (aftF n L x.z) (num + 1) (flgB n L x.z) = rec' (aftF n L x.z) (num' + 1) (flgB n L x.z)) :
    stepB n L D rec num flag acc x = stepB n L D rec' num' flag acc x := by
  unfold stepB wayC
  cases hl : lastB n L x.z
  · rw [h hl]
  · simp
theorem bestG_fuel : ∀ (f g a num : Nat) (flag : Bool), a ≤ n → n + 1 - a ≤ f → n + 1 - a ≤ g → bestG n L nw W D f a num flag = bestG n L nw W D g a num flag := by
  intro f
  induction f with
  | zero => intro g a num flag ha h1 h2; omega
  | succ f ih =>
    intro g a num flag ha h1 h2
    obtain ⟨g', rfl⟩ : ∃ g', g = g' + 1 := ⟨g - 1, by omega⟩
    simp only [bestG]
    rw [foldl_same _ none (fun acc x hx => stepB_same (rec' := bestG n L nw W D g') (num' := num) (fun hl => by
      obtain ⟨_, hx1, hx2⟩ := endF_mem ha hx
      have := aftF_gt hx2 hl
      exact ih g' _ _ _ (by omega) (by omega) (by omega)))]
theorem bestF_eq {a num : Nat} {flag : Bool} (ha : a ≤ n) : bestF n L nw W D a num flag = ((endF n L nw W a num).foldl (stepB n L D (bestF n L nw W D) num flag) none).getD (0, 0, 0) := by
  unfold bestF
  obtain ⟨f, hf⟩ : ∃ f, n + 1 - a = f + 1 := ⟨n - a, by omega⟩
  rw [hf]
  simp only [bestG]
  rw [foldl_same _ none (fun acc x hx => stepB_same (rec' := fun a num flag => bestG n L nw W D (n + 1 - a) a num flag) (num' := num) (fun hl => by
    obtain ⟨_, hx1, hx2⟩ := endF_mem ha hx
    have := aftF_gt hx2 hl
    exact bestG_fuel f _ _ _ _ (by omega) (by omega) (Nat.le_refl _)))]
theorem bestF_num : ∀ (f a num : Nat) (flag : Bool), a ≤ n → n + 1 - a ≤ f → bestF n L nw W D a num flag = bestF n L nw W D a (min num (nw - 1)) flag := by
  intro f
  induction f with
  | zero => intro a num flag ha h; omega
  | succ f ih =>
    intro a num flag ha h
    rw [bestF_eq ha, bestF_eq ha, endF_num a num]
    rw [foldl_same _ none (fun acc x hx => stepB_same (rec' := bestF n L nw W D) (num' := min num (nw - 1)) (fun hl => by
      obtain ⟨_, hx1, hx2⟩ := endF_mem ha hx
      have := aftF_gt hx2 hl
      rw [ih _ (num + 1) _ (by omega) (by omega), ih _ (min num (nw - 1) + 1) _ (by omega) (by omega)]
      rw [show min (min num (nw - 1) + 1) (nw - 1) = min (num + 1) (nw - 1) by omega]))]
theorem better_some (acc : Option Pl) (z : Nat) (c : Int) (k : Nat) : ∃ p, better acc z c k = some p ∧ (p = (z, c, k) ∨ acc = some p) := by
  unfold better
  cases acc with
  | none => exact ⟨_, rfl, .inl rfl⟩
  | some q =>
    by_cases h : c < q.2.1 ∨ (c = q.2.1 ∧ k ≤ q.2.2)
    · exact ⟨_, if_pos h, .inl rfl⟩
    · exact ⟨_, if_neg h, .inr rfl⟩
/-- what holds of each candidate holds of the best -/
theorem fold_all {P : Pl → Prop} {rec : Nat → Nat → Bool → Pl} {num : Nat} {flag : Bool} : ∀ (l : List Line) (acc : Option Pl), (∀ p, acc = some p → P p) → (∀ x ∈ l, P (x.z, (wayC n L D rec num flag x).1, (wayC n L D rec num flag x).2)) →
    ∀ p, l.foldl (stepB n L D rec num flag) acc = some p → P p
  | [], acc, h1, _, p, hp => h1 p hp
  | x :: l, acc, h1, h2, p, hp => by
    rw [List.foldl_cons] at hp
    refine fold_all l _ (fun q hq => ?_) (fun y hy => h2 y (by simp [hy])) p hp
    unfold stepB at hq
    obtain ⟨r, hr, hr2⟩ := better_some acc x.z (wayC n L D rec num flag x).1 (wayC n L D rec num flag x).2
    rw [hr] at hq
    obtain rfl := Option.some.inj hq
    rcases hr2 with rfl | hr2
    · exact h2 x (by simp)
    · exact h1 _ hr2
theorem fold_some {rec : Nat → Nat → Bool → Pl} {num : Nat} {flag : Bool} : ∀ (l : List Line) (acc : Option Pl), (acc ≠ none ∨ l ≠ []) → ∃ p, l.foldl (stepB n L D rec num flag) acc = some p
  | [], acc, h => by
    cases acc with
    | none => simp at h
    | some p => exact ⟨p, rfl⟩
  | x :: l, acc, _ => by
    rw [List.foldl_cons]
    refine fold_some l _ (.inl ?_)
    unfold stepB
    obtain ⟨r, hr, _⟩ := better_some acc x.z (wayC n L D rec num flag x).1 (wayC n L D rec num flag x).2
    rw [hr]; simp
end
end Go.Law.Ln
