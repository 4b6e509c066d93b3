/-
  Shares in plain Lean: the greatest remainders are rounded up, the first ones first; taking the best one 'left' times takes those that fewer than 'left' come before.
-/
namespace Go.Law.Ch
/-- the sum of the first n -/
def sumI (f : Nat → Int) : Nat → Int
  | 0 => 0
  | n + 1 => sumI f n + f n
def cntB (p : Nat → Bool) : Nat → Nat
  | 0 => 0
  | n + 1 => cntB p n + (if p n = true then 1 else 0)
theorem sumI_succ (f : Nat → Int) (n : Nat) : sumI f (n + 1) = sumI f n + f n := rfl
theorem sumI_bounds {f : Nat → Int} {M : Int} {n : Nat} (h : ∀ i, i < n → 0 ≤ f i ∧ f i ≤ M) : 0 ≤ sumI f n ∧ sumI f n ≤ M * n := by
  induction n with
  | zero => simp [sumI]
  | succ n ih =>
    have h1 := ih (fun i hi => h i (by omega))
    have h2 := h n (by omega)
    rw [sumI_succ, show ((n + 1 : Nat) : Int) = (n : Int) + 1 by omega, Int.mul_add, Int.mul_one]
    omega
theorem sumI_mono {f : Nat → Int} {n k : Nat} (h : ∀ i, i < n → 0 ≤ f i) (hk : k ≤ n) : sumI f k ≤ sumI f n := by
  induction n with
  | zero => rw [show k = 0 by omega]; exact Int.le_refl _
  | succ n ih =>
    rcases Nat.lt_or_ge n k with h1 | h1
    · rw [show k = n + 1 by omega]; exact Int.le_refl _
    · have h2 := ih (fun i hi => h i (by omega)) h1
      have h3 := h n (by omega)
      rw [sumI_succ]; omega
theorem le_sumI {f : Nat → Int} {n k : Nat} (h : ∀ i, i < n → 0 ≤ f i) (hk : k < n) : f k ≤ sumI f n := by
  have h1 := sumI_mono h (show k + 1 ≤ n by omega)
  have h2 : 0 ≤ sumI f k := by
    have := sumI_mono (k := 0) (n := k) (f := f) (fun i hi => h i (by omega)) (by omega)
    simpa [sumI] using this
  rw [sumI_succ] at h1; omega
theorem sumI_congr {f g : Nat → Int} {n : Nat} (h : ∀ i, i < n → f i = g i) : sumI f n = sumI g n := by
  induction n with
  | zero => rfl
  | succ n ih => rw [sumI_succ, sumI_succ, ih (fun i hi => h i (by omega)), h n (by omega)]
theorem cntB_le {p : Nat → Bool} {n : Nat} : cntB p n ≤ n := by
  induction n with
  | zero => exact Nat.le_refl _
  | succ n ih => simp only [cntB]; split <;> omega
theorem cntB_mono {p q : Nat → Bool} {n : Nat} (h : ∀ i, i < n → p i = true → q i = true) : cntB p n ≤ cntB q n := by
  induction n with
  | zero => exact Nat.le_refl _
  | succ n ih =>
    have h1 := ih (fun i hi => h i (by omega))
    have h2 := h n (by omega)
    simp only [cntB]
    by_cases hp : p n = true
    · rw [if_pos hp, if_pos (h2 hp)]; omega
    · rw [if_neg hp]; split <;> omega
theorem cntB_lt {p q : Nat → Bool} {n j : Nat} (h : ∀ i, i < n → p i = true → q i = true) (hj : j < n) (h1 : p j = false) (h2 : q j = true) : cntB p n < cntB q n := by
  induction n with
  | zero => omega
  | succ n ih =>
    have h4 := h n (by omega)
    simp only [cntB]
    by_cases hjn : j = n
    · subst hjn
      have h3 := cntB_mono (n := j) (fun i hi => h i (by omega))
      rw [if_neg (by rw [h1]; simp), if_pos h2]; omega
    · have h3 := ih (fun i hi => h i (by omega)) (by omega)
      by_cases hp : p n = true
      · rw [if_pos hp, if_pos (h4 hp)]; omega
      · rw [if_neg hp]; split <;> omega
theorem cntB_all {p : Nat → Bool} {n : Nat} (h : ∀ i, i < n → p i = true) : cntB p n = n := by
  induction n with
  | zero => rfl
  | succ n ih => simp only [cntB]; rw [ih (fun i hi => h i (by omega)), if_pos (h n (by omega))]
theorem cntB_none {p : Nat → Bool} {n : Nat} (h : ∀ i, i < n → p i = false) : cntB p n = 0 := by
  induction n with
  | zero => rfl
  | succ n ih => simp only [cntB]; rw [ih (fun i hi => h i (by omega)), if_neg (by rw [h n (by omega)]; simp)]
def updB (U : Nat → Bool) (b : Nat) : Nat → Bool := fun j => if j = b then true else U j
theorem cntB_upd {U : Nat → Bool} {b n : Nat} (hb : b < n) (hU : U b = false) : cntB (updB U b) n = cntB U n + 1 := by
  induction n with
  | zero => omega
  | succ n ih =>
    simp only [cntB]
    by_cases hbn : b = n
    · subst hbn
      have e : cntB (updB U b) b = cntB U b := by
        refine Nat.le_antisymm (cntB_mono fun i hi h => ?_) (cntB_mono fun i hi h => ?_)
        · unfold updB at h; rw [if_neg (by omega)] at h; exact h
        · unfold updB; rw [if_neg (by omega)]; exact h
      rw [e, if_pos (by unfold updB; rw [if_pos rfl]), if_neg (by rw [hU]; simp)]
    · rw [ih (by omega)]
      have e : updB U b n = U n := by unfold updB; rw [if_neg (by omega)]
      rw [e]
      omega
/-- k comes before i: by its remainder, or by its place -/
def ahead (r : Nat → Int) (k i : Nat) : Bool := decide (r i < r k) || (decide (r k = r i) && decide (k < i))
theorem ahead_iff {r : Nat → Int} {k i : Nat} : ahead r k i = true ↔ (r i < r k ∨ (r k = r i ∧ k < i)) := by simp [ahead]
def rank (r : Nat → Int) (n i : Nat) : Nat := cntB (fun k => ahead r k i) n
/-- U holds the t best -/
def Best (r : Nat → Int) (n t : Nat) (U : Nat → Bool) : Prop := cntB U n = t ∧ ∀ i j, i < n → j < n → U i = true → U j = false → ahead r i j = true
theorem Best.zero (r : Nat → Int) (n : Nat) : Best r n 0 (fun _ => false) := ⟨cntB_none fun _ _ => rfl, fun i j _ _ h => by cases h⟩
theorem Best.step {r : Nat → Int} {n t : Nat} {U : Nat → Bool} (h : Best r n t U) {b : Nat} (hb : b < n) (hU : U b = false) (hbest : ∀ j, j < n → U j = false → j ≠ b → ahead r b j = true) : Best r n (t + 1) (updB U b) := by
  obtain ⟨h1, h2⟩ := h
  refine ⟨by rw [cntB_upd hb hU, h1], fun i j hi hj hi' hj' => ?_⟩
  unfold updB at hi' hj'
  by_cases hjb : j = b
  · rw [if_pos hjb] at hj'; cases hj'
  · rw [if_neg hjb] at hj'
    by_cases hib : i = b
    · rw [hib]; exact hbest j hj hj' hjb
    · rw [if_neg hib] at hi'
      exact h2 i j hi hj hi' hj'
theorem Best.rank {r : Nat → Int} {n t : Nat} {U : Nat → Bool} (h : Best r n t U) {i : Nat} (hi : i < n) : (U i = true ↔ rank r n i < t) := by
  obtain ⟨h1, h2⟩ := h
  constructor
  · intro hu
    rw [← h1]
    refine cntB_lt (j := i) (fun k hk hp => ?_) hi ?_ hu
    · cases hk' : U k
      · have h3 := h2 i k hi hk hu hk'
        rw [ahead_iff] at h3
        have h4 : ahead r k i = true := hp
        rw [ahead_iff] at h4
        omega
      · rfl
    · show ahead r i i = false
      cases hh : ahead r i i
      · rfl
      · rw [ahead_iff] at hh; omega
  · intro hr
    cases hu : U i
    · exfalso
      have h3 : cntB U n ≤ cntB (fun k => ahead r k i) n := cntB_mono fun k hk hp => h2 k i hk hi hp hu
      unfold Ch.rank at hr
      omega
    · rfl
/-- the best of the first k that U does not hold; -1 if there is none -/
def Top (r : Nat → Int) (U : Nat → Bool) (k : Nat) (b : Int) : Prop :=
  (b = -1 ∧ ∀ j, j < k → U j = true) ∨ ∃ n : Nat, b = n ∧ n < k ∧ U n = false ∧ ∀ j, j < k → U j = false → j ≠ n → ahead r n j = true
theorem Top.zero (r : Nat → Int) (U : Nat → Bool) : Top r U 0 (-1) := .inl ⟨rfl, fun j hj => by omega⟩
theorem Top.skip {r : Nat → Int} {U : Nat → Bool} {k : Nat} {b : Int} (h : Top r U k b) (hu : U k = true) : Top r U (k + 1) b := by
  rcases h with ⟨h1, h2⟩ | ⟨n, h1, h2, h3, h4⟩
  · exact .inl ⟨h1, fun j hj => by rcases Nat.lt_or_ge j k with h | h; exact h2 j h; rw [show j = k by omega]; exact hu⟩
  · refine .inr ⟨n, h1, by omega, h3, fun j hj hj' hne => ?_⟩
    rcases Nat.lt_or_ge j k with h | h
    · exact h4 j h hj' hne
    · rw [show j = k by omega, hu] at hj'; cases hj'
theorem Top.first {r : Nat → Int} {U : Nat → Bool} {k : Nat} (h : Top r U k (-1)) (hu : U k = false) : Top r U (k + 1) k := by
  rcases h with ⟨h1, h2⟩ | ⟨n, h1, h2, h3, h4⟩
  · refine .inr ⟨k, rfl, by omega, hu, fun j hj hj' hne => ?_⟩
    rw [h2 j (by omega)] at hj'; cases hj'
  · omega
theorem Top.more {r : Nat → Int} {U : Nat → Bool} {k n : Nat} (h : Top r U k n) (hu : U k = false) (hr : r n < r k) : Top r U (k + 1) k := by
  rcases h with ⟨h1, h2⟩ | ⟨m, h1, h2, h3, h4⟩
  · omega
  · obtain rfl : n = m := by omega
    refine .inr ⟨k, rfl, by omega, hu, fun j hj hj' hne => ?_⟩
    rw [ahead_iff]
    by_cases hjn : j = n
    · rw [hjn]; exact .inl hr
    · have := h4 j (by omega) hj' hjn
      rw [ahead_iff] at this
      omega
theorem Top.less {r : Nat → Int} {U : Nat → Bool} {k n : Nat} (h : Top r U k n) (hr : r k ≤ r n) : Top r U (k + 1) n := by
  rcases h with ⟨h1, h2⟩ | ⟨m, h1, h2, h3, h4⟩
  · omega
  · obtain rfl : n = m := by omega
    refine .inr ⟨n, rfl, by omega, h3, fun j hj hj' hne => ?_⟩
    rcases Nat.lt_or_ge j k with h | h
    · exact h4 j h hj' hne
    · rw [show j = k by omega, ahead_iff]
      omega
theorem Top.done {r : Nat → Int} {U : Nat → Bool} {n t : Nat} {b : Int} (h : Top r U n b) (hB : Best r n t U) (ht : t < n) : ∃ m : Nat, b = m ∧ m < n ∧ U m = false ∧ Best r n (t + 1) (updB U m) := by
  rcases h with ⟨h1, h2⟩ | ⟨m, h1, h2, h3, h4⟩
  · have := cntB_all h2
    rw [hB.1] at this
    omega
  · exact ⟨m, h1, h2, h3, hB.step h2 h3 h4⟩
def quo (f : Nat → Int) (A : Int) : Nat → Int := fun i => 1000 * f i / A
def rem (f : Nat → Int) (A : Int) : Nat → Int := fun i => 1000 * f i % A
theorem quo_sum {f : Nat → Int} {A : Int} (n : Nat) : A * sumI (quo f A) n + sumI (rem f A) n = 1000 * sumI f n := by
  induction n with
  | zero => simp [sumI]
  | succ n ih =>
    simp only [sumI_succ]
    have h1 := Int.mul_ediv_add_emod (1000 * f n) A
    have h2 : A * quo f A n + rem f A n = 1000 * f n := h1
    rw [Int.mul_add, Int.mul_add]
    omega
theorem quo_left {f : Nat → Int} {n : Nat} (hA : 0 < sumI f n) :
    0 ≤ 1000 - sumI (quo f (sumI f n)) n ∧ 1000 - sumI (quo f (sumI f n)) n ≤ n := by
  have h1 := quo_sum (f := f) (A := sumI f n) n
  have h2 : 0 ≤ sumI (rem f (sumI f n)) n ∧ sumI (rem f (sumI f n)) n ≤ sumI f n * n := by
    refine sumI_bounds fun i hi => ⟨Int.emod_nonneg _ (by omega), ?_⟩
    have := Int.emod_lt_of_pos (1000 * f i) hA
    show 1000 * f i % sumI f n ≤ _
    omega
  obtain ⟨S, hS⟩ : ∃ S, S = sumI (quo f (sumI f n)) n := ⟨_, rfl⟩
  obtain ⟨A, hA'⟩ : ∃ A, A = sumI f n := ⟨_, rfl⟩
  obtain ⟨R, hR⟩ : ∃ R, R = sumI (rem f (sumI f n)) n := ⟨_, rfl⟩
  rw [← hS, ← hR, ← hA'] at h1
  rw [← hR, ← hA'] at h2
  rw [← hS]
  rw [← hA'] at hA
  have h3 : A * (1000 - S) = R := by rw [Int.mul_sub]; omega
  constructor
  · refine Int.le_of_mul_le_mul_left ?_ hA
    rw [Int.mul_zero, h3]; exact h2.1
  · refine Int.le_of_mul_le_mul_left ?_ hA
    rw [h3]; exact h2.2
theorem quo_bounds {f : Nat → Int} {n k : Nat} (hf : ∀ i, i < n → 0 ≤ f i) (hA : 0 < sumI f n) (hk : k < n) : 0 ≤ quo f (sumI f n) k ∧ quo f (sumI f n) k ≤ 1000 := by
  have h1 := hf k hk
  have h2 := le_sumI hf hk
  constructor
  · exact Int.ediv_nonneg (by omega) (by omega)
  · exact Int.ediv_le_of_le_mul hA (by omega)
/-- the rounded part of value i -/
def shareF (n : Nat) (f : Nat → Int) : Nat → Int := fun i =>
  if sumI f n = 0 then 0 else quo f (sumI f n) i + (if (rank (rem f (sumI f n)) n i : Int) < 1000 - sumI (quo f (sumI f n)) n then 1 else 0)
end Go.Law.Ch
