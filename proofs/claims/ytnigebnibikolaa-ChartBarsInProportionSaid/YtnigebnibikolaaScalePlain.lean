/-
  The plain law behind ScaleFindsLeastStep: the steps 1, 2, 5, 10, .. and what each makes of two numbers.
-/
namespace Go.Law.Scale

/-- the steps -/
def S : Nat → Int
  | 0 => 1
  | 1 => 2
  | 2 => 5
  | n + 3 => 10 * S n
def c (m : Nat) : Int := match m with | 0 => 1 | 1 => 2 | _ => 5
theorem S_pow (m : Nat) (hm : m < 3) : ∀ n, S (3 * n + m) = c m * 10 ^ n
  | 0 => by match m, hm with | 0, _ => rfl | 1, _ => rfl | 2, _ => rfl
  | n + 1 => by
    have e : 3 * (n + 1) + m = (3 * n + m) + 3 := by omega
    rw [e, S, S_pow m hm n, Int.pow_succ]
    rw [Int.mul_comm (10 ^ n) 10, Int.mul_left_comm]
theorem S_pos : ∀ i, 1 ≤ S i
  | 0 => by decide
  | 1 => by decide
  | 2 => by decide
  | n + 3 => by have := S_pos n; rw [S]; omega
theorem S_le : ∀ i, i ≤ 39 → S i ≤ 10000000000000 := by
  intro i hi
  have : ∀ j : Fin 40, S j.1 ≤ 10000000000000 := by decide
  exact this ⟨i, by omega⟩
theorem pow_le (n : Nat) (h : 3 * n ≤ 39) : 1 ≤ (10 : Int) ^ n ∧ (10 : Int) ^ n ≤ 10000000000000 := by
  have := S_pow 0 (by omega) n
  rw [show c 0 = 1 from rfl, Int.one_mul, Nat.add_zero] at this
  rw [← this]
  exact ⟨S_pos _, S_le _ h⟩
theorem c_le (m : Nat) : 1 ≤ c m ∧ c m ≤ 5 := by
  match m with
  | 0 => decide
  | 1 => decide
  | _ + 2 => exact ⟨by show (1 : Int) ≤ 5; omega, by show (5 : Int) ≤ 5; omega⟩
theorem S_next (k : Nat) : S (k + 1) = if (k : Int) % 3 = 1 then (S k * 2) / 4 * 5 else S k * 2 := by
  induction k using Nat.strongRecOn with
  | _ k ih =>
    match k with
    | 0 => rfl
    | 1 => rfl
    | 2 => rfl
    | n + 3 =>
      have h := ih n (by omega)
      have e : n + 3 + 1 = (n + 1) + 3 := by omega
      rw [e, S, S, h]
      have h3 : ((n + 3 : Nat) : Int) % 3 = (n : Int) % 3 := by omega
      rw [h3]
      split
      · rename_i hm
        have hp : ∃ t, S n = 2 * t := by
          have hn : n = 3 * (n / 3) + 1 := by omega
          rw [hn, S_pow 1 (by omega)]
          exact ⟨10 ^ (n / 3), rfl⟩
        obtain ⟨t, ht⟩ := hp
        rw [ht]; omega
      · omega

/-- the first and the last multiple -/
def A (low : Int) (s : Int) : Int := low / s
def B (high : Int) (s : Int) : Int := -((-high) / s)
def T (low high : Int) (s : Int) : Int := if A low s = B high s then B high s + 1 else B high s
def FitsIn (low high steps : Int) (i : Nat) : Prop := T low high (S i) - A low (S i) ≤ steps

theorem A_bd {low s : Int} (hs : 1 ≤ s) : low / s * s ≤ low ∧ low < low / s * s + s := by
  have h1 := Int.mul_ediv_add_emod low s
  have h2 := Int.emod_nonneg low (show s ≠ 0 by omega)
  have h3 := Int.emod_lt_of_pos low (show 0 < s by omega)
  rw [Int.mul_comm] at h1
  constructor <;> omega
theorem B_bd {high s : Int} (hs : 1 ≤ s) : high ≤ -((-high) / s) * s ∧ -((-high) / s) * s < high + s := by
  have h := A_bd (low := -high) hs
  rw [Int.neg_mul]
  constructor <;> omega
theorem abs_bd {a s m : Int} (hs : 1 ≤ s) (h0 : 0 ≤ m) (h1 : -m ≤ a) (h2 : a ≤ m) : -m ≤ a / s ∧ a / s ≤ m := by
  constructor
  · by_cases h : 0 ≤ a
    · have := Int.ediv_nonneg h (show (0 : Int) ≤ s by omega); omega
    · have h3 := (A_bd (low := a) hs).2
      apply Classical.byContradiction
      intro hn
      have : a / s ≤ -m - 1 := by omega
      have h4 : a / s * s ≤ (-m - 1) * s := Int.mul_le_mul_of_nonneg_right this (by omega)
      have h5 : (-m - 1) * s = -(m * s) - s := by rw [Int.sub_mul, Int.neg_mul, Int.one_mul]
      have h6 : m * 1 ≤ m * s := Int.mul_le_mul_of_nonneg_left hs h0
      omega
  · by_cases h : 0 ≤ a
    · have := Int.ediv_le_self s h; omega
    · have : a / s < 0 := Int.ediv_neg_of_neg_of_pos (by omega) (by omega)
      omega
theorem good_last {low high steps : Int} (hs : 2 ≤ steps) (h1 : -1000000000000 ≤ low) (h2 : high ≤ 1000000000000) (h : low ≤ high) : FitsIn low high steps 39 := by
  have e : S 39 = 10000000000000 := by decide
  unfold FitsIn T A B
  rw [e]
  split <;> omega

/-- The least step that is great enough. -/
theorem least {p : Nat → Prop} : ∀ n, p n → ∃ i, i ≤ n ∧ p i ∧ ∀ j, j < i → ¬ p j := by
  intro n
  induction n using Nat.strongRecOn with
  | _ n ih =>
    intro hn
    by_cases h : ∃ j, j < n ∧ p j
    · obtain ⟨j, hj, hp⟩ := h
      obtain ⟨i, h1, h2, h3⟩ := ih j hj hp
      exact ⟨i, by omega, h2, h3⟩
    · exact ⟨n, Nat.le_refl _, hn, fun j hj hp => h ⟨j, hj, hp⟩⟩

/-- The reference's last multiple. -/
theorem T_ref {low high s : Int} (hs : 1 ≤ s) (h : low ≤ high) : T low high s = if high / s * s < high ∨ low / s = high / s then high / s + 1 else high / s := by
  have h1 := A_bd (low := high) hs
  have h2 := A_bd (low := -high) hs
  have hm : low / s ≤ high / s := Int.ediv_le_ediv (by omega) h
  have key : ∀ x y : Int, x * s < y * s → x < y := fun x y hx => Int.lt_of_mul_lt_mul_right hx (by omega)
  unfold T A B
  by_cases hd : high / s * s < high
  · have e : -((-high) / s) = high / s + 1 := by
      have a1 := key (high / s) (-((-high) / s)) (by rw [Int.neg_mul]; omega)
      have a2 := key (-((-high) / s)) (high / s + 2) (by rw [Int.neg_mul, Int.add_mul]; omega)
      omega
    rw [e, if_neg (show ¬ low / s = high / s + 1 by omega), if_pos (Or.inl hd)]
  · have e : -((-high) / s) = high / s := by
      have a1 := key (high / s) (-((-high) / s) + 1) (by rw [Int.add_mul, Int.neg_mul]; omega)
      have a2 := key (-((-high) / s)) (high / s + 1) (by rw [Int.neg_mul, Int.add_mul]; omega)
      omega
    rw [e]
    by_cases h3 : low / s = high / s
    · rw [if_pos h3, if_pos (Or.inr h3)]
    · rw [if_neg h3, if_neg (show ¬ (high / s * s < high ∨ low / s = high / s) by intro hh; rcases hh with hh | hh; exact hd hh; exact h3 hh)]

theorem tdiv_floor (a b : Int) (hb : 1 ≤ b) : a.tdiv b = if a.tmod b < 0 then a / b + 1 else a / b := by
  by_cases h : 0 ≤ a
  · rw [Int.tdiv_eq_ediv_of_nonneg h, Int.tmod_eq_emod_of_nonneg h, if_neg]
    have := Int.emod_nonneg a (show b ≠ 0 by omega); omega
  · rw [Int.tdiv_eq_ediv, Int.tmod_eq_emod]
    have h3 := Int.emod_lt_of_pos a (show 0 < b by omega)
    by_cases hd : b ∣ a
    · have h2 := Int.emod_eq_zero_of_dvd hd
      have hp : 0 ≤ a ∨ b ∣ a := Or.inr hd
      simp only [if_pos hp]
      rw [if_neg (by omega)]; omega
    · have hn : ¬ (0 ≤ a ∨ b ∣ a) := by intro hh; rcases hh with hh | hh; exact h hh; exact hd hh
      have hab : (b.natAbs : Int) = b := by omega
      simp only [if_neg hn]
      rw [hab, if_pos (by omega), Int.sign_eq_one_of_pos (by omega)]
theorem tdiv_down (a b : Int) (hb : 1 ≤ b) : a.tdiv b = if a < a.tdiv b * b then a / b + 1 else a / b := by
  have h := A_bd (low := a) hb
  by_cases h0 : a.tmod b < 0
  · have e := tdiv_floor a b hb
    rw [if_pos h0] at e
    rw [e, if_pos]
    rw [Int.add_mul]; omega
  · have e := tdiv_floor a b hb
    rw [if_neg h0] at e
    rw [e, if_neg]
    omega
end Go.Law.Scale
