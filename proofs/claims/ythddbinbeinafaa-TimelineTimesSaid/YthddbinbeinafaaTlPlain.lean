/-
  Effects of slides: what is checked, when they begin and end, what they make of items.
-/
import Derived.Test.YthddbinbeinafaaFirst
namespace Go.Law.Tl
open Go.Law
set_option linter.unusedVariables false
structure Eff where
  item : Int
  kind : Int
  start : Int
  delay : Int
  takes : Int
  x : Int
  y : Int
def Eff.V (p : Eff) (j : Nat) : Value := match j with
  | 0 => .int .i64 p.item
  | 1 => .int .i64 p.kind
  | 2 => .int .i64 p.start
  | 3 => .int .i64 p.delay
  | 4 => .int .i64 p.takes
  | 5 => .int .i64 p.x
  | _ => .int .i64 p.y
def effE (p : Eff) : Int :=
  if ¬ ((0 ≤ p.kind ∧ p.kind ≤ 2) ∧ (0 ≤ p.start ∧ p.start ≤ 2)) then 8
  else if ¬ ((1 ≤ p.item ∧ p.item ≤ 1073741824) ∧ (0 ≤ p.delay ∧ p.delay ≤ 10000000) ∧ (0 ≤ p.takes ∧ p.takes ≤ 10000000) ∧ (-1048576 ≤ p.x ∧ p.x ≤ 1048576) ∧ (-1048576 ≤ p.y ∧ p.y ≤ 1048576)) then 2
  else if p.kind ≠ 2 ∧ (p.x ≠ 0 ∨ p.y ≠ 0) then 4 else 0
structure Eff.Ok (p : Eff) : Prop where
  kind : 0 ≤ p.kind ∧ p.kind ≤ 2
  start : 0 ≤ p.start ∧ p.start ≤ 2
  item : 1 ≤ p.item ∧ p.item ≤ 1073741824
  delay : 0 ≤ p.delay ∧ p.delay ≤ 10000000
  takes : 0 ≤ p.takes ∧ p.takes ≤ 10000000
  x : -1048576 ≤ p.x ∧ p.x ≤ 1048576
  y : -1048576 ≤ p.y ∧ p.y ≤ 1048576
theorem effE_ok {p : Eff} (h : effE p = 0) : p.Ok := by
  unfold effE at h
  split at h
  · omega
  · rename_i h1
    split at h
    · omega
    · rename_i h2
      have h1 := Decidable.not_not.1 h1
      have h2 := Decidable.not_not.1 h2
      exact ⟨h1.1, h1.2, h2.1, h2.2.1, h2.2.2.1, h2.2.2.2.1, h2.2.2.2.2⟩
def effsE (n : Nat) (L : Nat → Eff) : Int := if 200 < n then 3 else firstE (fun i => effE (L i)) n
theorem effsE_large {n : Nat} {L : Nat → Eff} (h : 200 < n) : effsE n L = 3 := by unfold effsE; rw [if_pos h]
theorem effsE_small {n : Nat} {L : Nat → Eff} (h : ¬ 200 < n) : effsE n L = firstE (fun i => effE (L i)) n := by unfold effsE; rw [if_neg h]
theorem effsE_zero {n : Nat} {L : Nat → Eff} (h : effsE n L = 0) : n ≤ 200 ∧ ∀ i, i < n → (L i).Ok := by
  by_cases h1 : 200 < n
  · rw [effsE_large h1] at h; omega
  · rw [effsE_small h1] at h
    exact ⟨by omega, fun i hi => effE_ok (firstE_zero h i hi)⟩
section
variable (L : Nat → Eff)
/-- behind i effects: the clicks, the base of the last one, the end of all since the click -/
def clk : Nat → Int
  | 0 => 0
  | i + 1 => if (L i).start = 0 then clk i + 1 else clk i
def endT (b : Int) (i : Nat) : Int := b + (L i).delay + (L i).takes
mutual
def bas : Nat → Int
  | 0 => 0
  | i + 1 => if (L i).start = 0 then 0 else if (L i).start = 2 then fin i else bas i
def fin : Nat → Int
  | 0 => 0
  | i + 1 => if (L i).start = 0 then max 0 (endT L 0 i) else max (fin i) (endT L (if (L i).start = 2 then fin i else bas i) i)
end
/-- a time: its click, when it begins and ends -/
def tmC (i : Nat) : Int := clk L (i + 1)
def tmF (i : Nat) : Int := bas L (i + 1) + (L i).delay
def tmT (i : Nat) : Int := bas L (i + 1) + (L i).delay + (L i).takes
/-- the greatest end of the first k with the click c -/
def mxE (c : Int) : Nat → Int
  | 0 => 0
  | k + 1 => if tmC L k = c then max (mxE c k) (tmT L k) else mxE c k
end
section
variable {L : Nat → Eff}
theorem fin_succ (i : Nat) : fin L (i + 1) = max (if (L i).start = 0 then 0 else fin L i) (tmT L i) := by
  unfold tmT
  rw [fin, bas]
  unfold endT
  split
  · rfl
  · split <;> rfl
theorem clk_mono : ∀ {i k : Nat}, i ≤ k → clk L i ≤ clk L k
  | i, 0, h => by
    obtain rfl : i = 0 := (by omega)
    exact Int.le_refl _
  | i, k + 1, h => by
    by_cases hk : i = k + 1
    · rw [hk]; exact Int.le_refl _
    · have := clk_mono (i := i) (k := k) (by omega)
      rw [clk]
      split <;> omega
theorem clk_bd : ∀ (i : Nat), 0 ≤ clk L i ∧ clk L i ≤ i
  | 0 => ⟨Int.le_refl _, Int.le_refl _⟩
  | i + 1 => by
    have := clk_bd i
    rw [clk]
    split <;> omega
theorem mxE_none {c : Int} : ∀ (k : Nat), (∀ j, j < k → tmC L j < c) → mxE L c k = 0
  | 0, _ => rfl
  | k + 1, h => by
    have h1 := h k (by omega)
    rw [mxE, if_neg (by omega), mxE_none k (fun j hj => h j (by omega))]
theorem fin_mx : ∀ (i : Nat), fin L i = mxE L (clk L i) i
  | 0 => by rw [fin, mxE]
  | i + 1 => by
    have ih := fin_mx i
    rw [fin_succ, mxE, if_pos (show tmC L i = clk L (i + 1) from rfl)]
    by_cases h : (L i).start = 0
    · rw [if_pos h, clk, if_pos h, mxE_none i (fun j hj => by
        have := clk_mono (L := L) (show j + 1 ≤ i by omega)
        unfold tmC
        omega)]
    · rw [if_neg h, ih, clk, if_neg h]
/-- the bounds of the times -/
theorem fin_bd (n : Nat) (h : ∀ i, i < n → (L i).Ok) : ∀ i, i ≤ n → (0 ≤ bas L i ∧ bas L i ≤ 20000000 * i) ∧ (0 ≤ fin L i ∧ fin L i ≤ 20000000 * i)
  | 0, _ => by rw [bas, fin]; omega
  | i + 1, hi => by
    obtain ⟨h1, h2⟩ := fin_bd n h i (by omega)
    have ho := h i (by omega)
    have hd := ho.delay
    have ht := ho.takes
    rw [bas, fin]
    unfold endT
    split
    · omega
    · split <;> omega
theorem tm_bd {n : Nat} (h : ∀ i, i < n → (L i).Ok) (hn : n ≤ 200) {i : Nat} (hi : i < n) :
    (0 ≤ tmC L i ∧ tmC L i ≤ 200) ∧ (0 ≤ tmF L i ∧ tmF L i ≤ 5000000000) ∧ (0 ≤ tmT L i ∧ tmT L i ≤ 5000000000) ∧ (tmF L i ≤ tmT L i ∧ tmT L i - tmF L i = (L i).takes) ∧ (0 ≤ bas L (i + 1) ∧ bas L (i + 1) ≤ 4000000000) ∧ (0 ≤ bas L i ∧ bas L i ≤ 4000000000) ∧ (0 ≤ fin L i ∧ fin L i ≤ 4000000000) := by
  have h1 := fin_bd n h (i + 1) (by omega)
  have h2 := fin_bd n h i (by omega)
  have h3 := clk_bd (L := L) (i + 1)
  have ho := h i hi
  have hd := ho.delay
  have ht := ho.takes
  unfold tmC tmF tmT
  omega
theorem mxE_bd {n : Nat} (h : ∀ i, i < n → (L i).Ok) (hn : n ≤ 200) (c : Int) : ∀ {k : Nat}, k ≤ n → 0 ≤ mxE L c k ∧ mxE L c k ≤ 5000000000
  | 0, _ => by rw [mxE]; omega
  | k + 1, hk => by
    have := mxE_bd h hn c (k := k) (by omega)
    have := tm_bd h hn (i := k) (by omega)
    rw [mxE]
    split <;> omega
end
/-- how much of an effect has happened -/
def prg (c f t click at' : Int) : Int :=
  if c < click ∨ (c = click ∧ t ≤ at') then 1000 else if c = click ∧ f < at' then 1000 * (at' - f) / (t - f) else 0
theorem prg_bd {c f t click at' : Int} (h : f ≤ t) : 0 ≤ prg c f t click at' ∧ prg c f t click at' ≤ 1000 := by
  unfold prg
  split
  · omega
  · split
    · rename_i h1 h2
      have h3 : at' < t := by omega
      refine ⟨Int.ediv_nonneg (by omega) (by omega), ?_⟩
      exact Int.ediv_le_of_le_mul (by omega) (by omega)
    · omega
structure Sta where
  seen : Int
  x : Int
  y : Int
section
variable (L : Nat → Eff) (click at' : Int)
def prI (i : Nat) : Int := prg (tmC L i) (tmF L i) (tmT L i) click at'
/-- one effect on an item: seen is -1 until the first effect on it -/
def stepS (s : Sta) (e : Eff) (p : Int) : Sta :=
  let s1 := if e.kind ≠ 2 ∧ s.seen < 0 then 1000 * e.kind else s.seen
  if p = 0 then ⟨s1, s.x, s.y⟩ else if e.kind = 2 then ⟨s1, s.x + (e.x * p).tdiv 1000, s.y + (e.y * p).tdiv 1000⟩
  else if e.kind = 0 then ⟨max s1 p, s.x, s.y⟩ else ⟨min s1 (1000 - p), s.x, s.y⟩
def staF (item : Int) : Nat → Sta
  | 0 => ⟨-1, 0, 0⟩
  | i + 1 => if (L i).item = item then stepS (staF item i) (L i) (prI L click at' i) else staF item i
/-- the items of the first n effects, each once -/
def itsF : Nat → List Int
  | 0 => []
  | i + 1 => if (L i).item ∈ itsF i then itsF i else itsF i ++ [(L i).item]
end
def seenF (s : Sta) : Int := if s.seen < 0 then 1000 else s.seen
section
variable {L : Nat → Eff} {click at' : Int}
theorem itsF_mem : ∀ {n : Nat} {x : Int}, x ∈ itsF L n ↔ ∃ i, i < n ∧ (L i).item = x
  | 0, x => by simp [itsF]
  | n + 1, x => by
    have ih := itsF_mem (n := n) (x := x)
    rw [itsF]
    split
    · rename_i h
      rw [ih]
      constructor
      · rintro ⟨i, h1, h2⟩; exact ⟨i, by omega, h2⟩
      · rintro ⟨i, h1, h2⟩
        by_cases hi : i = n
        · subst hi
          obtain ⟨j, h3, h4⟩ := (itsF_mem (n := i)).1 h
          exact ⟨j, h3, h4.trans h2⟩
        · exact ⟨i, by omega, h2⟩
    · rw [List.mem_append, ih, List.mem_singleton]
      constructor
      · rintro (⟨i, h1, h2⟩ | h)
        · exact ⟨i, by omega, h2⟩
        · exact ⟨n, by omega, h.symm⟩
      · rintro ⟨i, h1, h2⟩
        by_cases hi : i = n
        · subst hi; exact .inr h2.symm
        · exact .inl ⟨i, by omega, h2⟩
theorem itsF_nodup : ∀ (n : Nat), (itsF L n).Nodup
  | 0 => List.nodup_nil
  | n + 1 => by
    rw [itsF]
    split
    · exact itsF_nodup n
    · rename_i h
      rw [List.nodup_append]
      refine ⟨itsF_nodup n, by simp, fun a ha b hb => ?_⟩
      rw [List.mem_singleton] at hb
      subst hb
      rintro rfl
      exact h ha
theorem itsF_len : ∀ (n : Nat), (itsF L n).length ≤ n
  | 0 => Nat.le_refl _
  | n + 1 => by
    have := itsF_len n
    rw [itsF]
    split
    · omega
    · simp; omega
/-- an item that is not among the first n has no state yet -/
theorem staF_none : ∀ {n : Nat} {x : Int}, x ∉ itsF L n → staF L click at' x n = ⟨-1, 0, 0⟩
  | 0, x, _ => rfl
  | n + 1, x, h => by
    have h1 : ∀ i, i < n + 1 → (L i).item ≠ x := fun i hi he => h (itsF_mem.2 ⟨i, hi, he⟩)
    rw [staF, if_neg (h1 n (by omega)), staF_none (fun hm => by
      obtain ⟨i, h2, h3⟩ := itsF_mem.1 hm
      exact h1 i (by omega) h3)]
theorem sta_bd {n : Nat} (h : ∀ i, i < n → (L i).Ok) (hn : n ≤ 200) (x : Int) : ∀ {i : Nat}, i ≤ n → (-1 ≤ (staF L click at' x i).seen ∧ (staF L click at' x i).seen ≤ 1000) ∧ (-(1048576 * (i : Int)) ≤ (staF L click at' x i).x ∧ (staF L click at' x i).x ≤ 1048576 * i) ∧ (-(1048576 * (i : Int)) ≤ (staF L click at' x i).y ∧ (staF L click at' x i).y ≤ 1048576 * i)
  | 0, _ => by rw [staF]; simp
  | i + 1, hi => by
    obtain ⟨h1, h2, h3⟩ := sta_bd h hn x (i := i) (by omega)
    have ho := h i (by omega)
    have hk := ho.kind
    have hp := prg_bd (c := tmC L i) (click := click) (at' := at') (tm_bd h hn (i := i) (by omega)).2.2.2.1.1
    have part : ∀ z : Int, -1048576 ≤ z ∧ z ≤ 1048576 → -1048576 ≤ (z * prI L click at' i).tdiv 1000 ∧ (z * prI L click at' i).tdiv 1000 ≤ 1048576 := by
      intro z hz
      have hp2 : 0 ≤ prI L click at' i ∧ prI L click at' i ≤ 1000 := hp
      obtain ⟨p, hpp⟩ : ∃ p, p = prI L click at' i := ⟨_, rfl⟩
      rw [← hpp] at hp2 ⊢
      have a1 : z * p ≤ 1048576 * 1000 := by
        have := Int.mul_le_mul_of_nonneg_right hz.2 hp2.1
        have := Int.mul_le_mul_of_nonneg_left hp2.2 (show (0 : Int) ≤ 1048576 by omega)
        omega
      have a2 : -(1048576 * 1000) ≤ z * p := by
        have := Int.mul_le_mul_of_nonneg_right hz.1 hp2.1
        have := Int.mul_le_mul_of_nonneg_left hp2.2 (show (0 : Int) ≤ 1048576 by omega)
        omega
      obtain ⟨q, hq⟩ : ∃ q, q = z * p := ⟨_, rfl⟩
      rw [← hq] at a1 a2 ⊢
      rcases Int.lt_or_le q 0 with h0 | h0
      · have e : q.tdiv 1000 = -((-q).tdiv 1000) := by rw [Int.neg_tdiv]; omega
        rw [e, Int.tdiv_eq_ediv_of_nonneg (by omega)]
        omega
      · rw [Int.tdiv_eq_ediv_of_nonneg h0]; omega
    have hx := part (L i).x ho.x
    have hy := part (L i).y ho.y
    rw [staF]
    split
    · unfold stepS
      have hp2 : 0 ≤ prI L click at' i ∧ prI L click at' i ≤ 1000 := hp
      simp only
      split <;> split <;> (try split) <;> (try split) <;> simp only <;> omega
    · omega
end
end Go.Law.Tl
