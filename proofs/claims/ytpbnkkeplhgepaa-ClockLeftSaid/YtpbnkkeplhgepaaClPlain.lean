/-
  The clock of a presenter: what the program and the reference reckon, in plain Lean.
-/
import Init
namespace Go.Law.Cl
set_option linter.unusedVariables false
set_option linter.unusedSimpArgs false
/-- the first error among n -/
def firstE (g : Nat → Int) : Nat → Int
  | 0 => 0
  | n + 1 => if firstE g n ≠ 0 then firstE g n else g n
theorem firstE_none {g : Nat → Int} {n : Nat} (h : ∀ i, i < n → g i = 0) : firstE g n = 0 := by
  induction n with
  | zero => rfl
  | succ n ih => simp only [firstE]; rw [ih (fun i hi => h i (by omega)), if_neg (by simp), h n (by omega)]
theorem firstE_at {g : Nat → Int} {n k : Nat} (hk : k < n) (h : firstE g k = 0) (hg : g k ≠ 0) : firstE g n = g k := by
  induction n with
  | zero => omega
  | succ n ih =>
    simp only [firstE]
    by_cases hkn : k = n
    · subst hkn; rw [h, if_neg (by simp)]
    · rw [ih (by omega), if_pos hg]
theorem firstE_step {g : Nat → Int} {k : Nat} (h : firstE g k = 0) (hg : g k = 0) : firstE g (k + 1) = 0 := by
  simp only [firstE]; rw [h, if_neg (by simp), hg]
theorem firstE_zero {g : Nat → Int} {n : Nat} (h : firstE g n = 0) : ∀ i, i < n → g i = 0 := by
  intro i hi
  induction n with
  | zero => omega
  | succ n ih =>
    simp only [firstE] at h
    by_cases h0 : firstE g n = 0
    · rw [h0, if_neg (by simp)] at h
      by_cases hin : i = n
      · subst hin; exact h
      · exact ih h0 (by omega)
    · rw [if_pos h0] at h; exact absurd h h0

/-- events: kind, time, slide of event i are E i 0, E i 1, E i 2 -/
def runs (E : Nat → Nat → Int) : Nat → Bool
  | 0 => false
  | i + 1 => if E i 0 = 0 then true else if E i 0 = 1 ∨ E i 0 = 3 then false else runs E i
def lastA (E : Nat → Nat → Int) : Nat → Int
  | 0 => 0
  | i + 1 => E i 1
def shut (E : Nat → Nat → Int) : Nat → Bool
  | 0 => false
  | i + 1 => E i 0 == 3
/-- the error of an event (kind, time, slide) behind a time, behind a stop or not, while it runs or not -/
def evV (K A X L : Int) (S R : Bool) : Int :=
  if ¬ (0 ≤ K ∧ K ≤ 3) then 8 else if ¬ ((0 ≤ A ∧ A ≤ 10000000) ∧ (0 ≤ X ∧ X ≤ 1000)) then 2
  else if ¬ ((K = 2) ↔ (0 < X)) then 4 else if A < L then 5
  else if S = true ∨ (K = 0 ∧ R = true) ∨ (K = 1 ∧ R = false) then 13 else 0
def evE (E : Nat → Nat → Int) (i : Nat) : Int := evV (E i 0) (E i 1) (E i 2) (lastA E i) (shut E i) (runs E i)
theorem evV_kind {K A X L : Int} {S R : Bool} (h : ¬ (0 ≤ K ∧ K ≤ 3)) : evV K A X L S R = 8 := by unfold evV; rw [if_pos h]
theorem evV_range {K A X L : Int} {S R : Bool} (h : 0 ≤ K ∧ K ≤ 3) (h2 : ¬ ((0 ≤ A ∧ A ≤ 10000000) ∧ (0 ≤ X ∧ X ≤ 1000))) : evV K A X L S R = 2 := by
  unfold evV; rw [if_neg (by simpa using h), if_pos h2]
theorem evV_form {K A X L : Int} {S R : Bool} (h : 0 ≤ K ∧ K ≤ 3) (h2 : (0 ≤ A ∧ A ≤ 10000000) ∧ (0 ≤ X ∧ X ≤ 1000)) (h3 : ¬ ((K = 2) ↔ (0 < X))) : evV K A X L S R = 4 := by
  unfold evV; rw [if_neg (by simpa using h), if_neg (fun h => h h2), if_pos h3]
theorem evV_order {K A X L : Int} {S R : Bool} (h : 0 ≤ K ∧ K ≤ 3) (h2 : (0 ≤ A ∧ A ≤ 10000000) ∧ (0 ≤ X ∧ X ≤ 1000)) (h3 : (K = 2) ↔ (0 < X)) (h4 : A < L) : evV K A X L S R = 5 := by
  unfold evV; rw [if_neg (by simpa using h), if_neg (fun h => h h2), if_neg (fun h => h h3), if_pos h4]
theorem evV_state {K A X L : Int} {S R : Bool} (h : 0 ≤ K ∧ K ≤ 3) (h2 : (0 ≤ A ∧ A ≤ 10000000) ∧ (0 ≤ X ∧ X ≤ 1000)) (h3 : (K = 2) ↔ (0 < X)) (h4 : ¬ A < L)
    (h5 : S = true ∨ (K = 0 ∧ R = true) ∨ (K = 1 ∧ R = false)) : evV K A X L S R = 13 := by
  unfold evV; rw [if_neg (by simpa using h), if_neg (fun h => h h2), if_neg (fun h => h h3), if_neg h4, if_pos h5]
theorem evV_ok {K A X L : Int} {S R : Bool} (h : 0 ≤ K ∧ K ≤ 3) (h2 : (0 ≤ A ∧ A ≤ 10000000) ∧ (0 ≤ X ∧ X ≤ 1000)) (h3 : (K = 2) ↔ (0 < X)) (h4 : ¬ A < L)
    (h5 : ¬ (S = true ∨ (K = 0 ∧ R = true) ∨ (K = 1 ∧ R = false))) : evV K A X L S R = 0 := by
  unfold evV; rw [if_neg (by simpa using h), if_neg (fun h => h h2), if_neg (fun h => h h3), if_neg h4, if_neg h5]
def clE (n : Nat) (E : Nat → Nat → Int) : Int := if 1000 < n then 3 else firstE (evE E) n
theorem evE_zero {E : Nat → Nat → Int} {i : Nat} (h : evE E i = 0) :
    (0 ≤ E i 0 ∧ E i 0 ≤ 3) ∧ (0 ≤ E i 1 ∧ E i 1 ≤ 10000000) ∧ (0 ≤ E i 2 ∧ E i 2 ≤ 1000) ∧ ((E i 0 = 2) ↔ (0 < E i 2)) ∧ lastA E i ≤ E i 1 := by
  unfold evE evV at h
  by_cases h1 : 0 ≤ E i 0 ∧ E i 0 ≤ 3
  · rw [if_neg (by simpa using h1)] at h
    by_cases h2 : (0 ≤ E i 1 ∧ E i 1 ≤ 10000000) ∧ (0 ≤ E i 2 ∧ E i 2 ≤ 1000)
    · rw [if_neg (fun h => h h2)] at h
      by_cases h3 : (E i 0 = 2) ↔ (0 < E i 2)
      · rw [if_neg (fun h => h h3)] at h
        by_cases h4 : E i 1 < lastA E i
        · rw [if_pos h4] at h; omega
        · exact ⟨h1, h2.1, h2.2, h3, by omega⟩
      · rw [if_pos h3] at h; omega
    · rw [if_pos h2] at h; omega
  · rw [if_pos h1] at h; omega
theorem clE_zero {n : Nat} {E : Nat → Nat → Int} (h : clE n E = 0) : n ≤ 1000 ∧ ∀ i, i < n → (0 ≤ E i 0 ∧ E i 0 ≤ 3) ∧ (0 ≤ E i 1 ∧ E i 1 ≤ 10000000) ∧ (0 ≤ E i 2 ∧ E i 2 ≤ 1000) ∧ ((E i 0 = 2) ↔ (0 < E i 2)) ∧ lastA E i ≤ E i 1 := by
  unfold clE at h
  by_cases hn : 1000 < n
  · rw [if_pos hn] at h; omega
  · rw [if_neg hn] at h
    exact ⟨by omega, fun i hi => evE_zero (firstE_zero h i hi)⟩

/-- what the clock tells; slide q has the cells q * 3, q * 3 + 1, q * 3 + 2 of F: its number, its time, how often -/
structure St where
  run : Bool
  tot : Int
  sl : Int
  m : Nat
  F : Nat → Int
def St.init : St := ⟨false, 0, 0, 0, fun _ => 0⟩
def addT (sl d : Int) (F : Nat → Int) : Nat → Int := fun j => if j % 3 = 1 ∧ F (j - 1) = sl then F j + d else F j
def passS (s : St) (d : Int) : St := if s.run = true then { s with tot := s.tot + d, F := addT s.sl d s.F } else s
def has (s : St) (x : Int) : Prop := ∃ i, i < s.m ∧ s.F (i * 3) = x
def addN (x : Int) (F : Nat → Int) : Nat → Int := fun j => if j % 3 = 2 ∧ F (j - 2) = x then F j + 1 else F j
def newF (m : Nat) (x c : Int) (F : Nat → Int) : Nat → Int := fun j => if j = m * 3 then x else if j = m * 3 + 1 then 0 else if j = m * 3 + 2 then c else F j
open Classical in
noncomputable def showS (s : St) (x : Int) : St :=
  if has s x then { s with sl := x, F := if s.sl = x then s.F else addN x s.F }
  else { s with sl := x, m := s.m + 1, F := newF s.m x 1 s.F }
noncomputable def evS (s : St) (kind x : Int) : St :=
  if kind = 0 then { s with run := true } else if kind = 1 ∨ kind = 3 then { s with run := false } else if kind = 2 then showS s x else s
theorem addT_zero (sl : Int) (F : Nat → Int) : addT sl 0 F = F := by
  funext j; unfold addT; split <;> omega
theorem passS_zero (s : St) : passS s 0 = s := by
  unfold passS
  split
  · rw [addT_zero]; cases s; simp
  · rfl
theorem passS_off {s : St} (h : s.run = false) (d : Int) : passS s d = s := by unfold passS; rw [h]; rfl

/-- the state before event i, by the program -/
noncomputable def prS (E : Nat → Nat → Int) (T : Int) : Nat → St
  | 0 => .init
  | i + 1 => if T < E i 1 then passS (prS E T i) (min (E i 1) T - min (lastA E i) T) else evS (passS (prS E T i) (min (E i 1) T - min (lastA E i) T)) (E i 0) (E i 2)
noncomputable def finS (n : Nat) (E : Nat → Nat → Int) (T : Int) : St := passS (prS E T n) (T - min (lastA E n) T)
/-- the time to which event i lasts -/
def toT (n : Nat) (E : Nat → Nat → Int) (T : Int) (i : Nat) : Int := if i + 1 < n then min T (E (i + 1) 1) else T
/-- the state before event i, by the reference -/
noncomputable def laS (n : Nat) (E : Nat → Nat → Int) (T : Int) : Nat → St
  | 0 => .init
  | i + 1 => passS (evS (laS n E T i) (E i 0) (E i 2)) (toT n E T i - E i 1)

theorem la_pr {n : Nat} {E : Nat → Nat → Int} {T : Int} (hT : 0 ≤ T) (hs : ∀ i, i < n → lastA E i ≤ E i 1) (h0 : 0 < n → 0 ≤ E 0 1) :
    ∀ k, k < n → (∀ i, i ≤ k → E i 1 ≤ T) → prS E T (k + 1) = evS (laS n E T k) (E k 0) (E k 2) := by
  intro k
  induction k with
  | zero =>
    intro hk hle
    have := hle 0 (by omega)
    simp only [prS, laS]
    rw [if_neg (by omega), passS_off rfl]
  | succ k ih =>
    intro hk hle
    have h1 := hle (k + 1) (by omega)
    have h2 := hle k (by omega)
    have h3 := hs (k + 1) hk
    have hih := ih (by omega) (fun i hi => hle i (by omega))
    rw [prS, if_neg (by omega), hih, laS]
    congr 2
    simp only [toT, lastA] at *
    rw [if_pos (by omega)]
    omega
theorem la_end {n : Nat} {E : Nat → Nat → Int} {T : Int} (hT : 0 ≤ T) (hs : ∀ i, i < n → lastA E i ≤ E i 1) (h0 : 0 < n → 0 ≤ E 0 1)
    (hle : ∀ i, i < n → E i 1 ≤ T) : finS n E T = laS n E T n := by
  cases n with
  | zero => unfold finS; simp only [prS, laS]; rw [passS_off rfl]
  | succ k =>
    unfold finS
    rw [la_pr hT hs h0 k (by omega) (fun i hi => hle i (by omega)), laS]
    congr 1
    have := hle k (by omega)
    simp only [toT, lastA]
    rw [if_neg (by omega)]
    omega
theorem la_fin {n : Nat} {E : Nat → Nat → Int} {T : Int} (hT : 0 ≤ T) (hs : ∀ i, i < n → lastA E i ≤ E i 1) (h0 : 0 < n → 0 ≤ E 0 1) (k : Nat) (hk : k ≤ n)
    (hle : ∀ i, i < k → E i 1 ≤ T) (hend : k = n ∨ T < E k 1) : finS n E T = laS n E T k := by
  rcases hend with rfl | hT2
  · exact la_end hT hs h0 hle
  · by_cases hkn : k = n
    · subst hkn
      exact la_end hT hs h0 hle
    · have hbig : ∀ i, k ≤ i → i < n → T < E i 1 := by
        intro i hi hin
        induction i with
        | zero => obtain rfl : k = 0 := by omega
                  exact hT2
        | succ i ih =>
          by_cases h : k = i + 1
          · subst h; exact hT2
          · have := ih (by omega) (by omega)
            have h2 := hs (i + 1) hin
            simp only [lastA] at h2
            omega
      have hst : ∀ i, k < i → i ≤ n → prS E T i = laS n E T k ∧ T ≤ lastA E i := by
        intro i hi hin
        induction i with
        | zero => omega
        | succ i ih =>
          have hb := hbig i (by omega) (by omega)
          refine ⟨?_, by simp only [lastA]; omega⟩
          rw [prS, if_pos hb]
          by_cases h : k = i
          · subst h
            cases k with
            | zero => simp only [prS, laS]; rw [passS_off rfl]
            | succ k =>
              rw [la_pr hT hs h0 k (by omega) (fun i hi => hle i (by omega)), laS]
              congr 1
              have := hle k (by omega)
              simp only [toT, lastA]
              rw [if_pos (by omega)]
              omega
          · obtain ⟨h1, h2⟩ := ih (by omega) (by omega)
            rw [h1, show min (E i 1) T - min (lastA E i) T = 0 by omega, passS_zero]
      obtain ⟨h1, h2⟩ := hst n (by omega) (by omega)
      unfold finS
      rw [h1, show T - min (lastA E n) T = 0 by omega, passS_zero]

/-- what holds of each state: c bounds the times, k the numbers -/
structure Good (s : St) (c : Int) (k : Nat) : Prop where
  tot : 0 ≤ s.tot ∧ s.tot ≤ c
  time : ∀ i, i < s.m → 0 ≤ s.F (i * 3 + 1) ∧ s.F (i * 3 + 1) ≤ c
  num : ∀ i, i < s.m → 0 ≤ s.F (i * 3 + 2) ∧ s.F (i * 3 + 2) ≤ k
  pos : ∀ i, i < s.m → 0 < s.F (i * 3)
  many : s.m ≤ k
  one : ∀ i j, i < j → j < s.m → s.F (i * 3) ≠ s.F (j * 3)
  cur : s.sl = 0 ∨ has s s.sl
theorem Good.init : Good .init 0 0 :=
  ⟨⟨Int.le_refl _, Int.le_refl _⟩, fun i hi => absurd hi (Nat.not_lt_zero _), fun i hi => absurd hi (Nat.not_lt_zero _), fun i hi => absurd hi (Nat.not_lt_zero _), Nat.le_refl _, fun i j _ hj => absurd hj (Nat.not_lt_zero _), .inl rfl⟩
theorem Good.mono {s : St} {c c' : Int} {k k' : Nat} (h : Good s c k) (hc : c ≤ c') (hk : k ≤ k') : Good s c' k' :=
  ⟨⟨h.tot.1, by have := h.tot.2; omega⟩, fun i hi => ⟨(h.time i hi).1, by have := (h.time i hi).2; omega⟩, fun i hi => ⟨(h.num i hi).1, by have := (h.num i hi).2; omega⟩, h.pos, Nat.le_trans h.many hk, h.one, h.cur⟩
theorem addT_0 (sl d : Int) (F : Nat → Int) (i : Nat) : addT sl d F (i * 3) = F (i * 3) := by unfold addT; rw [if_neg (by omega)]
theorem addT_1 (sl d : Int) (F : Nat → Int) (i : Nat) : addT sl d F (i * 3 + 1) = if F (i * 3) = sl then F (i * 3 + 1) + d else F (i * 3 + 1) := by
  unfold addT
  simp only [show (i * 3 + 1) % 3 = 1 by omega, true_and, Nat.add_sub_cancel]
theorem addT_2 (sl d : Int) (F : Nat → Int) (i : Nat) : addT sl d F (i * 3 + 2) = F (i * 3 + 2) := by unfold addT; rw [if_neg (by omega)]
theorem Good.pass {s : St} {c d : Int} {k : Nat} (h : Good s c k) (hd : 0 ≤ d) : Good (passS s d) (c + d) k := by
  unfold passS
  by_cases hr : s.run = true
  · rw [if_pos hr]
    refine ⟨⟨by have := h.tot.1; simp; omega, by have := h.tot.2; simp; omega⟩, fun i hi => ?_, fun i hi => ?_, fun i hi => ?_, h.many, fun i j hij hj => ?_, ?_⟩
    · have h1 := h.time i hi
      simp only [addT_1]
      split <;> omega
    · simp only [addT_2]; exact h.num i hi
    · simp only [addT_0]; exact h.pos i hi
    · simp only [addT_0]; exact h.one i j hij hj
    · rcases h.cur with h | ⟨i, hi, he⟩
      · exact .inl h
      · exact .inr ⟨i, hi, by simp only [addT_0]; exact he⟩
  · rw [if_neg hr]
    exact h.mono (by omega) (Nat.le_refl _)
theorem addN_0 (x : Int) (F : Nat → Int) (i : Nat) : addN x F (i * 3) = F (i * 3) := by unfold addN; rw [if_neg (by omega)]
theorem addN_1 (x : Int) (F : Nat → Int) (i : Nat) : addN x F (i * 3 + 1) = F (i * 3 + 1) := by unfold addN; rw [if_neg (by omega)]
theorem addN_2 (x : Int) (F : Nat → Int) (i : Nat) : addN x F (i * 3 + 2) = if F (i * 3) = x then F (i * 3 + 2) + 1 else F (i * 3 + 2) := by
  unfold addN
  simp only [show (i * 3 + 2) % 3 = 2 by omega, true_and, Nat.add_sub_cancel]
theorem Good.show {s : St} {c x : Int} {k : Nat} (h : Good s c k) (hx : 0 < x) (hc : 0 ≤ c) : Good (showS s x) c (k + 1) := by
  unfold showS
  by_cases hh : has s x
  · rw [if_pos hh]
    by_cases hs : s.sl = x
    · simp only [if_pos hs]
      refine ⟨h.tot, h.time, fun i hi => ⟨(h.num i hi).1, by have := (h.num i hi).2; simp only at *; omega⟩, h.pos, Nat.le_succ_of_le h.many, h.one, .inr hh⟩
    · simp only [if_neg hs]
      refine ⟨h.tot, fun i hi => ?_, fun i hi => ?_, fun i hi => ?_, Nat.le_succ_of_le h.many, fun i j hij hj => ?_, ?_⟩
      · simp only [addN_1]; exact h.time i hi
      · have := h.num i hi
        simp only [addN_2]; split <;> omega
      · simp only [addN_0]; exact h.pos i hi
      · simp only [addN_0]; exact h.one i j hij hj
      · obtain ⟨i, hi, he⟩ := hh
        exact .inr ⟨i, hi, by simp only [addN_0]; exact he⟩
  · rw [if_neg hh]
    have hlt : ∀ i, i < s.m → newF s.m x 1 s.F (i * 3) = s.F (i * 3) := fun i hi => by unfold newF; rw [if_neg (by omega), if_neg (by omega), if_neg (by omega)]
    have hat : newF s.m x 1 s.F (s.m * 3) = x := by unfold newF; rw [if_pos rfl]
    refine ⟨h.tot, fun i hi => ?_, fun i hi => ?_, fun i hi => ?_, Nat.succ_le_succ h.many, fun i j hij hj => ?_, .inr ⟨s.m, Nat.lt_succ_self _, hat⟩⟩
    · simp only [newF] at *
      by_cases hi' : i = s.m
      · subst hi'; rw [if_neg (by omega), if_pos rfl]; omega
      · rw [if_neg (by omega), if_neg (by omega), if_neg (by omega)]; exact h.time i (by omega)
    · simp only [newF] at *
      by_cases hi' : i = s.m
      · subst hi'; rw [if_neg (by omega), if_neg (by omega), if_pos rfl]; omega
      · rw [if_neg (by omega), if_neg (by omega), if_neg (by omega)]; have := h.num i (by omega); omega
    · simp only at *
      by_cases hi' : i = s.m
      · subst hi'; rw [hat]; exact hx
      · rw [hlt i (by omega)]; exact h.pos i (by omega)
    · simp only at *
      by_cases hj' : j = s.m
      · subst hj'
        rw [hat, hlt i (by omega)]
        exact fun he => hh ⟨i, by omega, he⟩
      · rw [hlt i (by omega), hlt j (by omega)]
        exact h.one i j hij (by omega)
theorem Good.ev {s : St} {c x kind : Int} {k : Nat} (h : Good s c k) (hx : kind = 2 → 0 < x) (hc : 0 ≤ c) : Good (evS s kind x) c (k + 1) := by
  unfold evS
  split
  · exact ⟨h.tot, h.time, fun i hi => ⟨(h.num i hi).1, by have := (h.num i hi).2; simp only at *; omega⟩, h.pos, Nat.le_succ_of_le h.many, h.one, h.cur⟩
  split
  · exact ⟨h.tot, h.time, fun i hi => ⟨(h.num i hi).1, by have := (h.num i hi).2; simp only at *; omega⟩, h.pos, Nat.le_succ_of_le h.many, h.one, h.cur⟩
  split
  · exact h.show (hx ‹_›) hc
  · exact h.mono (Int.le_refl _) (by omega)
theorem Good.pr {n : Nat} {E : Nat → Nat → Int} {T : Int} (hT : 0 ≤ T) (h : ∀ i, i < n → 0 ≤ E i 1 ∧ (E i 0 = 2 → 0 < E i 2) ∧ lastA E i ≤ E i 1) :
    ∀ k, k ≤ n → Good (prS E T k) (min (lastA E k) T) k ∧ 0 ≤ lastA E k := by
  intro k
  induction k with
  | zero => intro _; exact ⟨Good.init.mono (by simp only [lastA]; omega) (Nat.le_refl _), by simp [lastA]⟩
  | succ k ih =>
    intro hk
    obtain ⟨h1, h2⟩ := ih (by omega)
    obtain ⟨h3, h4, h5⟩ := h k (by omega)
    refine ⟨?_, by simpa [lastA] using h3⟩
    have hg := h1.pass (d := min (E k 1) T - min (lastA E k) T) (by omega)
    rw [show min (lastA E k) T + (min (E k 1) T - min (lastA E k) T) = min (E k 1) T by omega] at hg
    simp only [prS, lastA]
    split
    · exact hg.mono (Int.le_refl _) (by omega)
    · exact hg.ev h4 (by omega)
theorem Good.la {n : Nat} {E : Nat → Nat → Int} {T : Int} (hT : 0 ≤ T) (h : ∀ i, i < n → 0 ≤ E i 1 ∧ (E i 0 = 2 → 0 < E i 2) ∧ lastA E i ≤ E i 1) :
    ∀ k, k < n → (∀ i, i ≤ k → E i 1 ≤ T) → Good (laS n E T k) (E k 1) k := by
  intro k
  induction k with
  | zero => intro hk _; exact Good.init.mono (h 0 hk).1 (Nat.le_refl _)
  | succ k ih =>
    intro hk hle
    have h1 := ih (by omega) (fun i hi => hle i (by omega))
    obtain ⟨h3, h4, h5⟩ := h k (by omega)
    obtain ⟨_, _, h6⟩ := h (k + 1) hk
    have h7 := hle (k + 1) (Nat.le_refl _)
    simp only [lastA] at h6
    have ht : toT n E T k = E (k + 1) 1 := by unfold toT; rw [if_pos hk]; omega
    rw [laS, ht]
    have hg := (h1.ev (kind := E k 0) (x := E k 2) h4 h3).pass (d := E (k + 1) 1 - E k 1) (by omega)
    rw [show E k 1 + (E (k + 1) 1 - E k 1) = E (k + 1) 1 by omega] at hg
    exact hg
end Go.Law.Cl
