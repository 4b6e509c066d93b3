/-
  Ranges of pages: what a text of ranges gives.
-/
import Derived.Lib.IndexMore
import Derived.Lib.Bytealg
import Derived.Lib.AtoiAll
import Derived.Lib.AtoiAllCases
import Derived.Lib.ItoaNum
namespace Go.Law.Pg
set_option linter.unusedVariables false
set_option linter.unusedSimpArgs false
/-- digits behind the number n; none: something else, a zero ahead, or too many -/
def scan : Nat → List UInt8 → Option Nat
  | n, [] => some n
  | n, c :: l => if c.toNat < 48 ∨ 57 < c.toNat ∨ (n = 0 ∧ c.toNat = 48) ∨ 10000 < n then none else scan (10 * n + (c.toNat - 48)) l
theorem scan_append : ∀ (l t : List UInt8) (n : Nat), scan n (l ++ t) = (scan n l).bind fun m => scan m t
  | [], t, n => rfl
  | c :: l, t, n => by
    simp only [List.cons_append, scan]
    split
    · rfl
    · exact scan_append l t _
theorem scan_pos : ∀ (l : List UInt8) (n m : Nat), scan n l = some m → (0 < n ∨ l ≠ []) → 0 < m
  | [], n, m, h, hn => by
    simp only [scan, Option.some.injEq] at h
    rcases hn with hn | hn
    · omega
    · exact absurd rfl hn
  | c :: l, n, m, h, hn => by
    simp only [scan] at h
    split at h
    · cases h
    · exact scan_pos l _ _ h (.inl (by omega))
theorem byte_eq {c : UInt8} {d : Nat} (h1 : 48 ≤ c.toNat) (h2 : c.toNat ≤ 57) (hd : d = c.toNat - 48) : UInt8.ofNat (48 + d) = c := by
  apply UInt8.toNat.inj
  have : (UInt8.ofNat (48 + d)).toNat = (48 + d) % 256 := rfl
  rw [this]; omega
theorem byte_val {d : Nat} (h : d < 10) : (UInt8.ofNat (48 + d)).toNat = 48 + d := by
  have : (UInt8.ofNat (48 + d)).toNat = (48 + d) % 256 := rfl
  omega
/-- the numeral of n is read as n -/
theorem scan_digits : ∀ n : Nat, 0 < n → n ≤ 10000 → scan 0 (Lib.decDigits n) = some n := by
  intro n
  induction n using Nat.strongRecOn with
  | _ n ih =>
    intro h0 h1
    by_cases h : n < 10
    · rw [Lib.decDigits_one h]
      simp only [scan]
      rw [byte_val h, if_neg (by omega)]
      congr 1; omega
    · rw [Lib.decDigits, dif_neg h, scan_append, ih (n / 10) (by omega) (by omega) (by omega)]
      simp only [Option.bind_some, scan]
      rw [byte_val (by omega), if_neg (by omega)]
      congr 1; omega
/-- what is read is a numeral -/
theorem digits_scan : ∀ (l : List UInt8) (n : Nat), l ≠ [] → scan 0 l = some n → Lib.decDigits n = l := by
  intro l0
  obtain ⟨N, hN⟩ : ∃ N, N = l0.length := ⟨_, rfl⟩
  revert l0
  induction N with
  | zero =>
    intro l0 hN n h
    exact absurd (List.length_eq_zero_iff.1 hN.symm) h
  | succ N ih0 =>
    intro l0 hN n hne h
    obtain ⟨l, c, rfl⟩ : ∃ l c, l0 = l ++ [c] := ⟨l0.dropLast, l0.getLast hne, (List.dropLast_concat_getLast hne).symm⟩
    have ih := ih0 l (by simp at hN; omega)
    clear ih0
    rw [scan_append] at h
    cases hm : scan 0 l with
    | none => rw [hm] at h; cases h
    | some m =>
      rw [hm] at h
      simp only [Option.bind_some, scan] at h
      split at h
      · cases h
      · rename_i hc
        simp only [Option.some.injEq] at h
        by_cases hl : l = []
        · subst hl
          simp only [scan, Option.some.injEq] at hm
          subst hm
          rw [Lib.decDigits_one (by omega)]
          rw [byte_eq (c := c) (by omega) (by omega) (by omega)]
          rfl
        · have h2 := ih m hl hm
          have hp := scan_pos l 0 m hm (.inr hl)
          rw [Lib.decDigits, dif_neg (by omega), show n / 10 = m by omega, h2]
          rw [byte_eq (c := c) (by omega) (by omega) (by omega)]
/-- a number of pages: digits without a zero ahead, from 1 to 10000 -/
def pnum (l : List UInt8) : Option Nat := match scan 0 l with
  | some n => if l ≠ [] ∧ n ≤ 10000 then some n else none
  | none => none
theorem pnum_some {l : List UInt8} {n : Nat} (h : pnum l = some n) : l ≠ [] ∧ scan 0 l = some n ∧ 1 ≤ n ∧ n ≤ 10000 := by
  unfold pnum at h
  split at h
  · rename_i m hm
    split at h
    · rename_i hc
      simp only [Option.some.injEq] at h
      subst h
      exact ⟨hc.1, hm, scan_pos l 0 m hm (.inr hc.1), hc.2⟩
    · cases h
  · cases h
theorem pnum_itoa {l : List UInt8} {v : Int} (h1 : 1 ≤ v) (h2 : v ≤ 10000) (h : Lib.itoa v = l) : pnum l = some v.toNat := by
  have e : Lib.itoa v = Lib.decDigits v.toNat := by unfold Lib.itoa; rw [if_neg (by omega)]
  rw [e] at h
  have hs := scan_digits v.toNat (by omega) (by omega)
  have hl : l ≠ [] := by
    intro hl
    have := Lib.decDigits_length v.toNat
    have h3 := Lib.nDigits_pos v.toNat
    rw [h, hl] at this
    simp at this
    omega
  unfold pnum
  rw [← h, hs]
  simp only
  rw [if_pos ⟨by rw [h]; exact hl, by omega⟩]
theorem pnum_itoa2 {l : List UInt8} {n : Nat} (h : pnum l = some n) : Lib.itoa (n : Int) = l := by
  obtain ⟨h1, h2, h3, h4⟩ := pnum_some h
  have e : Lib.itoa (n : Int) = Lib.decDigits n := by unfold Lib.itoa; rw [if_neg (by omega)]; rfl
  rw [e]
  exact digits_scan l n h1 h2
theorem parse_scan : ∀ (l : List UInt8) (n m : Nat), scan n l = some m → n ≤ 100010 → Lib.parseUint10 n l = .ok m
  | [], n, m, h, hn => by
    simp only [scan, Option.some.injEq] at h
    rw [Lib.parseUint10, h]
  | c :: l, n, m, h, hn => by
    simp only [scan] at h
    split at h
    · cases h
    · rename_i hc
      rw [Lib.parseUint10, if_pos (by omega), if_neg (by omega), if_neg (by omega), Nat.mul_comm]
      exact parse_scan l _ _ h (by omega)
theorem scan_head {l : List UInt8} {n m : Nat} {c : UInt8} (h : scan n (c :: l) = some m) : 48 ≤ c.toNat ∧ c.toNat ≤ 57 := by
  simp only [scan] at h
  split at h
  · cases h
  · omega
theorem atoi_pnum {l : List UInt8} {n : Nat} (h : pnum l = some n) : Lib.atoiAll l = .ok n := by
  obtain ⟨h1, h2, h3, h4⟩ := pnum_some h
  match l, h1, h2 with
  | c :: r, _, h2 =>
    have hc := scan_head h2
    rw [Lib.atoiAll_plain c r (by omega) (by omega)]
    have hp := parse_scan (c :: r) 0 n h2 (by omega)
    have e : Lib.parseMag (c :: r) = .ok n := by unfold Lib.parseMag; rw [if_neg (by simp)]; exact hp
    rw [e]
    unfold Lib.signless
    simp only
    rw [if_neg (by omega)]
/-- a number or a range, with its errno -/
def bnds (f t : List UInt8) (is : Bool) (pages : Int) : Int × Int × Int :=
  if is = false then
    match pnum f with
    | some n => if (n : Int) > pages then (0, 0, 7) else (n, n, 0)
    | none => (0, 0, 10)
  else if f = [] ∧ t = [] then (0, 0, 10)
  else if f ≠ [] ∧ pnum f = none then (0, 0, 10)
  else if t ≠ [] ∧ pnum t = none then (0, 0, 10)
  else
    let a : Int := if f = [] then 1 else ((pnum f).getD 0 : Nat)
    let b : Int := if t = [] then pages else ((pnum t).getD 0 : Nat)
    if a > pages ∨ b > pages then (0, 0, 7) else (a, b, 0)
/-- from a to b, up or down -/
def steps (a b : Int) : List Int := (List.range (b - a).natAbs.succ).map fun k : Nat => if a ≤ b then a + (k : Int) else a - (k : Int)
/-- the reference's reader -/
structure St where
  n0 : Int
  n1 : Int
  k : Bool
  bad : Bool
  seen : Bool
deriving DecidableEq
def St.cur (s : St) : Int := if s.k = true then s.n1 else s.n0
def stp (s : St) (c : UInt8) : St :=
  if c.toNat = 45 ∧ s.k = false then { s with k := true }
  else if c.toNat < 48 ∨ 57 < c.toNat ∨ (s.cur = 0 ∧ c.toNat = 48) ∨ 10000 < s.cur then { s with bad := true }
  else if s.k = true then { s with n1 := 10 * s.n1 + (c.toNat - 48), seen := true }
  else { s with n0 := 10 * s.n0 + (c.toNat - 48), seen := true }
def st0 : St := ⟨0, 0, false, false, false⟩
def rdr (l : List UInt8) : St := l.foldl stp st0
/-- its numbers stay small -/
def St.ok (s : St) : Prop := 0 ≤ s.n0 ∧ s.n0 ≤ 100009 ∧ 0 ≤ s.n1 ∧ s.n1 ≤ 100009
theorem stp_ok {s : St} (h : s.ok) (c : UInt8) : (stp s c).ok := by
  obtain ⟨h1, h2, h3, h4⟩ := h
  unfold stp
  split
  · exact ⟨h1, h2, h3, h4⟩
  · split
    · exact ⟨h1, h2, h3, h4⟩
    · rename_i hc
      unfold St.cur at hc
      split
      · rename_i hk
        rw [if_pos hk] at hc
        exact ⟨h1, h2, by simp only; omega, by simp only; omega⟩
      · rename_i hk
        rw [if_neg hk] at hc
        exact ⟨by simp only; omega, by simp only; omega, h3, h4⟩
theorem fold_ok : ∀ (l : List UInt8) (s : St), s.ok → (l.foldl stp s).ok
  | [], s, h => h
  | c :: l, s, h => fold_ok l _ (stp_ok h c)
theorem rdr_ok (l : List UInt8) : (rdr l).ok := fold_ok l _ ⟨by decide, by decide, by decide, by decide⟩
theorem stp_bad {s : St} (h : s.bad = true) (c : UInt8) : (stp s c).bad = true := by
  unfold stp
  split
  · exact h
  · split
    · rfl
    · split <;> exact h
theorem fold_bad : ∀ (l : List UInt8) (s : St), s.bad = true → (l.foldl stp s).bad = true
  | [], s, h => h
  | c :: l, s, h => fold_bad l _ (stp_bad h c)
/-- the first number -/
theorem fold_one : ∀ (l : List UInt8) (n : Nat) (m : Int) (sn : Bool), (∀ c ∈ l, c.toNat ≠ 45) →
    (∃ n', scan n l = some n' ∧ l.foldl stp ⟨n, m, false, false, sn⟩ = ⟨n', m, false, false, sn || !l.isEmpty⟩) ∨ (scan n l = none ∧ (l.foldl stp ⟨n, m, false, false, sn⟩).bad = true)
  | [], n, m, sn, _ => .inl ⟨n, rfl, by simp⟩
  | c :: l, n, m, sn, h => by
    have hc := h c (List.mem_cons_self ..)
    have hl : ∀ c ∈ l, c.toNat ≠ 45 := fun d hd => h d (List.mem_cons_of_mem _ hd)
    simp only [List.foldl_cons, scan]
    by_cases hb : c.toNat < 48 ∨ 57 < c.toNat ∨ (n = 0 ∧ c.toNat = 48) ∨ 10000 < n
    · rw [if_pos hb]
      refine .inr ⟨rfl, fold_bad l _ ?_⟩
      unfold stp
      rw [if_neg (by simp [hc]), if_pos (by simp only [St.cur, if_neg (show ¬ (false = true) by decide)]; omega)]
    · rw [if_neg hb]
      have e : stp ⟨n, m, false, false, sn⟩ c = ⟨((10 * n + (c.toNat - 48) : Nat) : Int), m, false, false, true⟩ := by
        unfold stp
        rw [if_neg (by simp [hc]), if_neg (by simp only [St.cur, if_neg (show ¬ (false = true) by decide)]; omega), if_neg (by simp)]
        simp only
        congr 1
        omega
      rw [e]
      rcases fold_one l (10 * n + (c.toNat - 48)) m true hl with ⟨n', h1, h2⟩ | h1
      · exact .inl ⟨n', h1, by rw [h2]; simp⟩
      · exact .inr h1
/-- the second number -/
theorem fold_two : ∀ (l : List UInt8) (n : Nat) (m : Int) (sn : Bool),
    (∃ n', scan n l = some n' ∧ l.foldl stp ⟨m, n, true, false, sn⟩ = ⟨m, n', true, false, sn || !l.isEmpty⟩) ∨ (scan n l = none ∧ (l.foldl stp ⟨m, n, true, false, sn⟩).bad = true)
  | [], n, m, sn => .inl ⟨n, rfl, by simp⟩
  | c :: l, n, m, sn => by
    simp only [List.foldl_cons, scan]
    by_cases hb : c.toNat < 48 ∨ 57 < c.toNat ∨ (n = 0 ∧ c.toNat = 48) ∨ 10000 < n
    · rw [if_pos hb]
      refine .inr ⟨rfl, fold_bad l _ ?_⟩
      unfold stp
      rw [if_neg (by simp), if_pos (by simp only [St.cur, if_pos]; omega)]
    · rw [if_neg hb]
      have e : stp ⟨m, n, true, false, sn⟩ c = ⟨m, ((10 * n + (c.toNat - 48) : Nat) : Int), true, false, true⟩ := by
        unfold stp
        rw [if_neg (by simp), if_neg (by simp only [St.cur, if_pos]; omega), if_pos rfl]
        simp only
        congr 1
        omega
      rw [e]
      rcases fold_two l (10 * n + (c.toNat - 48)) m true with ⟨n', h1, h2⟩ | h1
      · exact .inl ⟨n', h1, by rw [h2]; simp⟩
      · exact .inr h1
/-- what the reference makes of a part -/
def refB (s : St) (pages : Int) : Int × Int × Int :=
  if s.bad = true ∨ s.seen = false ∨ 10000 < s.n0 ∨ 10000 < s.n1 then (0, 0, 10)
  else
    let b0 : Int := if s.k = true then s.n1 else s.n0
    let a : Int := if s.n0 = 0 then 1 else s.n0
    let b : Int := if b0 = 0 then pages else b0
    if a > pages ∨ b > pages then (0, 0, 7) else (a, b, 0)
theorem pnum_none_of {l : List UInt8} (h : scan 0 l = none) : pnum l = none := by unfold pnum; rw [h]
theorem pnum_of {l : List UInt8} {n : Nat} (h : scan 0 l = some n) (hl : l ≠ []) : pnum l = if n ≤ 10000 then some n else none := by
  unfold pnum; rw [h]; simp only [hl, ne_eq, not_false_iff, true_and]
theorem pnum_no {l : List UInt8} {n : Nat} (h : scan 0 l = some n) (hn : 10000 < n) : pnum l = none := by
  unfold pnum; rw [h]; simp only; rw [if_neg (by omega)]
theorem pnum_yes {l : List UInt8} {n : Nat} (h : scan 0 l = some n) (hl : l ≠ []) (hn : n ≤ 10000) : pnum l = some n := by
  unfold pnum; rw [h]; simp only; rw [if_pos ⟨hl, hn⟩]
theorem isEmpty_no {l : List UInt8} (h : l ≠ []) : l.isEmpty = false := by cases l with | nil => exact absurd rfl h | cons => rfl
theorem refB_bad {s : St} (pages : Int) (h : s.bad = true ∨ s.seen = false ∨ 10000 < s.n0 ∨ 10000 < s.n1) : refB s pages = (0, 0, 10) := by
  unfold refB; rw [if_pos h]
/-- both numbers good -/
theorem refB_good (n m : Int) (k : Bool) (pages : Int) (hn : 0 ≤ n) (hn2 : n ≤ 10000) (hm : 0 ≤ m) (hm2 : m ≤ 10000) : refB ⟨n, m, k, false, true⟩ pages =
    if (if n = 0 then 1 else n) > pages ∨ (if (if k = true then m else n) = 0 then pages else (if k = true then m else n)) > pages then (0, 0, 7) else (if n = 0 then 1 else n, if (if k = true then m else n) = 0 then pages else (if k = true then m else n), 0) := by
  unfold refB
  rw [if_neg (by simp; omega)]
/-- without a hyphen -/
theorem ref_plain {l : List UInt8} (pages : Int) (h : ∀ c ∈ l, c.toNat ≠ 45) : refB (rdr l) pages = bnds l [] false pages := by
  unfold rdr st0 bnds
  rw [if_pos rfl]
  rcases fold_one l 0 0 false h with ⟨n, h1, h2⟩ | ⟨h1, h2⟩
  · have e2 : l.foldl stp ⟨0, 0, false, false, false⟩ = ⟨(n : Int), 0, false, false, false || !l.isEmpty⟩ := h2
    rw [e2]
    by_cases hl : l = []
    · subst hl
      rw [refB_bad _ (.inr (.inl rfl))]
      rfl
    · have hp := scan_pos l 0 n h1 (.inr hl)
      rw [isEmpty_no hl]
      by_cases hn : n ≤ 10000
      · rw [pnum_yes h1 hl hn, show (false || !false) = true from rfl, refB_good _ _ _ _ (by omega) (by omega) (by omega) (by omega)]
        simp only [Bool.false_eq_true, if_false]
        rw [if_neg (show ¬ ((n : Int) = 0) by omega), if_neg (show ¬ ((n : Int) = 0) by omega)]
        by_cases hg : (n : Int) > pages
        · rw [if_pos (Or.inl hg), if_pos hg]
        · rw [if_neg (by omega), if_neg hg]
      · rw [pnum_no h1 (by omega), refB_bad _ (.inr (.inr (.inl (by simp only; omega))))]
  · have e2 : (l.foldl stp ⟨0, 0, false, false, false⟩).bad = true := h2
    rw [pnum_none_of h1, refB_bad _ (.inl e2)]
/-- with a hyphen -/
theorem ref_range {f t : List UInt8} (pages : Int) (hp : 1 ≤ pages) (h : ∀ c ∈ f, c.toNat ≠ 45) : refB (rdr (f ++ 45 :: t)) pages = bnds f t true pages := by
  unfold rdr st0 bnds
  rw [if_neg (by decide), List.foldl_append, List.foldl_cons]
  rcases fold_one f 0 0 false h with ⟨n, h1, h2⟩ | ⟨h1, h2⟩
  · have e2 : f.foldl stp ⟨0, 0, false, false, false⟩ = ⟨(n : Int), 0, false, false, false || !f.isEmpty⟩ := h2
    have e3 : stp ⟨(n : Int), 0, false, false, false || !f.isEmpty⟩ 45 = ⟨(n : Int), 0, true, false, false || !f.isEmpty⟩ := rfl
    rw [e2, e3]
    rcases fold_two t 0 n (false || !f.isEmpty) with ⟨m, h3, h4⟩ | ⟨h3, h4⟩
    · have e4 : t.foldl stp ⟨(n : Int), 0, true, false, false || !f.isEmpty⟩ = ⟨(n : Int), (m : Int), true, false, (false || !f.isEmpty) || !t.isEmpty⟩ := h4
      rw [e4]
      by_cases hf : f = []
      · subst hf
        simp only [scan, Option.some.injEq] at h1
        subst h1
        by_cases ht : t = []
        · subst ht
          rw [refB_bad _ (.inr (.inl rfl)), if_pos ⟨rfl, rfl⟩]
        · have hm := scan_pos t 0 m h3 (.inr ht)
          rw [if_neg (fun hh => ht hh.2), if_neg (fun hh => hh.1 rfl), isEmpty_no ht]
          by_cases hm2 : m ≤ 10000
          · rw [pnum_yes h3 ht hm2, if_neg (by simp), show ((false || !List.isEmpty ([] : List UInt8)) || !false) = true from rfl, refB_good _ _ _ _ (by omega) (by omega) (by omega) (by omega)]
            simp only [if_true, ht, if_false, Option.getD_some]
            rw [if_neg (show ¬ ((m : Int) = 0) by omega)]
            rfl
          · rw [pnum_no h3 (by omega), if_pos ⟨ht, rfl⟩, refB_bad _ (.inr (.inr (.inr (by simp only; omega))))]
      · have hn := scan_pos f 0 n h1 (.inr hf)
        rw [if_neg (fun hh => hf hh.1), isEmpty_no hf]
        by_cases hn2 : n ≤ 10000
        · rw [pnum_yes h1 hf hn2, if_neg (by simp)]
          by_cases ht : t = []
          · subst ht
            simp only [scan, Option.some.injEq] at h3
            subst h3
            rw [if_neg (fun hh => hh.1 rfl), show ((false || !false) || !List.isEmpty ([] : List UInt8)) = true from rfl, refB_good _ _ _ _ (by omega) (by omega) (by omega) (by omega)]
            simp only [hf, if_false, if_true, Option.getD_some]
            rw [if_neg (show ¬ ((n : Int) = 0) by omega)]
            rfl
          · have hm := scan_pos t 0 m h3 (.inr ht)
            rw [isEmpty_no ht]
            by_cases hm2 : m ≤ 10000
            · rw [pnum_yes h3 ht hm2, if_neg (by simp), show ((false || !false) || !false) = true from rfl, refB_good _ _ _ _ (by omega) (by omega) (by omega) (by omega)]
              simp only [hf, ht, if_false, if_true, Option.getD_some]
              rw [if_neg (show ¬ ((n : Int) = 0) by omega), if_neg (show ¬ ((m : Int) = 0) by omega)]
            · rw [pnum_no h3 (by omega), if_pos ⟨ht, rfl⟩, refB_bad _ (.inr (.inr (.inr (by simp only; omega))))]
        · rw [pnum_no h1 (by omega), if_pos ⟨hf, rfl⟩, refB_bad _ (.inr (.inr (.inl (by simp only; omega))))]
    · have e4 : (t.foldl stp ⟨(n : Int), 0, true, false, false || !f.isEmpty⟩).bad = true := h4
      rw [refB_bad _ (.inl e4)]
      have ht : t ≠ [] := by rintro rfl; simp [scan] at h3
      rw [if_neg (fun hh => ht hh.2)]
      by_cases hf : f ≠ [] ∧ pnum f = none
      · rw [if_pos hf]
      · rw [if_neg hf, if_pos ⟨ht, pnum_none_of h3⟩]
  · have e2 : (f.foldl stp ⟨0, 0, false, false, false⟩).bad = true := h2
    have e4 := fold_bad t _ (stp_bad e2 45)
    rw [refB_bad _ (.inl e4)]
    have hf : f ≠ [] := by rintro rfl; simp [scan] at h1
    rw [if_neg (fun hh => hf hh.1), if_pos ⟨hf, pnum_none_of h1⟩]
/-- a text at its first mark c -/
theorem at_mark (c : UInt8) : ∀ l : List UInt8, (∀ d ∈ l, d ≠ c) ∨ ∃ f t, l = f ++ c :: t ∧ ∀ d ∈ f, d ≠ c
  | [] => .inl (fun d h => by cases h)
  | d :: l => by
    by_cases hd : d = c
    · subst hd
      exact .inr ⟨[], l, rfl, fun d h => by cases h⟩
    · rcases at_mark c l with h | ⟨f, t, h1, h2⟩
      · refine .inl fun e he => ?_
        rcases List.mem_cons.1 he with rfl | he
        · exact hd
        · exact h e he
      · refine .inr ⟨d :: f, t, by rw [h1]; rfl, fun e he => ?_⟩
        rcases List.mem_cons.1 he with rfl | he
        · exact hd
        · exact h2 e he
/-- the parts between commas -/
def pieces : List UInt8 → List (List UInt8)
  | [] => [[]]
  | c :: l => if c = 44 then [] :: pieces l else match pieces l with
    | [] => [[c]]
    | p :: ps => (c :: p) :: ps
theorem pieces_plain : ∀ l : List UInt8, (∀ c ∈ l, c ≠ 44) → pieces l = [l]
  | [], _ => rfl
  | c :: l, h => by
    have e := pieces_plain l (fun d hd => h d (List.mem_cons_of_mem _ hd))
    simp only [pieces]
    rw [if_neg (h c (List.mem_cons_self ..)), e]
theorem pieces_cut : ∀ (f t : List UInt8), (∀ c ∈ f, c ≠ 44) → pieces (f ++ 44 :: t) = f :: pieces t
  | [], t, _ => by simp [pieces]
  | c :: f, t, h => by
    have e := pieces_cut f t (fun d hd => h d (List.mem_cons_of_mem _ hd))
    simp only [List.cons_append, pieces]
    rw [if_neg (h c (List.mem_cons_self ..)), e]
/-- what the parts give behind acc -/
def run (pages : Int) : List (List UInt8) → List Int → List Int × Int
  | [], acc => (acc, 0)
  | p :: ps, acc =>
    let r := refB (rdr p) pages
    if r.2.2 ≠ 0 then ([], r.2.2)
    else if 10000 < (acc ++ steps r.1 r.2.1).length then ([], 19)
    else run pages ps (acc ++ steps r.1 r.2.1)
def rangesL (l : List UInt8) (pages : Int) : List Int × Int :=
  if 200 < l.length then ([], 3) else if pages < 1 ∨ 500 < pages then ([], 2) else run pages (pieces l) []
theorem steps_len (a b : Int) : (steps a b).length = (b - a).natAbs + 1 := by simp [steps]
/-- the beginning of the way from a to b -/
theorem steps_take {a b : Int} {k : Nat} (h : k ≤ (b - a).natAbs) : (steps a b).take (k + 1) = (steps a b).take k ++ [if a ≤ b then a + k else a - k] := by
  rw [List.take_add_one]
  congr 1
  unfold steps
  rw [List.getElem?_map, List.getElem?_range (by omega)]
  rfl
theorem refB_bd {s : St} {pages : Int} (h : s.ok) (hp : 1 ≤ pages) (h0 : (refB s pages).2.2 = 0) : 1 ≤ (refB s pages).1 ∧ (refB s pages).1 ≤ pages ∧ 1 ≤ (refB s pages).2.1 ∧ (refB s pages).2.1 ≤ pages := by
  obtain ⟨h1, h2, h3, h4⟩ := h
  unfold refB at h0 ⊢
  obtain ⟨b0, hb0⟩ : ∃ b0, b0 = (if s.k = true then s.n1 else s.n0) := ⟨_, rfl⟩
  have hb : 0 ≤ b0 := by rw [hb0]; split <;> omega
  simp only [← hb0] at h0 ⊢
  by_cases hc : s.bad = true ∨ s.seen = false ∨ 10000 < s.n0 ∨ 10000 < s.n1
  · rw [if_pos hc] at h0
    exact absurd (show (10 : Int) = 0 from h0) (by decide)
  · rw [if_neg hc] at h0 ⊢
    obtain ⟨A, hA⟩ : ∃ A, A = (if s.n0 = 0 then 1 else s.n0) := ⟨_, rfl⟩
    obtain ⟨B, hB⟩ : ∃ B, B = (if b0 = 0 then pages else b0) := ⟨_, rfl⟩
    have hA1 : 1 ≤ A := by rw [hA]; split <;> omega
    have hB1 : 1 ≤ B := by rw [hB]; split <;> omega
    simp only [← hA, ← hB] at h0 ⊢
    by_cases hd : A > pages ∨ B > pages
    · rw [if_pos hd] at h0
      exact absurd (show (7 : Int) = 0 from h0) (by decide)
    · rw [if_neg hd]
      exact ⟨hA1, by show A ≤ pages; omega, hB1, by show B ≤ pages; omega⟩
end Go.Law.Pg
