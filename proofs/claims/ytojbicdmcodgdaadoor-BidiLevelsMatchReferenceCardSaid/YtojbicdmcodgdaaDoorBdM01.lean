/-
  BdPlain, BdChain, BdRuns, BdEdge, BdEmbed.
-/
import Derived.Test.YtojbicdmcodgdaaDoorBdM00
namespace Go.Law.Bd
open Go.Law
set_option linter.unusedVariables false
def isoB (k : Int) : Bool := decide (19 ≤ k ∧ k ≤ 21)
/-- the end of an isolate, from i on, with o of them open -/
def scanP (K : Nat → Int) (n : Nat) : Nat → Nat → Nat → Nat
  | 0, _, _ => n
  | f + 1, i, o =>
    if isoB (K i) then scanP K n f (i + 1) (o + 1)
    else if K i = 22 then (if o = 1 then i else scanP K n f (i + 1) (o - 1))
    else scanP K n f (i + 1) o
/-- the same, up to n -/
def scn (K : Nat → Int) (n i o : Nat) : Nat := scanP K n (n - i) i o
/-- the end of the isolate that begins at a place, or n -/
def partner (K : Nat → Int) (n i : Nat) : Nat := scn K n (i + 1) 1
section
variable {K : Nat → Int} {n i o : Nat}
theorem scn_end (h : n ≤ i) : scn K n i o = n := by unfold scn; rw [show n - i = 0 by omega]; rfl
theorem scn_iso (h : i < n) (hk : isoB (K i) = true) : scn K n i o = scn K n (i + 1) (o + 1) := by
  unfold scn
  obtain ⟨f, hf⟩ : ∃ f, n - i = f + 1 := ⟨n - i - 1, by omega⟩
  rw [hf, scanP, if_pos hk, show n - (i + 1) = f by omega]
theorem isoB_pdi : isoB 22 = false := by decide
theorem scn_hit (h : i < n) (hk : K i = 22) : scn K n i 1 = i := by
  unfold scn
  obtain ⟨f, hf⟩ : ∃ f, n - i = f + 1 := ⟨n - i - 1, by omega⟩
  rw [hf, scanP, if_neg (by rw [hk]; decide), if_pos hk, if_pos rfl]
theorem scn_pdi (h : i < n) (hk : K i = 22) (ho : o ≠ 1) : scn K n i o = scn K n (i + 1) (o - 1) := by
  unfold scn
  obtain ⟨f, hf⟩ : ∃ f, n - i = f + 1 := ⟨n - i - 1, by omega⟩
  rw [hf, scanP, if_neg (by rw [hk]; decide), if_pos hk, if_neg ho, show n - (i + 1) = f by omega]
theorem scn_other (h : i < n) (h1 : isoB (K i) = false) (h2 : K i ≠ 22) : scn K n i o = scn K n (i + 1) o := by
  unfold scn
  obtain ⟨f, hf⟩ : ∃ f, n - i = f + 1 := ⟨n - i - 1, by omega⟩
  rw [hf, scanP, if_neg (by rw [h1]; decide), if_neg h2, show n - (i + 1) = f by omega]
theorem scn_range : ∀ d i o, n - i = d → i ≤ n → i ≤ scn K n i o ∧ scn K n i o ≤ n := by
  intro d
  induction d with
  | zero => intro i o h1 h2; rw [scn_end (by omega)]; omega
  | succ d ih =>
    intro i o h1 h2
    have hi : i < n := by omega
    cases hk : isoB (K i) with
    | true => rw [scn_iso hi hk]; have := ih (i + 1) (o + 1) (by omega) (by omega); omega
    | false =>
      by_cases h22 : K i = 22
      · by_cases ho : o = 1
        · subst ho; rw [scn_hit hi h22]; omega
        · rw [scn_pdi hi h22 ho]; have := ih (i + 1) (o - 1) (by omega) (by omega); omega
      · rw [scn_other hi hk h22]; have := ih (i + 1) o (by omega) (by omega); omega
theorem partner_range (h : i < n) : i < partner K n i ∧ partner K n i ≤ n := by
  have := scn_range (K := K) (n := n) (n - (i + 1)) (i + 1) 1 rfl (by omega)
  unfold partner
  omega
/-- what lies at the end of an isolate -/
theorem scn_pdi_at : ∀ d i o, n - i = d → 1 ≤ o → scn K n i o < n → K (scn K n i o) = 22 := by
  intro d
  induction d with
  | zero => intro i o h1 h2 h3; rw [scn_end (by omega)] at h3; omega
  | succ d ih =>
    intro i o h1 h2 h3
    have hi : i < n := by omega
    cases hk : isoB (K i) with
    | true => rw [scn_iso hi hk] at h3 ⊢; exact ih (i + 1) (o + 1) (by omega) (by omega) h3
    | false =>
      by_cases h22 : K i = 22
      · by_cases ho : o = 1
        · subst ho; rw [scn_hit hi h22]; exact h22
        · rw [scn_pdi hi h22 ho] at h3 ⊢; exact ih (i + 1) (o - 1) (by omega) (by omega) h3
      · rw [scn_other hi hk h22] at h3 ⊢; exact ih (i + 1) o (by omega) (by omega) h3
end
/-- the program's first letter: from i on, in so many isolates; 'inner': it stops at an end that is none of theirs -/
def fstP (K : Nat → Int) (inner : Bool) : Nat → Nat → Nat → Int
  | 0, _, _ => 0
  | f + 1, i, d =>
    if isoB (K i) then fstP K inner f (i + 1) (d + 1)
    else if K i = 22 then (if d = 0 ∧ inner = true then 0 else fstP K inner f (i + 1) (d - 1))
    else if 0 < d then fstP K inner f (i + 1) d
    else if K i = 0 then 0
    else if K i = 1 ∨ K i = 2 then 1
    else if K i = 10 then 0
    else fstP K inner f (i + 1) d
def fst (K : Nat → Int) (n : Nat) (inner : Bool) (i d : Nat) : Int := fstP K inner (n - i) i d
/-- the reference's: -1 where there is none -/
def fltP (K : Nat → Int) (n t : Nat) : Nat → Nat → Int
  | 0, _ => -1
  | f + 1, i =>
    if t ≤ i then -1
    else if isoB (K i) then fltP K n t f (partner K n i + 1)
    else if K i = 0 then 0
    else if K i = 1 ∨ K i = 2 then 1
    else fltP K n t f (i + 1)
def flt (K : Nat → Int) (n i t : Nat) : Int := fltP K n t (n + 1 - i) i
section
variable {K : Nat → Int} {n : Nat} {inner : Bool}
theorem fst_end {i d : Nat} (h : n ≤ i) : fst K n inner i d = 0 := by unfold fst; rw [show n - i = 0 by omega]; rfl
theorem fst_step {i d : Nat} (h : i < n) : fst K n inner i d =
    if isoB (K i) then fst K n inner (i + 1) (d + 1)
    else if K i = 22 then (if d = 0 ∧ inner = true then 0 else fst K n inner (i + 1) (d - 1))
    else if 0 < d then fst K n inner (i + 1) d
    else if K i = 0 then 0
    else if K i = 1 ∨ K i = 2 then 1
    else if K i = 10 then 0
    else fst K n inner (i + 1) d := by
  unfold fst
  obtain ⟨f, hf⟩ : ∃ f, n - i = f + 1 := ⟨n - i - 1, by omega⟩
  rw [hf, show n - (i + 1) = f by omega]
  rfl
/-- within isolates: on behind their end -/
theorem fst_skip : ∀ k i d, n - i = k → 1 ≤ d → fst K n inner i d = fst K n inner (scn K n i d + 1) 0 := by
  intro k
  induction k with
  | zero => intro i d h1 h2; rw [fst_end (by omega), scn_end (by omega), fst_end (by omega)]
  | succ k ih =>
    intro i d h1 h2
    have hi : i < n := by omega
    rw [fst_step hi]
    cases hk : isoB (K i) with
    | true => rw [if_pos rfl, scn_iso hi hk]; exact ih (i + 1) (d + 1) (by omega) (by omega)
    | false =>
      rw [if_neg (by decide)]
      by_cases h22 : K i = 22
      · rw [if_pos h22, if_neg (by omega)]
        by_cases hd : d = 1
        · subst hd; rw [scn_hit hi h22]
        · rw [scn_pdi hi h22 hd]; exact ih (i + 1) (d - 1) (by omega) (by omega)
      · rw [if_neg h22, if_pos (by omega), scn_other hi hk h22]; exact ih (i + 1) d (by omega) h2
theorem scn_skip : ∀ k i o, n - i = k → 1 ≤ o → scn K n i (o + 1) = scn K n (scn K n i o + 1) 1 := by
  intro k
  induction k with
  | zero => intro i o h1 h2; rw [scn_end (by omega), scn_end (show n ≤ i by omega), scn_end (by omega)]
  | succ k ih =>
    intro i o h1 h2
    have hi : i < n := by omega
    cases hk : isoB (K i) with
    | true => rw [scn_iso hi hk, scn_iso (o := o) hi hk]; exact ih (i + 1) (o + 1) (by omega) (by omega)
    | false =>
      by_cases h22 : K i = 22
      · rw [scn_pdi (o := o + 1) hi h22 (by omega)]
        by_cases ho : o = 1
        · subst ho; rw [scn_hit hi h22]
        · rw [scn_pdi hi h22 ho]
          have := ih (i + 1) (o - 1) (by omega) (by omega)
          rw [show o - 1 + 1 = o by omega] at this
          exact this
      · rw [scn_other hi hk h22, scn_other hi hk h22]; exact ih (i + 1) o (by omega) h2
theorem fltP_fuel {t : Nat} (ht : t ≤ n) : ∀ f i, n + 1 - i ≤ f → fltP K n t f i = fltP K n t (n + 1 - i) i := by
  intro f
  induction f using Nat.strongRecOn with
  | _ f ih =>
    intro i hf
    rcases Nat.lt_or_ge n i with h | h
    · rw [show n + 1 - i = 0 by omega]
      cases f with
      | zero => rfl
      | succ f =>
        show (if t ≤ i then (-1 : Int) else _) = _
        rw [if_pos (by omega)]
        rfl
    · obtain ⟨f', rfl⟩ : ∃ f', f = f' + 1 := ⟨f - 1, by omega⟩
      obtain ⟨g, hg⟩ : ∃ g, n + 1 - i = g + 1 := ⟨n - i, by omega⟩
      rw [hg]
      unfold fltP
      by_cases h1 : t ≤ i
      · rw [if_pos h1, if_pos h1]
      · rw [if_neg h1, if_neg h1]
        have hin : i < n := by omega
        have hp := partner_range (K := K) hin
        have e1 := ih f' (by omega) (i + 1) (by omega)
        have e2 := ih f' (by omega) (partner K n i + 1) (by omega)
        rcases Nat.lt_or_ge g f' with h3 | h3
        · have e3 := ih g (by omega) (i + 1) (by omega)
          have e4 := ih g (by omega) (partner K n i + 1) (by omega)
          rw [e1, e2, e3, e4]
        · obtain rfl : g = f' := by omega
          rfl
theorem flt_end {i t : Nat} (h : t ≤ i) : flt K n i t = -1 := by
  unfold flt
  cases n + 1 - i with
  | zero => rfl
  | succ f => rw [fltP, if_pos h]
theorem flt_step {i t : Nat} (ht : t ≤ n) (h : i < t) : flt K n i t =
    if isoB (K i) then flt K n (partner K n i + 1) t
    else if K i = 0 then 0
    else if K i = 1 ∨ K i = 2 then 1
    else flt K n (i + 1) t := by
  have hp := partner_range (K := K) (show i < n by omega)
  unfold flt
  obtain ⟨f, hf⟩ : ∃ f, n + 1 - i = f + 1 := ⟨n - i, by omega⟩
  rw [hf, fltP, if_neg (by omega), fltP_fuel ht f (partner K n i + 1) (by omega), fltP_fuel ht f (i + 1) (by omega)]
/-- the two readings of the first letter agree -/
theorem first_all (hB : ∀ i, i < n → K i = 10 → i + 1 = n) : ∀ k i, n - i = k → (fst K n false i 0 = 1 ↔ flt K n i n = 1) := by
  intro k
  induction k using Nat.strongRecOn with
  | _ k ih =>
    intro i h
    rcases Nat.lt_or_ge i n with hi | hi
    · rw [fst_step hi, flt_step (Nat.le_refl _) hi]
      cases hk : isoB (K i) with
      | true =>
        rw [if_pos rfl, if_pos rfl, fst_skip _ _ _ rfl (by omega)]
        have hp := partner_range (K := K) hi
        exact ih (n - (partner K n i + 1)) (by omega) (partner K n i + 1) rfl
      | false =>
        simp only [Bool.false_eq_true, if_false]
        by_cases h22 : K i = 22
        · rw [if_pos h22, if_neg (by simp), if_neg (by omega), if_neg (by omega)]
          exact ih (n - (i + 1)) (by omega) (i + 1) rfl
        · rw [if_neg h22, if_neg (by omega)]
          by_cases h0 : K i = 0
          · rw [if_pos h0, if_pos h0]
          · rw [if_neg h0, if_neg h0]
            by_cases h1 : K i = 1 ∨ K i = 2
            · rw [if_pos h1, if_pos h1]
            · rw [if_neg h1, if_neg h1]
              by_cases h10 : K i = 10
              · rw [if_pos h10]
                have := hB i hi h10
                rw [flt_end (by omega)]
                simp
              · rw [if_neg h10]
                exact ih (n - (i + 1)) (by omega) (i + 1) rfl
    · rw [fst_end hi, flt_end hi]; simp
theorem first_inner (hB : ∀ i, i < n → K i = 10 → i + 1 = n) : ∀ k i, n - i = k → (fst K n true i 0 = 1 ↔ flt K n i (scn K n i 1) = 1) := by
  intro k
  induction k using Nat.strongRecOn with
  | _ k ih =>
    intro i h
    rcases Nat.lt_or_ge i n with hi | hi
    · have hr := scn_range (K := K) (n := n) (n - i) i 1 rfl (by omega)
      rw [fst_step hi]
      cases hk : isoB (K i) with
      | true =>
        have hp := partner_range (K := K) hi
        have e1 : scn K n i 1 = scn K n (partner K n i + 1) 1 := by
          rw [scn_iso hi hk]
          exact scn_skip _ (i + 1) 1 rfl (by omega)
        have hr2 := scn_range (K := K) (n := n) (n - (i + 1)) (i + 1) 2 rfl (by omega)
        have e2 : scn K n i 1 = scn K n (i + 1) 2 := scn_iso (o := 1) hi hk
        rw [if_pos rfl, fst_skip _ _ _ rfl (by omega), flt_step hr.2 (by omega), hk, if_pos rfl]
        show fst K n true (partner K n i + 1) 0 = 1 ↔ _
        rw [e1]
        exact ih (n - (partner K n i + 1)) (by omega) (partner K n i + 1) rfl
      | false =>
        simp only [Bool.false_eq_true, if_false]
        by_cases h22 : K i = 22
        · rw [if_pos h22, if_pos (by simp), scn_hit hi h22, flt_end (Nat.le_refl _)]; simp
        · have e1 := scn_other (o := 1) hi hk h22
          have hr2 := scn_range (K := K) (n := n) (n - (i + 1)) (i + 1) 1 rfl (by omega)
          rw [if_neg h22, if_neg (by omega), e1, flt_step hr2.2 (by omega), hk]
          simp only [Bool.false_eq_true, if_false]
          by_cases h0 : K i = 0
          · rw [if_pos h0, if_pos h0]
          · rw [if_neg h0, if_neg h0]
            by_cases h1 : K i = 1 ∨ K i = 2
            · rw [if_pos h1, if_pos h1]
            · rw [if_neg h1, if_neg h1]
              by_cases h10 : K i = 10
              · rw [if_pos h10]
                have := hB i hi h10
                rw [flt_end (by omega)]
                simp
              · rw [if_neg h10]
                exact ih (n - (i + 1)) (by omega) (i + 1) rfl
    · rw [fst_end hi, scn_end hi, flt_end hi]; simp
end
/-- the isolates that are open ahead of a place -/
def stk (K : Nat → Int) : Nat → List Nat
  | 0 => []
  | i + 1 => if isoB (K i) then stk K i ++ [i] else if K i = 22 then (stk K i).dropLast else stk K i
section
variable {K : Nat → Int} {n : Nat}
theorem stk_iso {i : Nat} (h : isoB (K i) = true) : stk K (i + 1) = stk K i ++ [i] := by rw [stk, if_pos h]
theorem stk_pdi {i : Nat} (h : K i = 22) : stk K (i + 1) = (stk K i).dropLast := by rw [stk, if_neg (by rw [h]; decide), if_pos h]
theorem stk_other {i : Nat} (h : isoB (K i) = false) (h2 : K i ≠ 22) : stk K (i + 1) = stk K i := by rw [stk, if_neg (by rw [h]; decide), if_neg h2]
theorem stk_lt : ∀ i j, j ∈ stk K i → j < i ∧ isoB (K j) = true := by
  intro i
  induction i with
  | zero => intro j hj; simp [stk] at hj
  | succ i ih =>
    intro j hj
    cases hk : isoB (K i) with
    | true =>
      rw [stk_iso hk, List.mem_append] at hj
      rcases hj with hj | hj
      · have := ih j hj; exact ⟨by omega, this.2⟩
      · simp at hj; subst hj; exact ⟨by omega, hk⟩
    | false =>
      by_cases h22 : K i = 22
      · rw [stk_pdi h22] at hj
        have := ih j (List.dropLast_subset _ hj); exact ⟨by omega, this.2⟩
      · rw [stk_other hk h22] at hj
        have := ih j hj; exact ⟨by omega, this.2⟩
theorem stk_len (i : Nat) : (stk K i).length ≤ i := by
  induction i with
  | zero => simp [stk]
  | succ i ih =>
    cases hk : isoB (K i) with
    | true => rw [stk_iso hk]; simp; exact ih
    | false =>
      by_cases h22 : K i = 22
      · rw [stk_pdi h22]; simp; omega
      · rw [stk_other hk h22]; omega
/-- each open isolate waits for as many ends as isolates have begun since -/
theorem stk_rank : ∀ i, i ≤ n → ∀ t (h : t < (stk K i).length), partner K n (stk K i)[t] = scn K n i ((stk K i).length - t) := by
  intro i
  induction i with
  | zero => intro _ t h; simp [stk] at h
  | succ i ih =>
    intro hi t h
    have hin : i < n := by omega
    cases hk : isoB (K i) with
    | true =>
      have e := stk_iso hk
      have hl : (stk K (i + 1)).length = (stk K i).length + 1 := by rw [e]; simp
      rcases Nat.lt_or_ge t (stk K i).length with h1 | h1
      · have e2 : (stk K (i + 1))[t] = (stk K i)[t] := by simp only [e]; rw [List.getElem_append_left h1]
        rw [e2, ih (by omega) t h1, hl, scn_iso hin hk]
        congr 1
        omega
      · have h2 : t = (stk K i).length := by omega
        have e2 : (stk K (i + 1))[t] = i := by simp only [e]; rw [List.getElem_append_right h1]; simp
        rw [e2, hl, h2, show (stk K i).length + 1 - (stk K i).length = 1 by omega]
        rfl
    | false =>
      by_cases h22 : K i = 22
      · have e := stk_pdi h22
        have hl : (stk K (i + 1)).length = (stk K i).length - 1 := by rw [e]; simp
        have h1 : t < (stk K i).length := by omega
        have e2 : (stk K (i + 1))[t] = (stk K i)[t] := by simp only [e]; rw [List.getElem_dropLast]
        rw [e2, ih (by omega) t h1, hl, scn_pdi hin h22 (by omega)]
        congr 1
        omega
      · have e := stk_other hk h22
        have h1 : t < (stk K i).length := by rw [e] at h; exact h
        have e2 : (stk K (i + 1))[t] = (stk K i)[t] := by simp only [e]
        rw [e2, ih (by omega) t h1, e, scn_other hin hk h22]
/-- what is no longer open has had its end -/
theorem stk_out : ∀ i, i ≤ n → ∀ j, j < i → isoB (K j) = true → j ∉ stk K i → partner K n j < i := by
  intro i
  induction i with
  | zero => intro _ j h; omega
  | succ i ih =>
    intro hi j hj hiso hn
    have hin : i < n := by omega
    cases hk : isoB (K i) with
    | true =>
      rw [stk_iso hk, List.mem_append] at hn
      rcases Nat.lt_or_ge j i with h1 | h1
      · have := ih (by omega) j h1 hiso (fun h => hn (.inl h)); omega
      · obtain rfl : j = i := by omega
        exact absurd (.inr (by simp)) hn
    | false =>
      by_cases h22 : K i = 22
      · rw [stk_pdi h22] at hn
        have hji : j < i := by
          rcases Nat.lt_or_ge j i with h1 | h1
          · exact h1
          · obtain rfl : j = i := by omega
            rw [h22] at hiso; cases hiso
        by_cases hm : j ∈ stk K i
        · obtain ⟨t, ht, e⟩ := List.getElem_of_mem hm
          rcases Nat.lt_or_ge t ((stk K i).length - 1) with h2 | h2
          · exact absurd (by rw [← e, ← List.getElem_dropLast (h := by simpa using h2)]; exact List.getElem_mem _) hn
          · have hr := stk_rank (K := K) (n := n) i (by omega) t ht
            rw [e, show (stk K i).length - t = 1 by omega, scn_hit hin h22] at hr
            omega
        · have := ih (by omega) j hji hiso hm; omega
      · rw [stk_other hk h22] at hn
        have hji : j < i := by
          rcases Nat.lt_or_ge j i with h1 | h1
          · exact h1
          · obtain rfl : j = i := by omega
            rw [hk] at hiso; cases hiso
        have := ih (by omega) j hji hiso hn; omega
/-- the ends as they are known ahead of a place -/
def matB (K : Nat → Int) (n i j : Nat) : Int := if isoB (K j) = true ∧ partner K n j < i then (partner K n j : Int) else -1
theorem matB_keep {i j : Nat} (hi : i < n) (hj : j < i) (hne : isoB (K j) = true → partner K n j ≠ i) : matB K n (i + 1) j = matB K n i j := by
  unfold matB
  by_cases h : isoB (K j) = true
  · have := hne h
    by_cases h2 : partner K n j < i
    · rw [if_pos ⟨h, by omega⟩, if_pos ⟨h, h2⟩]
    · rw [if_neg (fun x => by have := x.2; omega), if_neg (fun x => h2 x.2)]
  · rw [if_neg (fun x => h x.1), if_neg (fun x => h x.1)]
theorem matB_new {i : Nat} (hi : i < n) : matB K n (i + 1) i = -1 := by
  unfold matB
  have := partner_range (K := K) hi
  rw [if_neg (fun x => by have := x.2; omega)]
/-- no end here -/
theorem mat_none {i j : Nat} (hi : i < n) (hj : j < i) (hk : K i ≠ 22) : partner K n j ≠ i := by
  intro e
  have h := scn_pdi_at (K := K) (n := n) (n - (j + 1)) (j + 1) 1 rfl (by omega) (by show partner K n j < n; omega)
  have e2 : scn K n (j + 1) 1 = i := e
  rw [e2] at h
  exact hk h
/-- an end: the last open one's, and no other's -/
theorem mat_last {i : Nat} (hi : i < n) (hk : K i = 22) {l : List Nat} {a : Nat} (h : stk K i = l ++ [a]) : partner K n a = i ∧ a < i ∧ isoB (K a) = true ∧ ∀ j, j < i → isoB (K j) = true → j ≠ a → partner K n j ≠ i := by
  have hl : (stk K i).length = l.length + 1 := by rw [h]; simp
  have ha : (stk K i)[l.length]'(by omega) = a := by simp only [h]; rw [List.getElem_append_right (Nat.le_refl _)]; simp
  have hr := stk_rank (K := K) (n := n) i (by omega) l.length (by omega)
  rw [ha, hl, show l.length + 1 - l.length = 1 by omega, scn_hit hi hk] at hr
  have hm := stk_lt i a (by rw [h]; simp)
  refine ⟨hr, hm.1, hm.2, fun j hj hiso hne he => ?_⟩
  by_cases hmem : j ∈ stk K i
  · obtain ⟨t, ht, e⟩ := List.getElem_of_mem hmem
    have hr2 := stk_rank (K := K) (n := n) i (by omega) t ht
    rw [e] at hr2
    have htl : t < l.length := by
      rcases Nat.lt_or_ge t l.length with h1 | h1
      · exact h1
      · have : t = l.length := by omega
        subst this
        rw [ha] at e; exact absurd e.symm hne
    rw [scn_pdi hi hk (by omega)] at hr2
    have := scn_range (K := K) (n := n) (n - (i + 1)) (i + 1) ((stk K i).length - t - 1) rfl (by omega)
    omega
  · have := stk_out (K := K) (n := n) i (by omega) j hj hiso hmem
    omega
theorem mat_empty {i : Nat} (hi : i < n) (hk : K i = 22) (h : stk K i = []) : ∀ j, j < i → isoB (K j) = true → partner K n j ≠ i := by
  intro j hj hiso he
  have := stk_out (K := K) (n := n) i (by omega) j hj hiso (by rw [h]; simp)
  omega
end
def chP (nx : Nat → Nat) (q : Nat) : Nat → Nat → List Nat
  | 0, _ => []
  | f + 1, h => h :: (if nx h < q then chP nx q f (nx h) else [])
/-- the runs that follow a run, itself first, of the first q -/
def chn (nx : Nat → Nat) (q h : Nat) : List Nat := chP nx q (q - h) h
/-- whether a run follows no other -/
def hdB (nx : Nat → Nat) (q : Nat) : Bool := (List.range q).all fun x => decide (nx x ≠ q)
/-- the runs, of the first q, that follow no other -/
def hds (nx : Nat → Nat) (q : Nat) : List Nat := (List.range q).filter (hdB nx)
section
variable {nx : Nat → Nat} {q h p : Nat}
theorem chP_fuel (hg : ∀ x, x < nx x) : ∀ f g h, h < q → q - h ≤ f → q - h ≤ g → chP nx q f h = chP nx q g h := by
  intro f
  induction f with
  | zero => intro g h h1 h2 _; omega
  | succ f ih =>
    intro g h h1 h2 h3
    obtain ⟨g', rfl⟩ : ∃ g', g = g' + 1 := ⟨g - 1, by omega⟩
    rw [chP, chP]
    by_cases hn : nx h < q
    · rw [if_pos hn, if_pos hn]
      have := hg h
      rw [ih g' (nx h) hn (by omega) (by omega)]
    · rw [if_neg hn, if_neg hn]
theorem chn_step (hg : ∀ x, x < nx x) (h1 : h < q) : chn nx q h = h :: (if nx h < q then chn nx q (nx h) else []) := by
  unfold chn
  obtain ⟨g, hg2⟩ : ∃ g, q - h = g + 1 := ⟨q - h - 1, by omega⟩
  rw [hg2, chP]
  by_cases hn : nx h < q
  · rw [if_pos hn, if_pos hn]
    have := hg h
    rw [chP_fuel hg g (q - nx h) (nx h) hn (by omega) (by omega)]
  · rw [if_neg hn, if_neg hn]
theorem chn_ne (hg : ∀ x, x < nx x) (h1 : h < q) : chn nx q h ≠ [] := by rw [chn_step hg h1]; exact List.cons_ne_nil _ _
/-- one run more -/
theorem chn_more (hg : ∀ x, x < nx x) : ∀ d h, q - h = d → (h1 : h < q) →
    chn nx (q + 1) h = if nx ((chn nx q h).getLastD 0) = q then chn nx q h ++ [q] else chn nx q h := by
  intro d
  induction d using Nat.strongRecOn with
  | _ d ih =>
    intro h hd h1
    have hgh := hg h
    rw [chn_step hg (by omega : h < q + 1), chn_step hg h1]
    by_cases hn : nx h < q
    · rw [if_pos hn, if_pos (by omega : nx h < q + 1)]
      have hi := ih (q - nx h) (by omega) (nx h) rfl hn
      have hl : (h :: chn nx q (nx h)).getLastD 0 = (chn nx q (nx h)).getLastD 0 := by
        cases hc : chn nx q (nx h) with
        | nil => exact absurd hc (chn_ne hg hn)
        | cons a t => rfl
      rw [hl, hi]
      by_cases hx : nx ((chn nx q (nx h)).getLastD 0) = q
      · rw [if_pos hx, if_pos hx]; rfl
      · rw [if_neg hx, if_neg hx]
    · rw [if_neg hn]
      show _ = if nx h = q then [h] ++ [q] else [h]
      by_cases hx : nx h = q
      · rw [if_pos hx, if_pos (by omega), hx, chn_step hg (by omega : q < q + 1), if_neg (by have := hg q; omega)]; rfl
      · rw [if_neg hx, if_neg (by omega)]
/-- a chain of one -/
theorem chn_new (hg : ∀ x, x < nx x) : chn nx (q + 1) q = [q] := by
  rw [chn_step hg (by omega : q < q + 1), if_neg (by have := hg q; omega)]
theorem chn_lt (hg : ∀ x, x < nx x) : ∀ d h, q - h = d → h < q → ∀ p, p ∈ chn nx q h → h ≤ p ∧ p < q := by
  intro d
  induction d using Nat.strongRecOn with
  | _ d ih =>
    intro h hd h1 p hp
    have hgh := hg h
    rw [chn_step hg h1] at hp
    rcases List.mem_cons.mp hp with hp | hp
    · omega
    · by_cases hn : nx h < q
      · rw [if_pos hn] at hp
        have := ih (q - nx h) (by omega) (nx h) rfl hn p hp
        omega
      · rw [if_neg hn] at hp; simp at hp
/-- what follows a run of a chain is of the chain -/
theorem chn_next (hg : ∀ x, x < nx x) : ∀ d h, q - h = d → h < q → ∀ p, p ∈ chn nx q h → nx p < q → nx p ∈ chn nx q h := by
  intro d
  induction d using Nat.strongRecOn with
  | _ d ih =>
    intro h hd h1 p hp hlt
    have hgh := hg h
    rw [chn_step hg h1] at hp ⊢
    rcases List.mem_cons.mp hp with hp | hp
    · subst hp
      rw [if_pos hlt, chn_step hg hlt]
      exact List.mem_cons_of_mem _ List.mem_cons_self
    · by_cases hn : nx h < q
      · rw [if_pos hn] at hp ⊢
        exact List.mem_cons_of_mem _ (ih (q - nx h) (by omega) (nx h) rfl hn p hp hlt)
      · rw [if_neg hn] at hp; simp at hp
/-- a run of a chain is its first, or follows one of it -/
theorem chn_prev (hg : ∀ x, x < nx x) : ∀ d h, q - h = d → h < q → ∀ p, p ∈ chn nx q h → p = h ∨ ∃ x, x ∈ chn nx q h ∧ nx x = p := by
  intro d
  induction d using Nat.strongRecOn with
  | _ d ih =>
    intro h hd h1 p hp
    have hgh := hg h
    have hs := chn_step hg h1
    rw [hs] at hp
    rcases List.mem_cons.mp hp with hp | hp
    · exact Or.inl hp
    · by_cases hn : nx h < q
      · rw [if_pos hn] at hp hs
        right
        rcases ih (q - nx h) (by omega) (nx h) rfl hn p hp with h2 | ⟨x, h2, h3⟩
        · exact ⟨h, by rw [hs]; exact List.mem_cons_self, h2.symm⟩
        · exact ⟨x, by rw [hs]; exact List.mem_cons_of_mem _ h2, h3⟩
      · rw [if_neg hn] at hp; simp at hp
theorem hdB_no (h : hdB nx q = true) (hg : ∀ x, x < nx x) : ∀ x, nx x ≠ q := by
  intro x hx
  have := hg x
  unfold hdB at h
  rw [List.all_eq_true] at h
  have := h x (List.mem_range.mpr (by omega))
  rw [decide_eq_true_eq] at this
  exact this hx
theorem hdB_yes (h : hdB nx q = false) : ∃ x, x < q ∧ nx x = q := by
  unfold hdB at h
  rw [List.all_eq_false] at h
  obtain ⟨x, h1, h2⟩ := h
  exact ⟨x, List.mem_range.mp h1, by simpa using h2⟩
/-- every run is of one chain -/
theorem chn_all (hg : ∀ x, x < nx x) : ∀ d p, p = d → p < q → ∃ h, h ≤ p ∧ hdB nx h = true ∧ p ∈ chn nx q h := by
  intro d
  induction d using Nat.strongRecOn with
  | _ d ih =>
    intro p hd hp
    cases hb : hdB nx p with
    | true => exact ⟨p, Nat.le_refl _, hb, by rw [chn_step hg hp]; exact List.mem_cons_self⟩
    | false =>
      obtain ⟨x, h1, h2⟩ := hdB_yes hb
      obtain ⟨h, h3, h4, h5⟩ := ih x (by omega) x rfl (by omega)
      refine ⟨h, by omega, h4, ?_⟩
      rw [← h2]
      exact chn_next hg _ h rfl (by omega) x h5 (by omega)
theorem chn_one (hg : ∀ x, x < nx x) (hinj : ∀ x y, x < q → y < q → nx x = nx y → nx x < q → x = y) {h' : Nat} (hh : hdB nx h = true) (hh' : hdB nx h' = true)
    (h1 : h < q) (h1' : h' < q) : ∀ d p, p = d → p ∈ chn nx q h → p ∈ chn nx q h' → h = h' := by
  intro d
  induction d using Nat.strongRecOn with
  | _ d ih =>
    intro p hd hp hp'
    rcases chn_prev hg _ h rfl h1 p hp with h2 | ⟨x, h2, h3⟩
    · rcases chn_prev hg _ h' rfl h1' p hp' with h4 | ⟨y, h4, h5⟩
      · omega
      · subst h2; exact absurd h5 (hdB_no hh hg y)
    · rcases chn_prev hg _ h' rfl h1' p hp' with h4 | ⟨y, h4, h5⟩
      · subst h4; exact absurd h3 (hdB_no hh' hg x)
      · have hx := chn_lt hg _ h rfl h1 x h2
        have hy := chn_lt hg _ h' rfl h1' y h4
        have hpq := chn_lt hg _ h rfl h1 p hp
        have := hinj x y hx.2 hy.2 (by omega) (by omega)
        subst this
        have := hg x
        exact ih x (by omega) x rfl h2 h4
/-- the last run of a chain -/
theorem chn_last (hg : ∀ x, x < nx x) : ∀ d h, q - h = d → h < q → (chn nx q h).getLastD 0 ∈ chn nx q h ∧ q ≤ nx ((chn nx q h).getLastD 0) := by
  intro d
  induction d using Nat.strongRecOn with
  | _ d ih =>
    intro h hd h1
    have hgh := hg h
    rw [chn_step hg h1]
    by_cases hn : nx h < q
    · rw [if_pos hn]
      have hi := ih (q - nx h) (by omega) (nx h) rfl hn
      have hl : (h :: chn nx q (nx h)).getLastD 0 = (chn nx q (nx h)).getLastD 0 := by
        cases hc : chn nx q (nx h) with
        | nil => exact absurd hc (chn_ne hg hn)
        | cons a t => rfl
      rw [hl]
      exact ⟨List.mem_cons_of_mem _ hi.1, hi.2⟩
    · rw [if_neg hn]
      exact ⟨List.mem_cons_self, by show q ≤ nx h; omega⟩
/-- a run that follows nothing begins a chain -/
theorem hds_new (h : hdB nx q = true) : hds nx (q + 1) = hds nx q ++ [q] := by
  unfold hds; rw [List.range_succ, List.filter_append, List.filter_cons_of_pos h]; rfl
theorem hds_old (h : hdB nx q = false) : hds nx (q + 1) = hds nx q := by
  unfold hds; rw [List.range_succ, List.filter_append, List.filter_cons_of_neg (by simp [h])]; simp
theorem hds_mem (h1 : h ∈ hds nx q) : h < q ∧ hdB nx h = true := by
  unfold hds at h1
  have := List.mem_filter.mp h1
  exact ⟨List.mem_range.mp this.1, this.2⟩
/-- a run that follows another: one chain alone ends with that -/
theorem chn_join (hg : ∀ x, x < nx x) (h : hdB nx q = false) : ∃ h, h ∈ hds nx q ∧ nx ((chn nx q h).getLastD 0) = q := by
  obtain ⟨x, h1, h2⟩ := hdB_yes h
  obtain ⟨a, h3, h4, h5⟩ := chn_all hg _ x rfl h1
  refine ⟨a, ?_, ?_⟩
  · unfold hds; exact List.mem_filter.mpr ⟨List.mem_range.mpr (by omega), h4⟩
  · have haq : a < q := by omega
    clear h3 h4
    -- a run of the chain that nothing follows is its last
    have : ∀ d a, q - a = d → a < q → x ∈ chn nx q a → (chn nx q a).getLastD 0 = x := by
      intro d
      induction d using Nat.strongRecOn with
      | _ d ih =>
        intro a hd ha hx
        have hga := hg a
        rw [chn_step hg ha] at hx ⊢
        by_cases hn : nx a < q
        · rw [if_pos hn] at hx ⊢
          rcases List.mem_cons.mp hx with hx | hx
          · subst hx; omega
          · have hl : (a :: chn nx q (nx a)).getLastD 0 = (chn nx q (nx a)).getLastD 0 := by
              cases hc : chn nx q (nx a) with
              | nil => exact absurd hc (chn_ne hg hn)
              | cons b t => rfl
            rw [hl]
            exact ih (q - nx a) (by omega) (nx a) rfl hn hx
        · rw [if_neg hn] at hx ⊢
          simp at hx; subst hx; rfl
    rw [this _ a rfl haq h5, h2]
theorem chn_join_one (hg : ∀ x, x < nx x) (hinj : ∀ x y, nx x = nx y → nx x = q → x = y) (hinj2 : ∀ x y, x < q → y < q → nx x = nx y → nx x < q → x = y)
    {h' : Nat} (h1 : h ∈ hds nx q) (h2 : h' ∈ hds nx q) (h3 : nx ((chn nx q h).getLastD 0) = q) (h4 : nx ((chn nx q h').getLastD 0) = q) : h = h' := by
  obtain ⟨a1, a2⟩ := hds_mem h1
  obtain ⟨b1, b2⟩ := hds_mem h2
  have := hinj ((chn nx q h).getLastD 0) ((chn nx q h').getLastD 0) (by rw [h3, h4]) h3
  have hm := (chn_last hg _ h rfl a1).1
  have hm' := (chn_last hg _ h' rfl b1).1
  rw [← this] at hm'
  exact chn_one hg hinj2 a2 b2 a1 b1 _ _ rfl hm hm'
/-- a run that follows nothing is joined to nothing -/
theorem chn_join_no (hg : ∀ x, x < nx x) (h : hdB nx q = true) : ∀ h, nx ((chn nx q h).getLastD 0) ≠ q := fun _ => hdB_no h hg _
end
/-- the runs of the places ahead of one -/
def rnsAt (O : Nat → Bool) (L : Nat → Int) : Nat → List (List Nat)
  | 0 => []
  | i + 1 =>
    if O i = true then rnsAt O L i
    else if rnsAt O L i ≠ [] ∧ L (((rnsAt O L i).getLastD []).headD 0) = L i then
      (rnsAt O L i).dropLast ++ [(rnsAt O L i).getLastD [] ++ [i]]
    else rnsAt O L i ++ [[i]]
/-- a run, by its number -/
def rnG (R : List (List Nat)) (p : Nat) : List Nat := R.getD p []
/-- the run that begins at a place -/
def rnI (R : List (List Nat)) (m : Nat) : Nat := R.findIdx fun r => decide (r.headD 0 = m)
/-- the run that follows a run over an isolate; behind all: none -/
def rnX (K : Nat → Int) (n : Nat) (R : List (List Nat)) (p : Nat) : Nat :=
  if p < R.length ∧ isoB (K ((rnG R p).getLastD 0)) = true ∧ rnI R (partner K n ((rnG R p).getLastD 0)) < R.length then
    rnI R (partner K n ((rnG R p).getLastD 0))
  else R.length + p + 1
structure RnsOk (O : Nat → Bool) (i : Nat) (R : List (List Nat)) : Prop where
  ne : ∀ r, r ∈ R → r ≠ []
  flat : R.flatten = (List.range i).filter fun x => !O x
section
variable {O : Nat → Bool} {L : Nat → Int} {K : Nat → Int} {n i p q m : Nat} {R : List (List Nat)}
theorem last_split {α : Type} {l : List α} {d : α} (h : l ≠ []) : l = l.dropLast ++ [l.getLastD d] := by
  rw [List.getLastD_eq_getLast?, List.getLast?_eq_some_getLast h]
  exact (List.dropLast_concat_getLast h).symm
theorem rns_ok : ∀ i, RnsOk O i (rnsAt O L i) := by
  intro i
  induction i with
  | zero => exact ⟨fun r h => by simp [rnsAt] at h, by simp [rnsAt]⟩
  | succ i ih =>
    rw [rnsAt]
    split
    · rename_i h
      exact ⟨ih.ne, by rw [ih.flat, List.range_succ, List.filter_append]; simp [h]⟩
    · rename_i h
      split
      · rename_i h2
        have hs := last_split (d := []) h2.1
        refine ⟨?_, ?_⟩
        · intro r hr
          rcases List.mem_append.mp hr with hr | hr
          · exact ih.ne r (List.dropLast_subset _ hr)
          · simp at hr; subst hr; simp
        · have hf := ih.flat
          rw [hs, List.flatten_append] at hf
          rw [List.range_succ, List.filter_append, ← hf]
          simp [h]
      · refine ⟨?_, ?_⟩
        · intro r hr
          rcases List.mem_append.mp hr with hr | hr
          · exact ih.ne r hr
          · simp at hr; subst hr; simp
        · rw [List.flatten_append, ih.flat, List.range_succ, List.filter_append]; simp [h]
theorem rnG_mem (h : p < R.length) : rnG R p ∈ R := by unfold rnG; rw [List.getD_eq_getElem?_getD, List.getElem?_eq_getElem h]; exact List.getElem_mem h
theorem getLastD_mem {α : Type} {l : List α} {d : α} (h : l ≠ []) : l.getLastD d ∈ l := by
  rw [List.getLastD_eq_getLast?, List.getLast?_eq_some_getLast h]; exact List.getLast_mem h
theorem headD_mem {α : Type} {l : List α} {d : α} (h : l ≠ []) : l.headD d ∈ l := by
  cases l with
  | nil => exact absurd rfl h
  | cons a t => exact List.mem_cons_self
theorem rns_place (h : RnsOk O i R) {x : Nat} (hp : p < R.length) (hx : x ∈ rnG R p) : x < i ∧ O x = false := by
  have : x ∈ R.flatten := List.mem_flatten.mpr ⟨_, rnG_mem hp, hx⟩
  rw [h.flat] at this
  have := List.mem_filter.mp this
  exact ⟨List.mem_range.mp this.1, by simpa using this.2⟩
theorem rns_pair (h : RnsOk O i R) : (∀ r, r ∈ R → r.Pairwise (· < ·)) ∧ R.Pairwise fun a b => ∀ x, x ∈ a → ∀ y, y ∈ b → x < y := by
  have : (R.flatten).Pairwise (· < ·) := by
    rw [h.flat]; exact (List.pairwise_lt_range).filter _
  exact List.pairwise_flatten.mp this
/-- the places of a later run are behind those of an earlier one -/
theorem rns_lt (h : RnsOk O i R) {x y : Nat} (hq : q < R.length) (hpq : p < q) (hx : x ∈ rnG R p) (hy : y ∈ rnG R q) : x < y := by
  have hp : p < R.length := by omega
  have := List.pairwise_iff_getElem.mp (rns_pair h).2 p q hp hq hpq x
  unfold rnG at hx hy
  rw [List.getD_eq_getElem?_getD, List.getElem?_eq_getElem hp] at hx
  rw [List.getD_eq_getElem?_getD, List.getElem?_eq_getElem hq] at hy
  exact this hx y hy
theorem rn_in (h : RnsOk O i R) (hp : p < R.length) : rnG R p ≠ [] := h.ne _ (rnG_mem hp)
theorem rn_last (h : RnsOk O i R) (hp : p < R.length) : (rnG R p).getLastD 0 ∈ rnG R p := getLastD_mem (rn_in h hp)
theorem rn_head (h : RnsOk O i R) (hp : p < R.length) : (rnG R p).headD 0 ∈ rnG R p := headD_mem (rn_in h hp)
/-- runs begin at different places -/
theorem rn_heads (h : RnsOk O i R) (hp : p < R.length) (hq : q < R.length) (he : (rnG R p).headD 0 = (rnG R q).headD 0) : p = q := by
  rcases Nat.lt_trichotomy p q with hl | hl | hl
  · have := rns_lt h hq hl (rn_head h hp) (rn_head h hq); omega
  · exact hl
  · have := rns_lt h hp hl (rn_head h hq) (rn_head h hp); omega
theorem rn_lasts (h : RnsOk O i R) (hp : p < R.length) (hq : q < R.length) (he : (rnG R p).getLastD 0 = (rnG R q).getLastD 0) : p = q := by
  rcases Nat.lt_trichotomy p q with hl | hl | hl
  · have := rns_lt h hq hl (rn_last h hp) (rn_last h hq); omega
  · exact hl
  · have := rns_lt h hp hl (rn_last h hq) (rn_last h hp); omega
theorem rnI_head (h : rnI R m < R.length) : (rnG R (rnI R m)).headD 0 = m := by
  have := List.findIdx_getElem (w := h)
  unfold rnG
  rw [List.getD_eq_getElem?_getD, List.getElem?_eq_getElem h]
  exact of_decide_eq_true this
theorem rnI_le : rnI R m ≤ R.length := List.findIdx_le_length
/-- a run is the one that begins where it begins -/
theorem rnI_eq (h : RnsOk O i R) (hp : p < R.length) (he : (rnG R p).headD 0 = m) : rnI R m = p := by
  have hl : rnI R m < R.length := by
    unfold rnI
    refine List.findIdx_lt_length_of_exists ⟨rnG R p, rnG_mem hp, by simpa using he⟩
  exact rn_heads h hl hp (by rw [rnI_head hl, he])
theorem rnX_lt (h : RnsOk O i R) (hin : i ≤ n) : ∀ x, x < rnX K n R x := by
  intro x
  unfold rnX
  split
  · rename_i hc
    obtain ⟨h1, h2, h3⟩ := hc
    have hh := rnI_head h3
    have hx := rns_place h h1 (rn_last h h1)
    have hr := partner_range (K := K) (n := n) (i := (rnG R x).getLastD 0) (by omega)
    rcases Nat.lt_trichotomy x (rnI R (partner K n ((rnG R x).getLastD 0))) with hl | hl | hl
    · exact hl
    · -- it would begin behind its own end
      exfalso
      have h4 := rn_last h h1
      have h5 := rn_head h h1
      rw [← hl] at hh
      have hpw := (rns_pair h).1 _ (rnG_mem h1)
      have : (rnG R x).headD 0 ≤ (rnG R x).getLastD 0 := by
        cases hc : rnG R x with
        | nil => exact absurd hc (rn_in h h1)
        | cons a t =>
          rw [hc] at hpw h4
          rcases List.mem_cons.mp h4 with h6 | h6
          · rw [h6]; exact Nat.le_refl _
          · have := (List.pairwise_cons.mp hpw).1 _ h6
            show a ≤ _
            omega
      omega
    · exfalso
      have := rns_lt h h1 hl (rn_head h h3) (rn_last h h1)
      rw [hh] at this; omega
  · omega
/-- two isolates have different ends -/
theorem partner_inj {a b : Nat} (ha : isoB (K a) = true) (hb : isoB (K b) = true) (han : a < n) (hbn : b < n) (he : partner K n a = partner K n b)
    (hlt : partner K n a < n) : a = b := by
  have h1 := partner_range (K := K) han
  have h2 := partner_range (K := K) hbn
  have hk : K (partner K n a) = 22 := scn_pdi_at _ _ _ rfl (by omega) hlt
  by_cases hs : stk K (partner K n a) = []
  · exact absurd rfl (mat_empty hlt hk hs a (by omega) ha)
  · have hsp := last_split (d := 0) hs
    obtain ⟨c1, c2, c3, c4⟩ := mat_last hlt hk hsp
    have e1 : a = (stk K (partner K n a)).getLastD 0 := by
      apply Classical.byContradiction
      intro hne
      exact c4 a (by omega) ha hne rfl
    have e2 : b = (stk K (partner K n a)).getLastD 0 := by
      apply Classical.byContradiction
      intro hne
      exact c4 b (by omega) hb hne he.symm
    rw [e2]; exact e1
theorem rnI_place (h : RnsOk O i R) (h1 : rnI R m < R.length) : m < i := by
  have := (rns_place h h1 (rn_head h h1)).1
  rw [rnI_head h1] at this
  exact this
/-- no two runs are followed by the same one -/
theorem rnX_inj (h : RnsOk O i R) (hin : i ≤ n) : ∀ x y, rnX K n R x = rnX K n R y → x = y := by
  intro x y he
  by_cases hx : x < R.length ∧ isoB (K ((rnG R x).getLastD 0)) = true ∧ rnI R (partner K n ((rnG R x).getLastD 0)) < R.length
  · by_cases hy : y < R.length ∧ isoB (K ((rnG R y).getLastD 0)) = true ∧ rnI R (partner K n ((rnG R y).getLastD 0)) < R.length
    · unfold rnX at he
      rw [if_pos hx, if_pos hy] at he
      have h1 := rnI_head hx.2.2
      have h2 := rnI_head hy.2.2
      rw [he, h2] at h1
      have hp := rnI_place h hx.2.2
      have a1 := rns_place h hx.1 (rn_last h hx.1)
      have a2 := rns_place h hy.1 (rn_last h hy.1)
      have := partner_inj hx.2.1 hy.2.1 (by omega) (by omega) h1.symm (by omega)
      exact rn_lasts h hx.1 hy.1 this
    · unfold rnX at he
      rw [if_pos hx, if_neg hy] at he
      have := hx.2.2
      omega
  · by_cases hy : y < R.length ∧ isoB (K ((rnG R y).getLastD 0)) = true ∧ rnI R (partner K n ((rnG R y).getLastD 0)) < R.length
    · unfold rnX at he
      rw [if_neg hx, if_pos hy] at he
      have := hy.2.2
      omega
    · unfold rnX at he
      rw [if_neg hx, if_neg hy] at he
      omega
/-- what the reference asks of a chain's last place and a run -/
theorem rnX_ask (h : RnsOk O i R) (hp : p < R.length) (hq : q < R.length) :
    (isoB (K ((rnG R p).getLastD 0)) = true ∧ partner K n ((rnG R p).getLastD 0) = (rnG R q).headD 0) ↔ rnX K n R p = q := by
  constructor
  · rintro ⟨h1, h2⟩
    have h3 := rnI_eq h hq h2.symm
    unfold rnX
    rw [if_pos ⟨hp, h1, by rw [h3]; exact hq⟩, h3]
  · intro h1
    unfold rnX at h1
    by_cases hc : p < R.length ∧ isoB (K ((rnG R p).getLastD 0)) = true ∧ rnI R (partner K n ((rnG R p).getLastD 0)) < R.length
    · rw [if_pos hc] at h1
      refine ⟨hc.2.1, ?_⟩
      have := rnI_head hc.2.2
      rw [h1] at this
      exact this.symm
    · rw [if_neg hc] at h1
      omega
end
/-- the level of the last place ahead that takes part -/
def ahL (O : Nat → Bool) (L : Nat → Int) (base : Int) : Nat → Int
  | 0 => base
  | k + 1 => if O k = true then ahL O L base k else L k
def beLP (O : Nat → Bool) (L : Nat → Int) (base : Int) : Nat → Nat → Int
  | 0, _ => base
  | f + 1, k => if O k = true then beLP O L base f (k + 1) else L k
/-- the level of the first place, from one on, that takes part -/
def beL (O : Nat → Bool) (L : Nat → Int) (base : Int) (n k : Nat) : Int := beLP O L base (n - k) k
def sideB (lev : Int) : Int := if lev % 2 = 1 then 1 else 0
/-- the class ahead of a sequence -/
def befB (O : Nat → Bool) (L : Nat → Int) (base own : Int) (a : Nat) : Int := sideB (max (ahL O L base a) own)
/-- the class behind a sequence -/
def aftB (O : Nat → Bool) (L : Nat → Int) (K : Nat → Int) (base own : Int) (n z : Nat) : Int :=
  sideB (max (if isoB (K z) = true ∧ n ≤ partner K n z then base else beL O L base n (z + 1)) own)
/-- the places of a chain of runs -/
def atB (R : List (List Nat)) (c : List Nat) : List Nat := (c.map (rnG R)).flatten
section
variable {O : Nat → Bool} {L K : Nat → Int} {base own : Int} {n i k : Nat} {R : List (List Nat)} {nx : Nat → Nat}
theorem beL_end (h : n ≤ k) : beL O L base n k = base := by unfold beL; rw [show n - k = 0 by omega]; rfl
theorem beL_step (h : k < n) : beL O L base n k = if O k = true then beL O L base n (k + 1) else L k := by
  unfold beL
  obtain ⟨f, hf⟩ : ∃ f, n - k = f + 1 := ⟨n - k - 1, by omega⟩
  rw [hf, beLP, show n - (k + 1) = f by omega]
theorem sideB_even (lev : Int) : sideB lev = if lev % 2 = 0 then 0 else 1 := by unfold sideB; split <;> split <;> omega
theorem sideB_range (lev : Int) : sideB lev = 0 ∨ sideB lev = 1 := by unfold sideB; split <;> omega
theorem ahL_mem : ∀ k, ahL O L base k = base ∨ ∃ j, j < k ∧ O j = false ∧ ahL O L base k = L j := by
  intro k
  induction k with
  | zero => exact Or.inl rfl
  | succ k ih =>
    rw [ahL]
    cases ho : O k with
    | true =>
      rw [if_pos rfl]
      rcases ih with h | ⟨j, h1, h2, h3⟩
      · exact Or.inl h
      · exact Or.inr ⟨j, by omega, h2, h3⟩
    | false => rw [if_neg (by simp)]; exact Or.inr ⟨k, by omega, ho, rfl⟩
theorem beL_mem : ∀ d k, n - k = d → beL O L base n k = base ∨ ∃ j, k ≤ j ∧ j < n ∧ O j = false ∧ beL O L base n k = L j := by
  intro d
  induction d with
  | zero => intro k h; exact Or.inl (beL_end (by omega))
  | succ d ih =>
    intro k h
    rw [beL_step (by omega)]
    cases ho : O k with
    | true =>
      rw [if_pos rfl]
      rcases ih (k + 1) (by omega) with h | ⟨j, h1, h2, h3, h4⟩
      · exact Or.inl h
      · exact Or.inr ⟨j, by omega, h2, h3, h4⟩
    | false => rw [if_neg (by simp)]; exact Or.inr ⟨k, Nat.le_refl _, by omega, ho, rfl⟩
/-- the program's question of the last place is the reference's -/
theorem mat_ask {z : Nat} (hz : z < n) : (isoB (K z) = false ∨ 0 ≤ matB K n n z) ↔ ¬ (isoB (K z) = true ∧ n ≤ partner K n z) := by
  unfold matB
  cases hi : isoB (K z) with
  | false => simp
  | true =>
    have := partner_range (K := K) hz
    by_cases hp : partner K n z < n
    · simp [hp]
    · simp [hp]
/-- runs of a chain are in order -/
theorem chn_sorted (hg : ∀ x, x < nx x) {q : Nat} : ∀ d h, q - h = d → h < q → (chn nx q h).Pairwise (· < ·) := by
  intro d
  induction d using Nat.strongRecOn with
  | _ d ih =>
    intro h hd h1
    have hgh := hg h
    rw [chn_step hg h1]
    by_cases hn : nx h < q
    · rw [if_pos hn]
      refine List.pairwise_cons.mpr ⟨?_, ih (q - nx h) (by omega) (nx h) rfl hn⟩
      intro p hp
      have := chn_lt hg _ (nx h) rfl hn p hp
      omega
    · rw [if_neg hn]; exact List.pairwise_singleton _ _
/-- and so are its places -/
theorem atB_sorted (h : RnsOk O i R) {c : List Nat} (hc : c.Pairwise (· < ·)) (hl : ∀ p, p ∈ c → p < R.length) : (atB R c).Pairwise (· < ·) := by
  unfold atB
  rw [List.pairwise_flatten]
  refine ⟨?_, ?_⟩
  · intro r hr
    obtain ⟨p, hp, rfl⟩ := List.mem_map.mp hr
    exact (rns_pair h).1 _ (rnG_mem (hl p hp))
  · rw [List.pairwise_map]
    refine List.Pairwise.imp_of_mem ?_ hc
    intro a b ha hb hab x hx y hy
    exact rns_lt h (hl b hb) hab hx hy
theorem atB_place (h : RnsOk O i R) {c : List Nat} (hl : ∀ p, p ∈ c → p < R.length) {x : Nat} (hx : x ∈ atB R c) : x < i ∧ O x = false := by
  unfold atB at hx
  obtain ⟨r, hr, hxr⟩ := List.mem_flatten.mp hx
  obtain ⟨p, hp, rfl⟩ := List.mem_map.mp hr
  exact rns_place h (hl p hp) hxr
theorem atB_app (c c' : List Nat) : atB R (c ++ c') = atB R c ++ atB R c' := by unfold atB; rw [List.map_append, List.flatten_append]
/-- the last place of a chain is that of its last run -/
theorem atB_last (h : RnsOk O i R) {c : List Nat} (hne : c ≠ []) (hl : ∀ p, p ∈ c → p < R.length) : (atB R c).getLastD 0 = (rnG R (c.getLastD 0)).getLastD 0 := by
  have hs := last_split (d := 0) hne
  have hne2 := rn_in h (hl _ (getLastD_mem (d := 0) hne))
  have hs2 := last_split (d := 0) hne2
  have e : atB R c = atB R c.dropLast ++ rnG R (c.getLastD 0) := by
    have := atB_app (R := R) c.dropLast [c.getLastD 0]
    rw [← hs] at this
    rw [this]; simp [atB]
  rw [e, hs2, ← List.append_assoc]
  simp
end
/-- an entry of the stack of embeddings -/
structure Ent where
  lev : Int
  ovr : Int
  iso : Bool
/-- the state of the walk over a paragraph; the top of the stack is ahead -/
structure Est where
  st : List Ent
  oi : Nat
  oe : Nat
  va : Nat
def upB (lev : Int) (odd : Bool) : Int := if (lev + 1) % 2 = (if odd then 1 else 0) then lev + 1 else lev + 2
/-- whether the next embedding is odd -/
def oddB (K : Nat → Int) (n i : Nat) : Bool :=
  decide (K i = 15 ∨ K i = 17 ∨ K i = 20 ∨ (K i = 21 ∧ fst K n true (i + 1) 0 = 1))
/-- an entry, counted from below -/
def entAt (b : Ent) (S : List Ent) (j : Nat) : Ent := S.reverse.getD j b
def topB (b : Ent) (S : List Ent) : Ent := S.headD b
/-- the stack with the topmost isolate gone -/
def popI : List Ent → List Ent
  | [] => []
  | e :: t => if e.iso = true then t else popI t
def ovrOf (k : Int) : Int := if k = 17 then 1 else if k = 16 then 0 else -1
def isEmb (k : Int) : Prop := k = 14 ∨ k = 15 ∨ k = 16 ∨ k = 17
instance {k : Int} : Decidable (isEmb k) := by unfold isEmb; infer_instance
def nextB (b : Ent) (K : Nat → Int) (n i : Nat) (e : Est) : Int := upB (topB b e.st).lev (oddB K n i)
def fitsB (b : Ent) (K : Nat → Int) (n i : Nat) (e : Est) : Prop := nextB b K n i e ≤ 125 ∧ e.oi = 0 ∧ e.oe = 0
instance {b : Ent} {K : Nat → Int} {n i : Nat} {e : Est} : Decidable (fitsB b K n i e) := by unfold fitsB; infer_instance
/-- one character -/
def estStep (b : Ent) (K : Nat → Int) (n i : Nat) (e : Est) : Est :=
  if isEmb (K i) then
    if fitsB b K n i e then { e with st := ⟨nextB b K n i e, ovrOf (K i), false⟩ :: e.st }
    else if e.oi = 0 then { e with oe := e.oe + 1 } else e
  else if isoB (K i) = true then
    if fitsB b K n i e then { e with st := ⟨nextB b K n i e, -1, true⟩ :: e.st, va := e.va + 1 } else { e with oi := e.oi + 1 }
  else if K i = 22 then
    if 0 < e.oi then { e with oi := e.oi - 1 }
    else if 0 < e.va then { e with st := popI e.st, oe := 0, va := e.va - 1 } else e
  else if K i = 18 then
    if 0 < e.oi then e
    else if 0 < e.oe then { e with oe := e.oe - 1 }
    else if (topB b e.st).iso = false ∧ 1 < e.st.length then { e with st := e.st.tail } else e
  else e
/-- the state ahead of a place -/
def estAt (b : Ent) (K : Nat → Int) (n : Nat) : Nat → Est
  | 0 => ⟨[b], 0, 0, 0⟩
  | i + 1 => estStep b K n i (estAt b K n i)
/-- the entry that decides a character -/
def decB (b : Ent) (K : Nat → Int) (n i : Nat) : Ent :=
  if K i = 22 then topB b (estAt b K n (i + 1)).st else topB b (estAt b K n i).st
def lvE (b : Ent) (K : Nat → Int) (n i : Nat) : Int := if K i = 10 then b.lev else (decB b K n i).lev
def ouE (K : Nat → Int) (i : Nat) : Bool := decide (K i = 9 ∨ (14 ≤ K i ∧ K i ≤ 18))
def clE (b : Ent) (K : Nat → Int) (n i : Nat) : Int :=
  if ouE K i = true ∨ K i = 10 then K i else if 0 ≤ (decB b K n i).ovr then (decB b K n i).ovr else K i
/-- what always holds -/
structure EstOk (b : Ent) (B : Nat) (e : Est) : Prop where
  low : ∃ S, e.st = S ++ [b]
  cnt : e.va = (e.st.filter (·.iso)).length
  lev : ∀ x, x ∈ e.st → 0 ≤ x.lev ∧ x.lev ≤ 125
  ovr : ∀ x, x ∈ e.st → -1 ≤ x.ovr ∧ x.ovr ≤ 1
  len : e.st.length ≤ B + 1
  oi : e.oi ≤ B
  oe : e.oe ≤ B
  va : e.va ≤ B
section
variable {b : Ent} {K : Nat → Int} {n i B : Nat} {e : Est}
theorem popI_len : ∀ S, (popI S).length ≤ S.length
  | [] => Nat.le_refl _
  | x :: t => by rw [popI]; split <;> have := popI_len t <;> simp only [List.length_cons] <;> omega
theorem popI_sub : ∀ S x, x ∈ popI S → x ∈ S
  | [], x, h => h
  | y :: t, x, h => by
    rw [popI] at h
    split at h
    · exact List.mem_cons_of_mem _ h
    · exact List.mem_cons_of_mem _ (popI_sub t x h)
theorem popI_cnt : ∀ S, 0 < (S.filter (·.iso)).length → ((popI S).filter (·.iso)).length + 1 = (S.filter (·.iso)).length
  | [], h => by simp at h
  | y :: t, h => by
    rw [popI]
    by_cases hy : y.iso = true
    · rw [if_pos hy, List.filter_cons_of_pos (by simpa using hy), List.length_cons]
    · rw [if_neg hy]
      rw [List.filter_cons_of_neg (by simpa using hy)] at h ⊢
      exact popI_cnt t h
theorem popI_low (hb : b.iso = false) : ∀ S, 0 < ((S ++ [b]).filter (·.iso)).length → ∃ S', popI (S ++ [b]) = S' ++ [b]
  | [], h => by simp [hb] at h
  | y :: t, h => by
    rw [List.cons_append, popI]
    by_cases hy : y.iso = true
    · rw [if_pos hy]; exact ⟨t, rfl⟩
    · rw [if_neg hy]
      rw [List.cons_append, List.filter_cons_of_neg (by simpa using hy)] at h
      exact popI_low hb t h
theorem upB_range {lev : Int} {odd : Bool} : lev + 1 ≤ upB lev odd ∧ upB lev odd ≤ lev + 2 := by unfold upB; split <;> omega
theorem topB_mem (h : ∃ S, e.st = S ++ [b]) : topB b e.st ∈ e.st := by
  obtain ⟨S, h⟩ := h
  cases S with
  | nil => rw [h]; simp [topB]
  | cons x t => rw [h]; simp [topB]
theorem ovrOf_range (k : Int) : -1 ≤ ovrOf k ∧ ovrOf k ≤ 1 := by
  unfold ovrOf
  split
  · omega
  · split <;> omega
theorem est_push (h : EstOk b B e) (hf : nextB b K n i e ≤ 125) {o : Int} (ho : -1 ≤ o ∧ o ≤ 1) {s : Bool} {va : Nat}
    (hva : va = e.va + (if s = true then 1 else 0)) : EstOk b (B + 1) { e with st := ⟨nextB b K n i e, o, s⟩ :: e.st, va := va } where
  low := by obtain ⟨S, h1⟩ := h.low; exact ⟨⟨nextB b K n i e, o, s⟩ :: S, by simp [h1]⟩
  cnt := by
    have := h.cnt
    cases s with
    | true => simp at hva ⊢; omega
    | false => simp at hva ⊢; omega
  lev := by
    intro x hx
    rcases List.mem_cons.mp hx with hx | hx
    · subst hx
      have := upB_range (lev := (topB b e.st).lev) (odd := oddB K n i)
      have := h.lev _ (topB_mem h.low)
      refine ⟨?_, hf⟩
      show 0 ≤ nextB b K n i e
      unfold nextB; omega
    · exact h.lev x hx
  ovr := by
    intro x hx
    rcases List.mem_cons.mp hx with hx | hx
    · subst hx; exact ho
    · exact h.ovr x hx
  len := by have := h.len; simp only [List.length_cons]; omega
  oi := by have := h.oi; show e.oi ≤ _; omega
  oe := by have := h.oe; show e.oe ≤ _; omega
  va := by have := h.va; show va ≤ _; split at hva <;> omega
theorem est_more (h : EstOk b B e) : EstOk b (B + 1) e where
  low := h.low
  cnt := h.cnt
  lev := h.lev
  ovr := h.ovr
  len := by have := h.len; omega
  oi := by have := h.oi; omega
  oe := by have := h.oe; omega
  va := by have := h.va; omega
theorem est_step (hb : b.iso = false) (h : EstOk b B e) : EstOk b (B + 1) (estStep b K n i e) := by
  have hm := est_more h
  unfold estStep
  split
  · split
    · rename_i hf
      exact est_push (va := e.va) h hf.1 (ovrOf_range _) (by simp)
    · split
      · exact { hm with oe := by have := h.oe; show e.oe + 1 ≤ _; omega }
      · exact hm
  · split
    · split
      · rename_i hf
        exact est_push (va := e.va + 1) h hf.1 (by omega) (by simp)
      · exact { hm with oi := by have := h.oi; show e.oi + 1 ≤ _; omega }
    · split
      · split
        · exact { hm with oi := by have := h.oi; show e.oi - 1 ≤ _; omega }
        · split
          · rename_i hv
            have hc := h.cnt
            refine ⟨?_, ?_, fun x hx => h.lev x (popI_sub _ x hx), fun x hx => h.ovr x (popI_sub _ x hx), ?_, hm.oi, Nat.zero_le _, ?_⟩
            · obtain ⟨S, h1⟩ := h.low
              rw [h1] at hc ⊢
              exact popI_low hb S (by omega)
            · have := popI_cnt e.st (by omega)
              show e.va - 1 = _
              simp only; omega
            · have := popI_len e.st; have := h.len; simp only; omega
            · have := h.va; show e.va - 1 ≤ _; omega
          · exact hm
      · split
        · split
          · exact hm
          · split
            · exact { hm with oe := by have := h.oe; show e.oe - 1 ≤ _; omega }
            · split
              · rename_i ht
                obtain ⟨S, h1⟩ := h.low
                cases S with
                | nil => rw [h1] at ht; simp at ht
                | cons x t =>
                  have hx : x.iso = false := by have := ht.1; rw [h1] at this; exact this
                  refine ⟨⟨t, by simp [h1]⟩, ?_, fun y hy => h.lev y (List.mem_of_mem_tail hy), fun y hy => h.ovr y (List.mem_of_mem_tail hy), ?_, hm.oi, hm.oe, hm.va⟩
                  · have := h.cnt
                    rw [h1] at this ⊢
                    simpa [hx] using this
                  · have := h.len; simp only [List.length_tail]; omega
              · exact hm
        · exact hm
theorem est_ok (hb : b.iso = false) (hl : 0 ≤ b.lev ∧ b.lev ≤ 125) (ho : b.ovr = -1) : ∀ i, EstOk b i (estAt b K n i) := by
  intro i
  induction i with
  | zero =>
    refine ⟨⟨[], rfl⟩, by simp [estAt, hb], ?_, ?_, by simp [estAt], Nat.le_refl _, Nat.le_refl _, Nat.le_refl _⟩
    · intro x hx; simp [estAt] at hx; subst hx; exact hl
    · intro x hx; simp [estAt] at hx; subst hx; omega
  | succ i ih => exact est_step hb ih
/-- the levels, those that take no part following what is ahead of them -/
def outL (O : Nat → Bool) (L : Nat → Int) (base : Int) : Nat → Int
  | 0 => if O 0 = true then base else L 0
  | k + 1 => if O (k + 1) = true then outL O L base k else L (k + 1)
def rbP (K : Nat → Int) : Nat → Nat → Bool
  | 0, _ => true
  | f + 1, k => if K k = 11 ∨ K k = 10 then true else if K k = 12 ∨ K k = 9 ∨ 14 ≤ K k then rbP K f (k + 1) else false
/-- whether blanks alone are between a place and the end of a stretch -/
def rbB (K : Nat → Int) (n k : Nat) : Bool := rbP K (n - k) k
theorem rbB_end {k : Nat} (h : n ≤ k) : rbB K n k = true := by unfold rbB; rw [show n - k = 0 by omega]; rfl
theorem rbB_step {k : Nat} (h : k < n) : rbB K n k = if K k = 11 ∨ K k = 10 then true else if K k = 12 ∨ K k = 9 ∨ 14 ≤ K k then rbB K n (k + 1) else false := by
  unfold rbB
  obtain ⟨f, hf⟩ : ∃ f, n - k = f + 1 := ⟨n - k - 1, by omega⟩
  rw [hf, rbP, show n - (k + 1) = f by omega]
end
end Go.Law.Bd
