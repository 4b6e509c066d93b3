/-
  Places at which lines can end, in plain Lean: the scan of the program, the list of the reference, and that they answer alike.
-/
import Derived.Test.YtnigebnibikolaaDoorMeTabs
namespace Go.Law.Br
open Go.Law Go.Law.Me
def wideR : List (Int × Int) := [one 65532, (11904, 42191), (44032, 55203), (63744, 64255), (65280, 65376), (131072, 262141)]
def openR : List (Int × Int) := [one 40, one 91, one 123, one 171, one 191, one 161, one 8216, one 8220, one 12300]
def closR : List (Int × Int) := [one 41, one 93, one 125, one 187, one 44, one 46, one 58, one 59, one 33, one 63, one 8217, one 8221, one 8230, one 12289, one 12290, one 12301]
/-- the classes of the program -/
def classR : List (List (Int × Int) × Int) := [([one 10], 1), ([one 32, one 9], 2), ([one 8203], 3), ([one 160, one 8239, one 8288, one 65279], 4), ([one 45, one 8208, one 8211], 5), ([one 173], 6), ([(48, 57)], 11), (openR, 7), (closR, 8), (wideR, 9), (one 8205 :: rngs marksT, 10)]
def clsC (c : Int) : Int := lookC c classR 0
/-- the classes of the reference, as letters -/
def openQ : List (Int × Int) := [one 40, one 91, one 123, one 171, one 191, one 161, one 8216, one 8220, one 12300]
def closQ : List (Int × Int) := [one 41, one 93, one 125, one 44, one 46, one 58, one 59, one 33, one 63, one 187, one 8217, one 8221, one 8230, one 12289, one 12290, one 12301]
def breakR : List (List (Int × Int) × Int) := [([one 10], 110), ([one 9, one 32], 115), ([one 8203], 122), ([one 160, one 8239, one 8288, one 65279], 103), ([one 45, one 8208, one 8211], 104), ([one 173], 45), ([(48, 57)], 100), (openQ, 111), (closQ, 99), (wideR, 119), (one 8205 :: markQ, 109)]
def brkC (c : Int) : Int := lookC c breakR 120
def letC (k : Int) : Int := if k = 1 then 110 else if k = 2 then 115 else if k = 3 then 122 else if k = 4 then 103 else if k = 5 then 104 else if k = 6 then 45 else if k = 7 then 111 else if k = 8 then 99 else if k = 9 then 119 else if k = 10 then 109 else if k = 11 then 100 else 120
theorem lookC_map (f : Int → Int) (c d : Int) : ∀ T : List (List (Int × Int) × Int), lookC c (T.map fun x => (x.1, f x.2)) (f d) = f (lookC c T d)
  | [] => rfl
  | (rs, v) :: t => by
    have h := lookC_map f c d t
    show (if _ then _ else _) = f (if _ then _ else _)
    split
    · rfl
    · exact h
theorem brk_cls (c : Int) : brkC c = letC (clsC c) := by
  unfold brkC clsC
  rw [← lookC_map letC c 0 classR]
  exact lookC_same _ _ 120 0 (by decide +kernel) (by decide +kernel) c
theorem lookC_mem {c d : Int} : ∀ {T : List (List (Int × Int) × Int)}, lookC c T d ∈ d :: T.map (·.2)
  | [] => by simp [lookC]
  | (rs, v) :: t => by
    show (if _ then _ else _) ∈ _
    split
    · simp
    · have h := lookC_mem (c := c) (d := d) (T := t)
      simp only [List.mem_cons, List.map_cons] at h ⊢
      rcases h with h | h
      · exact .inl h
      · exact .inr (.inr h)
theorem cls_bd (c : Int) : 0 ≤ clsC c ∧ clsC c ≤ 11 := by
  have h := lookC_mem (c := c) (d := 0) (T := classR)
  have : ∀ x ∈ (0 : Int) :: classR.map (·.2), 0 ≤ x ∧ x ≤ 11 := by decide
  exact this _ h
theorem let_inj {a b : Int} (ha : 0 ≤ a ∧ a ≤ 11) (hb : 0 ≤ b ∧ b ≤ 11) : letC a = letC b ↔ a = b := by
  have h : ∀ a ∈ ([0, 1, 2, 3, 4, 5, 6, 7, 8, 9, 10, 11] : List Int), ∀ b ∈ ([0, 1, 2, 3, 4, 5, 6, 7, 8, 9, 10, 11] : List Int), letC a = letC b → a = b := by decide
  have hm : ∀ x : Int, 0 ≤ x ∧ x ≤ 11 → x ∈ ([0, 1, 2, 3, 4, 5, 6, 7, 8, 9, 10, 11] : List Int) := by intro x hx; simp; omega
  exact ⟨h a (hm a ha) b (hm b hb), fun e => by rw [e]⟩
structure Scan where
  base : Int
  before : Int
  spaces : Int
  firm : Int
  any : Bool
  joined : Bool
def scan0 : Scan := ⟨0, 1, 0, 0, false, false⟩
/-- the scan with a class that is no mark -/
def Scan.put (s : Scan) (k : Int) (j : Bool) : Scan := ⟨k, if s.any = true then s.base else s.before, if k = 2 then s.spaces + 1 else 0, if k = 2 then s.firm else k, true, j⟩
def Scan.step (s : Scan) (c : Int) : Scan :=
  if clsC c = 10 then (if s.any = true ∧ s.base ≠ 1 then { s with joined := decide (c = 8205) } else s.put 0 (decide (c = 8205))) else s.put (clsC c) (decide (c = 8205))
def scanN (t : Nat → Int) : Nat → Scan
  | 0 => scan0
  | n + 1 => (scanN t n).step (t n)
/-- whether and how a line can end ahead of a character of class k: a kind, or -1 -/
def mayK (b a f k : Int) (sp j : Bool) : Int :=
  if b = 1 then 2
  else if j = true ∨ k = 1 ∨ k = 2 ∨ k = 10 ∨ k = 3 then -1
  else if f = 3 then 0
  else if b = 4 ∨ (k = 4 ∧ sp = false) ∨ k = 8 ∨ f = 7 then -1
  else if sp = true then 0
  else if b = 6 then 1
  else if b = 5 then (if k ≠ 11 ∧ a ≠ 2 ∧ a ≠ 1 then 0 else -1)
  else if b = 9 ∨ k = 9 then 0 else -1
def Scan.may (s : Scan) (k : Int) : Int := mayK s.base s.before s.firm k (decide (0 < s.spaces)) s.joined
-- the reference
def pushL (l : List Int) (k : Int) : List Int := if k = 109 then (if l.getLastD 110 = 110 then l ++ [120] else l) else l ++ [k]
def baseL (t : Nat → Int) : Nat → List Int
  | 0 => []
  | n + 1 => pushL (baseL t n) (brkC (t n))
def firmL (l : List Int) : Int := l.foldl (fun f k => if k ≠ 115 then k else f) 120
def brkL (b a f c : Int) (j : Bool) : Int :=
  if b = 110 then 2
  else if j = true ∨ c = 110 ∨ c = 115 ∨ c = 109 ∨ c = 122 then -1
  else if f = 122 then 0
  else if b = 103 ∨ (c = 103 ∧ b ≠ 115) ∨ c = 99 ∨ f = 111 then -1
  else if b = 115 then 0
  else if b = 45 then 1
  else if b = 104 then (if c = 100 ∨ a = 115 ∨ a = 110 then -1 else 0)
  else if b = 119 ∨ c = 119 then 0 else -1
def brkAt (t : Nat → Int) (at' : Nat) : Int := brkL ((baseL t at').getLastD 110) ((baseL t at').dropLast.getLastD 110) (firmL (baseL t at')) (brkC (t at')) (decide (t (at' - 1) = 8205))
structure Rel (s : Scan) (l : List Int) : Prop where
  any : s.any = !l.isEmpty
  base : s.any = true → l.getLastD 110 = letC s.base
  before : l.dropLast.getLastD 110 = letC s.before
  firm : firmL l = letC s.firm
  spaces : (0 < s.spaces ↔ s.any = true ∧ s.base = 2) ∧ 0 ≤ s.spaces
  bd : (0 ≤ s.base ∧ s.base ≤ 11) ∧ (0 ≤ s.before ∧ s.before ≤ 11) ∧ (0 ≤ s.firm ∧ s.firm ≤ 11)
theorem rel0 : Rel scan0 [] where
  any := rfl
  base := fun h => by cases h
  before := rfl
  firm := rfl
  spaces := by simp [scan0]
  bd := by simp [scan0]
theorem firmL_snoc (l : List Int) (k : Int) : firmL (l ++ [k]) = if k ≠ 115 then k else firmL l := by simp [firmL]
theorem rel_put {s : Scan} {l : List Int} (h : Rel s l) {k : Int} (hk : 0 ≤ k ∧ k ≤ 11) (j : Bool) : Rel (s.put k j) (l ++ [letC k]) := by
  obtain ⟨h1, h2, h3, h4, h5, h6⟩ := h
  refine ⟨by simp [Scan.put], fun _ => by simp [Scan.put, List.getLastD_eq_getLast?], ?_, ?_, ?_, ?_⟩
  · simp only [List.dropLast_concat, Scan.put]
    split
    · exact h2 ‹_›
    · rename_i h
      rw [h1] at h
      have : l = [] := by simpa using h
      subst this
      exact h3
  · rw [firmL_snoc]
    have e : letC k ≠ 115 ↔ k ≠ 2 := by
      have := let_inj hk (show (0 : Int) ≤ 2 ∧ (2 : Int) ≤ 11 by omega)
      rw [show letC 2 = 115 from rfl] at this
      exact not_congr this
    simp only [Scan.put]
    by_cases hk2 : k = 2
    · rw [if_neg (by rw [e]; simpa using hk2), if_pos hk2]; exact h4
    · rw [if_pos (by rw [e]; exact hk2), if_neg hk2]
  · simp only [Scan.put, true_and]
    by_cases hk2 : k = 2
    · rw [if_pos hk2]; exact ⟨⟨fun _ => hk2, fun _ => by omega⟩, by omega⟩
    · rw [if_neg hk2]; exact ⟨⟨fun h => by omega, fun h => absurd h hk2⟩, by omega⟩
  · simp only [Scan.put]
    refine ⟨hk, ?_, ?_⟩
    · split <;> omega
    · split <;> omega
theorem rel_step {s : Scan} {l : List Int} (h : Rel s l) (c : Int) : Rel (s.step c) (pushL l (brkC c)) := by
  have hc := cls_bd c
  rw [brk_cls]
  unfold pushL Scan.step
  have e : letC (clsC c) = 109 ↔ clsC c = 10 := by
    have := let_inj hc (show (0 : Int) ≤ 10 ∧ (10 : Int) ≤ 11 by omega)
    rw [show letC 10 = 109 from rfl] at this
    exact this
  by_cases h10 : clsC c = 10
  · rw [if_pos (e.2 h10), if_pos h10]
    have e2 : l.getLastD 110 = 110 ↔ ¬ (s.any = true ∧ s.base ≠ 1) := by
      cases ha : s.any
      · have h1 := h.any
        rw [ha] at h1
        have : l = [] := by simpa using h1.symm
        subst this
        simp
      · rw [h.base ha]
        have := let_inj h.bd.1 (show (0 : Int) ≤ 1 ∧ (1 : Int) ≤ 11 by omega)
        rw [show letC 1 = 110 from rfl] at this
        rw [this]
        simp
    by_cases h2 : s.any = true ∧ s.base ≠ 1
    · rw [if_pos h2, if_neg (by rw [e2]; simpa using h2)]
      exact ⟨h.any, h.base, h.before, h.firm, h.spaces, h.bd⟩
    · rw [if_neg h2, if_pos (e2.2 h2)]
      exact rel_put h (k := 0) (by omega) _
  · rw [if_neg (fun h => h10 (e.1 h)), if_neg h10]
    exact rel_put h hc _
theorem rel_all (t : Nat → Int) : ∀ n, Rel (scanN t n) (baseL t n)
  | 0 => rel0
  | n + 1 => rel_step (rel_all t n) (t n)
theorem put_any (s : Scan) (k : Int) (j : Bool) : (s.put k j).any = true ∧ (s.put k j).joined = j := ⟨rfl, rfl⟩
theorem step_any (s : Scan) (c : Int) : (s.step c).any = true ∧ (s.step c).joined = decide (c = 8205) := by
  unfold Scan.step
  split
  · split
    · rename_i h; exact ⟨h.1, rfl⟩
    · exact put_any ..
  · exact put_any ..
/-- the answers agree -/
theorem may_same (t : Nat → Int) {n : Nat} (hn : 0 < n) : (scanN t n).may (clsC (t n)) = brkAt t n := by
  have h := rel_all t n
  obtain ⟨m, rfl⟩ : ∃ m, n = m + 1 := ⟨n - 1, by omega⟩
  have ha := step_any (scanN t m) (t m)
  have hc := cls_bd (t (m + 1))
  unfold brkAt
  rw [brk_cls (t (m + 1)), Nat.add_sub_cancel]
  obtain ⟨h1, h2, h3, h4, h5, h6⟩ := h
  rw [h2 ha.1, h3, h4, ← ha.2]
  change (scanN t (m + 1)).any = true ∧ _ at ha
  change _ = brkL _ _ _ _ (scanN t (m + 1)).joined
  rw [ha.1] at h5
  generalize scanN t (m + 1) = s at *
  generalize clsC (t (m + 1)) = k at *
  have hsp : decide (0 < s.spaces) = decide (s.base = 2) := by
    rw [decide_eq_decide]; rw [h5.1]; simp
  unfold Scan.may
  rw [hsp]
  clear hsp h5 ha h4 h3 h2 h1
  obtain ⟨b, a, sp, f, an, j⟩ := s
  simp only at *
  have L := fun (x y : Int) (hx : 0 ≤ x ∧ x ≤ 11) (hy : 0 ≤ y ∧ y ≤ 11) => let_inj hx hy
  have q : ∀ (x v l : Int), (0 ≤ x ∧ x ≤ 11) → (0 ≤ v ∧ v ≤ 11) → letC v = l → (letC x = l ↔ x = v) := fun x v l hx hv e => by rw [← e]; exact let_inj hx hv
  unfold mayK brkL
  have B := fun v l (hv : 0 ≤ v ∧ v ≤ 11) (e : letC v = l) => q b v l h6.1 hv e
  have A := fun v l (hv : 0 ≤ v ∧ v ≤ 11) (e : letC v = l) => q a v l h6.2.1 hv e
  have F := fun v l (hv : 0 ≤ v ∧ v ≤ 11) (e : letC v = l) => q f v l h6.2.2 hv e
  have C := fun v l (hv : 0 ≤ v ∧ v ≤ 11) (e : letC v = l) => q k v l hc hv e
  simp only [B 1 110 (by omega) rfl, C 1 110 (by omega) rfl, C 2 115 (by omega) rfl, C 10 109 (by omega) rfl, C 3 122 (by omega) rfl, F 3 122 (by omega) rfl, B 4 103 (by omega) rfl, C 4 103 (by omega) rfl, C 8 99 (by omega) rfl, F 7 111 (by omega) rfl,
    B 6 45 (by omega) rfl, B 5 104 (by omega) rfl, C 11 100 (by omega) rfl, A 2 115 (by omega) rfl, A 1 110 (by omega) rfl, B 9 119 (by omega) rfl, C 9 119 (by omega) rfl, ne_eq, B 2 115 (by omega) rfl]
  have e1 : (¬ k = 11 ∧ ¬ a = 2 ∧ ¬ a = 1) ↔ ¬ (k = 11 ∨ a = 2 ∨ a = 1) := by simp
  simp only [decide_eq_true_eq, decide_eq_false_iff_not, e1]
  by_cases hq : k = 11 ∨ a = 2 ∨ a = 1
  · simp only [hq, not_true, if_false, if_true]
  · simp only [hq, not_false_iff, if_true, if_false]
/-- the places among the first n, each with its kind -/
def outL (t : Nat → Int) : Nat → List Int
  | 0 => []
  | n + 1 => if 0 < n ∧ 0 ≤ brkAt t n then outL t n ++ [(n : Int), brkAt t n] else outL t n
def outN (t : Nat → Int) : Nat → Nat
  | 0 => 0
  | n + 1 => if 0 < n ∧ 0 ≤ brkAt t n then outN t n + 1 else outN t n
theorem outL_len (t : Nat → Int) : ∀ n, (outL t n).length = outN t n * 2
  | 0 => rfl
  | n + 1 => by
    have h := outL_len t n
    simp only [outL, outN]
    split
    · simp [h]; omega
    · exact h
theorem outN_le (t : Nat → Int) : ∀ n, outN t n ≤ n
  | 0 => Nat.le_refl _
  | n + 1 => by
    have h := outN_le t n
    simp only [outN]
    split <;> omega
end Go.Law.Br
