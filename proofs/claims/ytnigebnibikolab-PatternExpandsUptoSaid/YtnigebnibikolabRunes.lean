/-
  The characters of a text as a list: decoding by bytes, and what it makes of two texts behind each other.
-/
import Derived.Laws.RangeAny
import Derived.Lib.Bytealg
import Derived.Lib.IndexLaws
namespace Go.Law
/-- byte k, 0 behind the end -/
def atL (l : List UInt8) (k : Nat) : Nat := (l[k]?.getD 0).toNat
/-- byte k continues a character -/
def conL (l : List UInt8) (k : Nat) : Bool := decide (k < l.length) && atL l k / 64 == 2
/-- the first character and how many bytes it takes -/
def decL (l : List UInt8) : Nat × Nat :=
  if atL l 0 < 0x80 then (atL l 0, 1)
  else if atL l 0 / 32 == 6 && conL l 1 then
    (if (atL l 0 % 32) * 64 + atL l 1 % 64 ≥ 0x80 then ((atL l 0 % 32) * 64 + atL l 1 % 64, 2) else (Utf8.runeError, 1))
  else if atL l 0 / 16 == 14 && conL l 1 && conL l 2 then
    (if (atL l 0 % 16) * 4096 + (atL l 1 % 64) * 64 + atL l 2 % 64 ≥ 0x800 && Utf8.valid (((atL l 0 % 16) * 4096 + (atL l 1 % 64) * 64 + atL l 2 % 64 : Nat) : Int) then ((atL l 0 % 16) * 4096 + (atL l 1 % 64) * 64 + atL l 2 % 64, 3) else (Utf8.runeError, 1))
  else if atL l 0 / 8 == 30 && conL l 1 && conL l 2 && conL l 3 then
    (if (atL l 0 % 8) * 262144 + (atL l 1 % 64) * 4096 + (atL l 2 % 64) * 64 + atL l 3 % 64 ≥ 0x10000 && Utf8.valid (((atL l 0 % 8) * 262144 + (atL l 1 % 64) * 4096 + (atL l 2 % 64) * 64 + atL l 3 % 64 : Nat) : Int) then ((atL l 0 % 8) * 262144 + (atL l 1 % 64) * 4096 + (atL l 2 % 64) * 64 + atL l 3 % 64, 4) else (Utf8.runeError, 1))
  else (Utf8.runeError, 1)
theorem get_drop (s : ByteArray) (i k : Nat) : (s.get! (i + k)).toNat = atL (s.data.toList.drop i) k := by
  unfold atL
  congr 1
  rw [List.getElem?_drop]
  by_cases h : i + k < s.size
  · have h1 : s.data.toList[i + k]? = some (s.data[i + k]'h) := by
      rw [Array.getElem?_toList, Array.getElem?_eq_getElem h]
    rw [h1]
    simp [ByteArray.get!, getElem!_pos, h]
  · have h1 : s.data.toList[i + k]? = none := by
      rw [Array.getElem?_toList, Array.getElem?_eq_none (by simpa using h)]
    have h2 : ¬ i + k < s.data.size := h
    rw [h1]
    show s.data[i + k]! = _
    rw [getElem!_neg s.data (i + k) h2]
    rfl
set_option maxRecDepth 100000 in
theorem dec_drop (s : ByteArray) (i : Nat) : Utf8.decode s i = decL (s.data.toList.drop i) := by
  have hc : ∀ k, (decide (i + k < s.size) && atL (s.data.toList.drop i) k / 64 == 2) = conL (s.data.toList.drop i) k := by
    intro k
    unfold conL
    congr 1
    have h : s.data.toList.length = s.size := Array.length_toList
    simp only [List.length_drop, h, decide_eq_decide]
    omega
  have h0 := get_drop s i
  have h1 := hc 1
  have h2 := hc 2
  have h3 := hc 3
  have e : ∀ (A : Nat → Nat) (C : Nat → Bool), (∀ k, A k = atL (s.data.toList.drop i) k) → C 1 = conL (s.data.toList.drop i) 1 → C 2 = conL (s.data.toList.drop i) 2 → C 3 = conL (s.data.toList.drop i) 3 →
      (if A 0 < 0x80 then (A 0, 1)
       else if A 0 / 32 == 6 && C 1 then (if (A 0 % 32) * 64 + A 1 % 64 ≥ 0x80 then ((A 0 % 32) * 64 + A 1 % 64, 2) else (Utf8.runeError, 1))
       else if A 0 / 16 == 14 && C 1 && C 2 then (if (A 0 % 16) * 4096 + (A 1 % 64) * 64 + A 2 % 64 ≥ 0x800 && Utf8.valid (((A 0 % 16) * 4096 + (A 1 % 64) * 64 + A 2 % 64 : Nat) : Int) then ((A 0 % 16) * 4096 + (A 1 % 64) * 64 + A 2 % 64, 3) else (Utf8.runeError, 1))
       else if A 0 / 8 == 30 && C 1 && C 2 && C 3 then (if (A 0 % 8) * 262144 + (A 1 % 64) * 4096 + (A 2 % 64) * 64 + A 3 % 64 ≥ 0x10000 && Utf8.valid (((A 0 % 8) * 262144 + (A 1 % 64) * 4096 + (A 2 % 64) * 64 + A 3 % 64 : Nat) : Int) then ((A 0 % 8) * 262144 + (A 1 % 64) * 4096 + (A 2 % 64) * 64 + A 3 % 64, 4) else (Utf8.runeError, 1))
       else (Utf8.runeError, 1)) = decL (s.data.toList.drop i) := by
    intro A C hA c1 c2 c3
    rw [c1, c2, c3, hA 0, hA 1, hA 2, hA 3]
    rfl
  exact e (fun k => (s.get! (i + k)).toNat) (fun k => decide (i + k < s.size) && (s.get! (i + k)).toNat / 64 == 2) h0 (by simp only [h0]; exact h1) (by simp only [h0]; exact h2) (by simp only [h0]; exact h3)
/-- no continuing byte stands at the head -/
def Head (b : List UInt8) : Prop := ∀ c, b[0]? = some c → c.toNat / 64 ≠ 2
section
variable {a b : List UInt8}
theorem at_app {k : Nat} (h : k < a.length) : atL (a ++ b) k = atL a k := by
  unfold atL; rw [List.getElem?_append_left h]
theorem con_app {k : Nat} (h : k < a.length) : conL (a ++ b) k = conL a k := by
  unfold conL
  rw [at_app h]
  congr 1
  simp only [List.length_append, decide_eq_decide]
  omega
theorem con_end (hb : Head b) : conL (a ++ b) a.length = false := by
  cases hc : conL (a ++ b) a.length
  · rfl
  · unfold conL at hc
    rw [Bool.and_eq_true] at hc
    obtain ⟨h1, h2⟩ := hc
    have h1 := of_decide_eq_true h1
    have h2 := eq_of_beq h2
    unfold atL at h2
    rw [List.getElem?_append_right (Nat.le_refl _), Nat.sub_self] at h2
    cases hb0 : b[0]? with
    | none => rw [hb0] at h2; simp at h2
    | some c => rw [hb0] at h2; exact absurd h2 (hb c hb0)
theorem con_past {k : Nat} (h : a.length ≤ k) : conL a k = false := by
  unfold conL; rw [decide_eq_false (by omega)]; rfl
theorem con_lt {k : Nat} (h : conL a k = true) : k < a.length := by
  unfold conL at h
  rw [Bool.and_eq_true] at h
  exact of_decide_eq_true h.1
/-- the byte behind a's bytes up to k is a's own, or continues nothing in both -/
theorem con_next (hb : Head b) {k : Nat} (h : k < a.length) : conL (a ++ b) (k + 1) = conL a (k + 1) := by
  by_cases h1 : k + 1 < a.length
  · exact con_app h1
  · obtain h2 : k + 1 = a.length := by omega
    rw [h2, con_end hb, con_past (Nat.le_refl _)]
theorem dec_app (ha : 0 < a.length) (hb : Head b) : decL (a ++ b) = decL a := by
  have e0 : atL (a ++ b) 0 = atL a 0 := at_app ha
  have e1 : conL (a ++ b) 1 = conL a 1 := con_next hb ha
  unfold decL
  rw [e0, e1]
  cases h1 : conL a 1
  · simp only [Bool.and_false, Bool.false_and, Bool.false_eq_true, if_false]
  · have k1 := con_lt h1
    have e1' : atL (a ++ b) 1 = atL a 1 := at_app k1
    have e2 : conL (a ++ b) 2 = conL a 2 := con_next hb k1
    rw [e1', e2]
    cases h2 : conL a 2
    · simp only [Bool.and_false, Bool.false_and, Bool.false_eq_true, if_false]
    · have k2 := con_lt h2
      have e2' : atL (a ++ b) 2 = atL a 2 := at_app k2
      have e3 : conL (a ++ b) 3 = conL a 3 := con_next hb k2
      rw [e2', e3]
      cases h3 : conL a 3
      · simp only [Bool.and_false, Bool.false_eq_true, if_false]
      · have e3' : atL (a ++ b) 3 = atL a 3 := at_app (con_lt h3)
        rw [e3']
theorem dec_len (ha : 0 < a.length) : 1 ≤ (decL a).2 ∧ (decL a).2 ≤ a.length := by
  unfold decL
  split
  · simp only; omega
  · split
    · rename_i h
      rw [Bool.and_eq_true] at h
      have := con_lt h.2
      split <;> simp only <;> omega
    · split
      · rename_i h
        rw [Bool.and_eq_true, Bool.and_eq_true] at h
        have := con_lt h.2
        split <;> simp only <;> omega
      · split
        · rename_i h
          rw [Bool.and_eq_true, Bool.and_eq_true, Bool.and_eq_true] at h
          have := con_lt h.2
          split <;> simp only <;> omega
        · simp only; omega
end
/-- the characters of a text; f bounds the steps -/
def runesG : Nat → List UInt8 → List Int
  | 0, _ => []
  | f + 1, l => if l = [] then [] else ((decL l).1 : Int) :: runesG f (l.drop (decL l).2)
def runesL (l : List UInt8) : List Int := runesG l.length l
theorem runesG_fuel : ∀ (f g : Nat) (l : List UInt8), l.length ≤ f → l.length ≤ g → runesG f l = runesG g l
  | 0, g, l, h, _ => by
    have : l = [] := List.eq_nil_of_length_eq_zero (by omega)
    subst this
    cases g <;> simp [runesG]
  | f + 1, 0, l, _, h => by
    have : l = [] := List.eq_nil_of_length_eq_zero (by omega)
    subst this
    simp [runesG]
  | f + 1, g + 1, l, hf, hg => by
    unfold runesG
    split
    · rfl
    · rename_i hl
      have := dec_len (List.length_pos_iff.2 hl)
      rw [runesG_fuel f g _ (by simp; omega) (by simp; omega)]
theorem runesL_nil : runesL [] = [] := rfl
theorem runesL_step {l : List UInt8} (h : l ≠ []) : runesL l = ((decL l).1 : Int) :: runesL (l.drop (decL l).2) := by
  have hl := List.length_pos_iff.2 h
  have := dec_len hl
  unfold runesL
  obtain ⟨f, hf⟩ : ∃ f, l.length = f + 1 := ⟨l.length - 1, by omega⟩
  rw [hf, runesG, if_neg h, runesG_fuel f _ _ (by simp; omega) (Nat.le_refl _)]
theorem runesL_append {a b : List UInt8} (hb : Head b) : runesL (a ++ b) = runesL a ++ runesL b := by
  have key : ∀ (n : Nat) (a : List UInt8), a.length ≤ n → runesL (a ++ b) = runesL a ++ runesL b := by
    intro n
    induction n with
    | zero =>
      intro a ha
      have : a = [] := List.eq_nil_of_length_eq_zero (by omega)
      subst this
      rfl
    | succ n ih =>
      intro a ha
      by_cases h : a = []
      · subst h; rfl
      · have hl := List.length_pos_iff.2 h
        have hd := dec_len hl
        rw [runesL_step h, runesL_step (by simp [h]), dec_app hl hb, List.drop_append_of_le_length hd.2, ih _ (by simp; omega)]
        rfl
  exact key a.length a (Nat.le_refl _)
theorem runesL_len (l : List UInt8) : (runesL l).length ≤ l.length := by
  have key : ∀ (n : Nat) (l : List UInt8), l.length ≤ n → (runesL l).length ≤ l.length := by
    intro n
    induction n with
    | zero =>
      intro l hl
      have : l = [] := List.eq_nil_of_length_eq_zero (by omega)
      subst this
      exact Nat.le_refl _
    | succ n ih =>
      intro l hl
      by_cases h : l = []
      · subst h; exact Nat.le_refl _
      · have hp := List.length_pos_iff.2 h
        have hd := dec_len hp
        rw [runesL_step h]
        have := ih (l.drop (decL l).2) (by simp; omega)
        simp at this ⊢
        omega
  exact key l.length l (Nat.le_refl _)
/-- an ASCII byte at the head is a character of its own -/
theorem runesL_ascii {c : UInt8} {l : List UInt8} (hc : c.toNat < 128) : runesL (c :: l) = (c.toNat : Int) :: runesL l := by
  have h : decL (c :: l) = (c.toNat, 1) := by
    unfold decL
    rw [show atL (c :: l) 0 = c.toNat from rfl, if_pos hc]
  rw [runesL_step (by simp), h]
  rfl
theorem dec_high {l : List UInt8} (h : 128 ≤ atL l 0) : 128 ≤ (decL l).1 := by
  unfold decL Utf8.runeError
  rw [if_neg (by omega)]
  split
  · split
    · simp only; omega
    · simp only; omega
  · split
    · split
      · rename_i h1
        simp only [Bool.and_eq_true, decide_eq_true_eq] at h1
        simp only; omega
      · simp only; omega
    · split
      · split
        · rename_i h1
          simp only [Bool.and_eq_true, decide_eq_true_eq] at h1
          simp only; omega
        · simp only; omega
      · simp only; omega
theorem runesL_high {c : UInt8} {l : List UInt8} (hc : 128 ≤ c.toNat) : ∃ x t, runesL (c :: l) = x :: t ∧ 128 ≤ x := by
  refine ⟨_, _, runesL_step (by simp), ?_⟩
  have := dec_high (l := c :: l) hc
  omega
/-- a character below 128 is a byte of the text -/
theorem runesL_mem {c : Int} (hc : c < 128) : ∀ (n : Nat) (l : List UInt8), l.length ≤ n → c ∈ runesL l → ∃ u ∈ l, (u.toNat : Int) = c := by
  intro n
  induction n with
  | zero =>
    intro l hl h
    have : l = [] := List.eq_nil_of_length_eq_zero (by omega)
    subst this
    cases h
  | succ n ih =>
    intro l hl h
    cases l with
    | nil => cases h
    | cons u l =>
      by_cases hu : u.toNat < 128
      · rw [runesL_ascii hu] at h
        rcases List.mem_cons.1 h with h | h
        · exact ⟨u, List.mem_cons_self .., h.symm⟩
        · obtain ⟨v, hv, h2⟩ := ih l (by simpa using hl) h
          exact ⟨v, List.mem_cons_of_mem _ hv, h2⟩
      · have hp : 0 < (u :: l).length := by simp
        have hd := dec_len hp
        have hh := dec_high (l := u :: l) (show 128 ≤ u.toNat by omega)
        rw [runesL_step (by simp)] at h
        rcases List.mem_cons.1 h with h | h
        · omega
        · obtain ⟨v, hv, h2⟩ := ih _ (by simp at hl ⊢; omega) h
          exact ⟨v, List.mem_of_mem_drop hv, h2⟩
end Go.Law
