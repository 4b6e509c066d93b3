/-
  Templates: what they give, character by character.
-/
import Derived.Test.YtnigebnibikolabRunes
namespace Go.Law.Px
open Go.Law
set_option linter.unusedVariables false
section
variable (ns : Nat) (seg : Nat → List Int)
/-- what the characters l give behind acc; m: a mark stands ahead -/
def expL : List Int → Bool → List Int → List Int × Int
  | [], m, acc => if m = true then ([], 10) else (acc, 0)
  | c :: l, false, acc => if c = 36 then expL l true acc else expL l false (acc ++ [c])
  | c :: l, true, acc => if c = 36 then expL l false (acc ++ [36]) else if c < 48 ∨ 57 < c then ([], 10) else if (ns : Int) ≤ c - 48 then ([], 7) else expL l false (acc ++ seg (c - 48).toNat)
end
section
variable {ns : Nat} {seg : Nat → List Int}
theorem expL_plain : ∀ (l t acc : List Int), 36 ∉ l → expL ns seg (l ++ t) false acc = expL ns seg t false (acc ++ l)
  | [], t, acc, _ => by simp
  | c :: l, t, acc, h => by
    have h1 : c ≠ 36 := fun e => h (by rw [e]; exact List.mem_cons_self ..)
    have h2 : 36 ∉ l := fun e => h (List.mem_cons_of_mem _ e)
    rw [List.cons_append, expL, if_neg h1, expL_plain l t _ h2, List.append_assoc]
    rfl
theorem expL_all {l acc : List Int} (h : 36 ∉ l) : expL ns seg l false acc = (acc ++ l, 0) := by
  have := expL_plain (ns := ns) (seg := seg) l [] acc h
  rw [List.append_nil] at this
  rw [this]; rfl
end
theorem extract_list (s : ByteArray) (a b : Nat) : (s.extract a b).data.toList = (s.data.toList.drop a).take (b - a) := by
  rw [ByteArray.data_extract, Array.toList_extract, List.extract_eq_take_drop]
/-- where the first mark is -/
def cutI (s : ByteArray) : Int := Lib.indexByte s.data.toList 36
theorem cut_none {s : ByteArray} (h : cutI s < 0) : 36 ∉ runesL s.data.toList := by
  have h1 : Lib.indexByte s.data.toList 36 = -1 := by
    have := Lib.indexByte_ge s.data.toList 36
    unfold cutI at h
    omega
  intro hm
  obtain ⟨u, hu, h2⟩ := runesL_mem (by omega) _ _ (Nat.le_refl _) hm
  obtain ⟨k, hk⟩ := List.getElem?_of_mem hu
  have h3 := Lib.indexByte_none h1 k
  rw [hk] at h3
  apply h3
  congr 1
  apply UInt8.toNat.inj
  show u.toNat = 36
  omega
theorem cut_some {s : ByteArray} {o : Nat} (h : cutI s = o) : o < s.size ∧ 36 ∉ runesL (s.extract 0 o).data.toList ∧
    runesL s.data.toList = runesL (s.extract 0 o).data.toList ++ 36 :: runesL (s.extract (o + 1) s.size).data.toList := by
  obtain ⟨h1, h2⟩ := Lib.indexByte_some h
  have hl : o < s.data.toList.length := (List.getElem?_eq_some_iff.1 h1).1
  have hs : s.data.toList.length = s.size := Array.length_toList
  have e : s.data.toList = s.data.toList.take o ++ 36 :: s.data.toList.drop (o + 1) := by
    have h3 : s.data.toList[o] = 36 := by
      have := List.getElem?_eq_getElem hl
      rw [h1] at this
      exact (Option.some.inj this).symm
    conv => lhs; rw [← List.take_append_drop o s.data.toList]
    rw [List.drop_eq_getElem_cons hl, h3]
  refine ⟨by omega, ?_, ?_⟩
  · rw [extract_list, List.drop_zero, Nat.sub_zero]
    intro hm
    obtain ⟨u, hu, h4⟩ := runesL_mem (by omega) _ _ (Nat.le_refl _) hm
    obtain ⟨k, hk⟩ := List.getElem?_of_mem hu
    have hk2 : k < o := by
      have := (List.getElem?_eq_some_iff.1 hk).1
      simp at this
      omega
    rw [List.getElem?_take_of_lt hk2] at hk
    apply h2 k hk2
    rw [hk]
    congr 1
    apply UInt8.toNat.inj
    show u.toNat = 36
    omega
  · have e2 : (s.data.toList.drop (o + 1)).take (s.size - (o + 1)) = s.data.toList.drop (o + 1) := List.take_of_length_le (by simp)
    rw [extract_list, extract_list, List.drop_zero, Nat.sub_zero, e2]
    conv => lhs; rw [e]
    rw [runesL_append (by intro c hc; simp at hc; subst hc; decide), runesL_ascii (by decide)]
    rfl
theorem cut_size {s : ByteArray} {o : Nat} (h : o < s.size) : (s.extract (o + 1) s.size).size + (o + 1) = s.size ∧ (s.extract 0 o).size = o := by
  simp only [ByteArray.size_extract]
  omega
/-- the first byte of a text -/
theorem head_list {s : ByteArray} (h : 0 < s.size) : s.data.toList = s[0] :: (s.extract 1 s.size).data.toList := by
  have hs : s.data.toList.length = s.size := Array.length_toList
  rw [extract_list, List.take_of_length_le (by simp)]
  conv => lhs; rw [← List.drop_zero (l := s.data.toList)]
  rw [List.drop_eq_getElem_cons (by omega)]
  rfl
/-- the character at a place -/
theorem runes_at {s : ByteArray} {pos : Nat} (h : pos < s.size) : runesL (s.data.toList.drop pos) = ((Utf8.decode s pos).1 : Int) :: runesL (s.data.toList.drop (pos + (Utf8.decode s pos).2)) ∧ 1 ≤ (Utf8.decode s pos).2 ∧ pos + (Utf8.decode s pos).2 ≤ s.size := by
  have hs : s.data.toList.length = s.size := Array.length_toList
  have hl : 0 < (s.data.toList.drop pos).length := by simp; omega
  have hd := dec_len hl
  rw [dec_drop, runesL_step (List.length_pos_iff.1 hl), List.drop_drop]
  refine ⟨rfl, hd.1, ?_⟩
  have := hd.2
  rw [List.length_drop] at this
  omega
theorem runes_past {s : ByteArray} {pos : Nat} (h : ¬ pos < s.size) : runesL (s.data.toList.drop pos) = [] := by
  have hs : s.data.toList.length = s.size := Array.length_toList
  rw [List.drop_eq_nil_of_le (by omega)]; rfl
def strLen : Value → Nat
  | .string s => s.size
  | _ => 0
/-- one step behind a mark -/
theorem exp_mark {ns : Nat} {seg : Nat → List Int} {s : ByteArray} (h : 0 < s.size) (acc : List Int) :
    (s[0].toNat = 36 → expL ns seg (runesL s.data.toList) true acc = expL ns seg (runesL (s.extract 1 s.size).data.toList) false (acc ++ [36])) ∧
    (s[0].toNat ≠ 36 → (s[0].toNat < 48 ∨ 57 < s[0].toNat) → expL ns seg (runesL s.data.toList) true acc = ([], 10)) ∧
    (48 ≤ s[0].toNat → s[0].toNat ≤ 57 → ns ≤ s[0].toNat - 48 → expL ns seg (runesL s.data.toList) true acc = ([], 7)) ∧
    (48 ≤ s[0].toNat → s[0].toNat ≤ 57 → s[0].toNat - 48 < ns → expL ns seg (runesL s.data.toList) true acc = expL ns seg (runesL (s.extract 1 s.size).data.toList) false (acc ++ seg (s[0].toNat - 48))) := by
  rw [head_list h]
  obtain ⟨c, hc⟩ : ∃ c, c = s[0] := ⟨_, rfl⟩
  rw [← hc]
  refine ⟨fun h1 => ?_, fun h1 h2 => ?_, fun h1 h2 h3 => ?_, fun h1 h2 h3 => ?_⟩
  · rw [runesL_ascii (by omega), expL, if_pos (by omega)]
  · by_cases h3 : c.toNat < 128
    · rw [runesL_ascii h3, expL, if_neg (by omega), if_pos (by omega)]
    · obtain ⟨x, t, e, hx⟩ := runesL_high (c := c) (l := (s.extract 1 s.size).data.toList) (by omega)
      rw [e, expL, if_neg (by omega), if_pos (by omega)]
  · rw [runesL_ascii (by omega), expL, if_neg (by omega), if_neg (by omega), if_pos (by omega)]
  · rw [runesL_ascii (by omega), expL, if_neg (by omega), if_neg (by omega), if_neg (by omega)]
    rw [show ((c.toNat : Int) - 48).toNat = c.toNat - 48 by omega]
end Go.Law.Px
