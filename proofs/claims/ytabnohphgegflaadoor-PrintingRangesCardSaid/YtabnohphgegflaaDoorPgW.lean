/-
  Ranges of pages: rows of ints as lists; texts and their bytes.
-/
import Derived.Test.YtabnohphgegflaaDoorPgPlain
import Derived.Test.YtabnohphgegflaaDoorBlk
import Derived.Test.YtabnohphgegflaaDoorProg
import Derived.Lib.ConvBytes
import Derived.Lib.AtoiErrMem
namespace Go.Law.Pg
open Go.RowKit Go.Law
set_option linter.unusedVariables false
/-- a row of ints of the call's own, as a list -/
def RowZ (w : World) (base : Nat) (e : TypeId) (v : Value) (acc : List Int) : Prop := RowL w base e 1 v acc.length (acc.map (Value.int .i64))
theorem RowZ.nil (w : World) (base : Nat) (e : TypeId) : RowZ w base e (.slice none 0 0) [] := RowL.nil _ _ _ _
theorem RowZ.push {w : World} {base : Nat} {e : TypeId} {v : Value} {acc : List Int} {x : Int} (h : w.ownsRow base e 1 v (acc.length + 1) (acc.map (Value.int .i64) ++ [.int .i64 x])) : RowZ w base e v (acc ++ [x]) := by
  unfold RowZ
  rw [List.length_append, List.map_append]
  exact h
theorem RowZ.below {w w' : World} {base B : Nat} {e : TypeId} {v : Value} {acc : List Int} (h : RowZ w base e v acc) (hb : Below B w w') (hB : w.heap.size ≤ B) : RowZ w' base e v acc := RowL.below h hb hB
theorem RowZ.mono {w : World} {base base' : Nat} {e : TypeId} {v : Value} {acc : List Int} (h : RowZ w base e v acc) (hb : base' ≤ base) : RowZ w base' e v acc := RowL.mono h hb
/-- the result of a call that makes a row of ints and an errno -/
def ZPost (e : TypeId) (w : World) (r : List Int × Int) (en : Ending) (w' : World) : Prop :=
  ∃ v, en = .returned (.tuple #[v, .int .i64 r.2]) ∧ RowZ w' w.heap.size e v r.1 ∧ Below w.heap.size w w'
theorem ZPost.fail {e : TypeId} {w w' : World} {n : Int} (h : Below w.heap.size w w') : ZPost e w ([], n) (.returned (.tuple #[.slice none 0 0, .int .i64 n])) w' := ⟨_, rfl, RowZ.nil _ _ _, h⟩
/-- what is left behind a place of a text -/
def rest (l : List UInt8) (k : Nat) : List (List UInt8) := if k ≤ l.length then pieces (l.drop k) else []
theorem rest_zero (l : List UInt8) : rest l 0 = pieces l := by unfold rest; rw [if_pos (Nat.zero_le _), List.drop_zero]
theorem rest_end {l : List UInt8} {k : Nat} (h : l.length < k) : rest l k = [] := by unfold rest; rw [if_neg (by omega)]
theorem rest_cut {l : List UInt8} {k m : Nat} (h1 : k ≤ m) (h2 : m ≤ l.length) (hn : ∀ j, k ≤ j → j < m → l.getD j 0 ≠ 44) (he : m = l.length ∨ l.getD m 0 = 44) : rest l k = (l.drop k).take (m - k) :: rest l (m + 1) := by
  have hno : ∀ c ∈ (l.drop k).take (m - k), c ≠ 44 := by
    intro c hc
    obtain ⟨j, hj⟩ := List.getElem?_of_mem hc
    have hjl := (List.getElem?_eq_some_iff.1 hj).1
    simp at hjl
    rw [List.getElem?_take_of_lt (by omega), List.getElem?_drop] at hj
    have := hn (k + j) (by omega) (by omega)
    rw [List.getD_eq_getElem?_getD, hj] at this
    exact this
  have e : l.drop k = (l.drop k).take (m - k) ++ l.drop m := by
    have := (List.take_append_drop (m - k) (l.drop k)).symm
    rw [List.drop_drop, show k + (m - k) = m by omega] at this
    exact this
  by_cases hm : m = l.length
  · have e2 : l.drop m = [] := by rw [hm]; exact List.drop_length
    rw [rest_end (k := m + 1) (by omega)]
    unfold rest
    rw [if_pos (by omega)]
    rw [e2, List.append_nil] at e
    rw [← e] at hno ⊢
    exact pieces_plain _ hno
  · have hlt : m < l.length := by omega
    have hg : l[m] = 44 := by
      rcases he with h | h
      · omega
      · rw [List.getD_eq_getElem?_getD, List.getElem?_eq_getElem hlt] at h
        exact h
    have e2 : l.drop m = 44 :: l.drop (m + 1) := by rw [List.drop_eq_getElem_cons hlt, hg]
    unfold rest
    rw [if_pos (by omega), if_pos (by omega)]
    conv => lhs; rw [e, e2]
    exact pieces_cut _ _ hno
theorem run_err {pages : Int} {p : List UInt8} {ps : List (List UInt8)} {acc : List Int} {e : Int} (h : (refB (rdr p) pages).2.2 = e) (he : e ≠ 0) : run pages (p :: ps) acc = ([], e) := by
  unfold run
  simp only
  rw [if_pos (by rw [h]; exact he), h]
theorem run_over {pages : Int} {p : List UInt8} {ps : List (List UInt8)} {acc : List Int} {a b : Int} (h : refB (rdr p) pages = (a, b, 0)) (hl : 10000 < acc.length + (b - a).natAbs + 1) : run pages (p :: ps) acc = ([], 19) := by
  unfold run
  simp only [h]
  rw [if_neg (by decide), if_pos (by rw [List.length_append, steps_len]; omega)]
theorem run_ok {pages : Int} {p : List UInt8} {ps : List (List UInt8)} {acc : List Int} {a b : Int} (h : refB (rdr p) pages = (a, b, 0)) (hl : acc.length + (b - a).natAbs + 1 ≤ 10000) : run pages (p :: ps) acc = run pages ps (acc ++ steps a b) := by
  conv => lhs; unfold run
  simp only [h]
  rw [if_neg (by decide), if_neg (by rw [List.length_append, steps_len]; omega)]
theorem stp_hy {c : UInt8} (n0 n1 : Int) (bb ss : Bool) (h : (c.toNat : Int) = 45) : stp ⟨n0, n1, false, bb, ss⟩ c = ⟨n0, n1, true, bb, ss⟩ := by
  unfold stp; rw [if_pos ⟨by omega, rfl⟩]
theorem stp_no0 {c : UInt8} (n0 n1 : Int) (bb ss : Bool) (h : (c.toNat : Int) ≠ 45) (h2 : (c.toNat : Int) < 48 ∨ 57 < (c.toNat : Int) ∨ (n0 = 0 ∧ (c.toNat : Int) = 48) ∨ 10000 < n0) : stp ⟨n0, n1, false, bb, ss⟩ c = ⟨n0, n1, false, true, ss⟩ := by
  unfold stp St.cur; rw [if_neg (fun hh => h (by omega)), if_pos (by simp only [Bool.false_eq_true, if_false]; omega)]
theorem stp_no1 {c : UInt8} (n0 n1 : Int) (bb ss : Bool) (h2 : (c.toNat : Int) < 48 ∨ 57 < (c.toNat : Int) ∨ (n1 = 0 ∧ (c.toNat : Int) = 48) ∨ 10000 < n1) : stp ⟨n0, n1, true, bb, ss⟩ c = ⟨n0, n1, true, true, ss⟩ := by
  unfold stp St.cur; rw [if_neg (fun hh => by simp at hh), if_pos (by simp only [if_true]; omega)]
theorem stp_d0 {c : UInt8} (n0 n1 : Int) (bb ss : Bool) (h : 48 ≤ (c.toNat : Int)) (h2 : ¬ ((c.toNat : Int) < 48 ∨ 57 < (c.toNat : Int) ∨ (n0 = 0 ∧ (c.toNat : Int) = 48) ∨ 10000 < n0)) : stp ⟨n0, n1, false, bb, ss⟩ c = ⟨10 * n0 + ((c.toNat : Int) - 48), n1, false, bb, true⟩ := by
  unfold stp St.cur; rw [if_neg (fun hh => by omega), if_neg (by simp only [Bool.false_eq_true, if_false]; omega)]; simp
theorem stp_d1 {c : UInt8} (n0 n1 : Int) (bb ss : Bool) (h : 48 ≤ (c.toNat : Int)) (h2 : ¬ ((c.toNat : Int) < 48 ∨ 57 < (c.toNat : Int) ∨ (n1 = 0 ∧ (c.toNat : Int) = 48) ∨ 10000 < n1)) : stp ⟨n0, n1, true, bb, ss⟩ c = ⟨n0, 10 * n1 + ((c.toNat : Int) - 48), true, bb, true⟩ := by
  unfold stp St.cur; rw [if_neg (fun hh => by omega), if_neg (by simp only [if_true]; omega)]; simp
/-- one step more on the way from a to b -/
theorem steps_next {acc : List Int} {a b : Int} {k : Nat} (h : k ≤ (b - a).natAbs) : (acc ++ (steps a b).take k) ++ [if a ≤ b then a + (k : Int) else a - (k : Int)] = acc ++ (steps a b).take (k + 1) := by
  rw [steps_take h, List.append_assoc]
theorem run_len (pages : Int) : ∀ (ps : List (List UInt8)) (acc : List Int), acc.length ≤ 10000 → (run pages ps acc).1.length ≤ 10000
  | [], acc, h => h
  | p :: ps, acc, h => by
    unfold run
    simp only
    split
    · simp
    · split
      · simp
      · exact run_len pages ps _ (by omega)
theorem rangesL_len (l : List UInt8) (pages : Int) : (rangesL l pages).1.length ≤ 10000 := by
  unfold rangesL
  split
  · simp
  · split
    · simp
    · exact run_len pages _ _ (by simp)
theorem taken_len {acc : List Int} {a b : Int} {k : Nat} (h : k ≤ (b - a).natAbs + 1) : (acc ++ (steps a b).take k).length = acc.length + k := by
  rw [List.length_append, List.length_take, steps_len]; omega
theorem steps_all (a b : Int) : (steps a b).take ((b - a).natAbs + 1) = steps a b := by
  rw [← steps_len]; exact List.take_length
/-- a byte of a text -/
theorem byte_at (s : ByteArray) (i : Nat) (h : i < s.size) : s[i] = s.data.toList.getD i 0 := by
  have h2 : i < s.data.toList.length := by rw [Array.length_toList]; exact h
  rw [List.getD_eq_getElem?_getD, List.getElem?_eq_getElem h2]
  rfl
theorem byte_ne {c d : UInt8} (h : (c.toNat : Int) ≠ (d.toNat : Int)) : c ≠ d := by rintro rfl; exact h rfl
theorem byte_of {c : UInt8} {n : Nat} (h : c.toNat = n) (d : UInt8) (hd : d.toNat = n) : c = d := UInt8.toNat.inj (h.trans hd.symm)
theorem piece_bytes (s : ByteArray) (k m : Nat) : (s.extract k m).data.toList = (s.data.toList.drop k).take (m - k) := by
  rw [ByteArray.data_extract, Array.toList_extract, List.extract_eq_take_drop]
theorem piece_size (s : ByteArray) (k m : Nat) (h : m ≤ s.size) : (s.extract k m).size = m - k := by
  simp; omega
/-- a reader's state behind some bytes -/
theorem rdr_take {l : List UInt8} {i : Nat} (h : i < l.length) : rdr (l.take (i + 1)) = stp (rdr (l.take i)) (l.getD i 0) := by
  unfold rdr
  rw [List.take_add_one, List.foldl_append, List.getElem?_eq_getElem h, List.getD_eq_getElem?_getD, List.getElem?_eq_getElem h]
  rfl
end Go.Law.Pg
