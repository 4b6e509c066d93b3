/-
  Masters: which shapes are places, what is left of a master, and which places are not used.
-/
import Derived.Test.YtabnohphgegflaaShErrPlain
import Derived.Test.YtabnohphgegflaaRowV
import Derived.Lib.Strings
namespace Go.Law.Ms
open Go.RowKit Go.Law Go.Law.Sh
set_option linter.unusedVariables false
def plB : ByteArray := ⟨#[112, 108, 97, 99, 101, 46]⟩
/-- does a name begin with 'place.'? -/
def roomB (s : ByteArray) : Bool := plB.data.toList.isPrefixOf s.data.toList
theorem room_short {s : ByteArray} (h : s.size < 6) : roomB s = false := by
  cases hb : roomB s
  · rfl
  · have h1 := (List.isPrefixOf_iff_prefix.1 hb).length_le
    have h2 : s.data.toList.length = s.size := Array.length_toList
    rw [h2] at h1
    have h3 : plB.data.toList.length = 6 := rfl
    omega
theorem room_take {s : ByteArray} : roomB s = true ↔ s.data.toList.take 6 = plB.data.toList := by
  unfold roomB
  rw [List.isPrefixOf_iff_prefix]
  constructor
  · rintro ⟨t, ht⟩
    rw [← ht]
    rfl
  · intro h
    exact ⟨s.data.toList.drop 6, by rw [← h, List.take_append_drop]⟩
theorem toList_data (s : ByteArray) : s.toList = s.data.toList := ByteArray.toList_eq s
theorem bytes_ext {a b : ByteArray} (h : a.toList = b.toList) : a = b := by
  rw [toList_data, toList_data] at h
  exact WideShapes.bytes_inj h
theorem room_ext {s : ByteArray} (h : 6 ≤ s.size) : roomB s = ((s.extract 0 6).toList == [112, 108, 97, 99, 101, 46]) := by
  have e : (s.extract 0 6).toList = s.data.toList.take 6 := by
    rw [toList_data, Lib.extract_data]
    simp
  rw [e]
  cases hb : (s.data.toList.take 6 == [112, 108, 97, 99, 101, 46])
  · cases hr : roomB s
    · rfl
    · rw [room_take.1 hr] at hb
      cases hb
  · refine room_take.2 ?_
    have : List.take 6 s.data.toList = [112, 108, 97, 99, 101, 46] := by simpa using hb
    rw [this]; rfl
structure ShD where
  it : Int
  pa : Int
  ki : Int
  x : Int
  y : Int
  w : Int
  h : Int
  tu : Int
  fr : Int
  tn : Int
  nm : ByteArray
  tx : ByteArray
instance : Inhabited ShD := ⟨⟨0, 0, 0, 0, 0, 0, 0, 0, 0, 0, ⟨#[]⟩, ⟨#[]⟩⟩⟩
def ShD.cells (s : ShD) : List Value := [.int .i64 s.it, .int .i64 s.pa, .int .i64 s.ki, .int .i64 s.x, .int .i64 s.y, .int .i64 s.w, .int .i64 s.h, .int .i64 s.tu, .int .i64 s.fr, .int .i64 s.tn, .string s.nm, .string s.tx]
def ShD.V (s : ShD) (j : Nat) : Value := s.cells.getD j undef
theorem ShD.V_get (s : ShD) {j : Nat} (h : j < 12) : s.cells[j]? = some (s.V j) := by
  unfold ShD.V
  rw [List.getD_eq_getElem?_getD, List.getElem?_eq_getElem (show j < s.cells.length from h)]
  rfl
def shD (E : Nat → Nat → Int) (N : Nat → Nat → ByteArray) (i : Nat) : ShD := ⟨E i 0, E i 1, E i 2, E i 3, E i 4, E i 5, E i 6, E i 7, E i 8, E i 9, N i 0, N i 1⟩
section
variable {n : Nat} {E : Nat → Nat → Int} {N : Nat → Nat → ByteArray}
theorem ok_at (h : shE n E = 0) {i : Nat} (hi : i < n) : kindS (E i) ∧ numS (E i) ∧ boxS (E i) ∧ endS (E i) ∧ findV i E (E i 0) < 0 ∧ parE i E 19 (E i 1) = 0 := by
  have he := (shE_zero h).2 i hi
  by_cases h1 : kindS (E i)
  · by_cases h2 : numS (E i)
    · by_cases h3 : boxS (E i)
      · by_cases h4 : endS (E i)
        · by_cases h5 : findV i E (E i 0) < 0
          · rw [err_par h1 h2 h3 h4 h5] at he
            exact ⟨h1, h2, h3, h4, h5, he⟩
          · rw [err_twice h1 h2 h3 h4 (by omega)] at he; omega
        · rw [err_end h1 h2 h3 h4] at he; omega
      · rw [err_box h1 h2 h3] at he; omega
    · rw [err_num h1 h2] at he; omega
  · rw [err_kind h1] at he; omega
theorem ok_item (h : shE n E = 0) {i : Nat} (hi : i < n) : 1 ≤ E i 0 ∧ E i 0 ≤ 1073741824 := (ok_at h hi).2.1.1
theorem ok_apart (h : shE n E = 0) {i j : Nat} (hi : i < n) (hj : j < i) : ¬ E j 0 = E i 0 := by
  have := (ok_at h hi).2.2.2.2.1
  rcases findV_cases i E (E i 0) with ⟨_, h2⟩ | ⟨k, hk, h2, _⟩
  · exact h2 j hj
  · omega
theorem ok_one (h : shE n E = 0) {i j : Nat} (hi : i < n) (hj : j < n) (he : E i 0 = E j 0) : i = j := by
  rcases Nat.lt_trichotomy i j with h1 | h1 | h1
  · exact absurd he (ok_apart h hj h1)
  · exact h1
  · exact absurd he.symm (ok_apart h hi h1)
/-- the group of a shape -/
theorem ok_par (h : shE n E = 0) {i : Nat} (hi : i < n) (hp : E i 1 ≠ 0) : ∃ k, k < i ∧ E k 0 = E i 1 := by
  have he := (ok_at h hi).2.2.2.2.2
  rcases findV_cases i E (E i 1) with ⟨h1, _⟩ | ⟨k, hk, _, h2, _⟩
  · rw [parE_none hp (by omega)] at he; omega
  · exact ⟨k, hk, h2⟩
theorem find_of (h : shE n E = 0) {k : Nat} (hk : k < n) {x : Int} (hx : E k 0 = x) : findV n E x = k :=
  findV_some hk (fun j hj he => ok_apart h hk hj (by rw [he, hx])) hx
def plc (E : Nat → Nat → Int) (N : Nat → Nat → ByteArray) : Nat → Nat → Bool
  | 0, _ => false
  | f + 1, i => if E i 1 = 0 then roomB (N i 0) else plc E N f (findV i E (E i 1)).toNat
theorem plc_fuel (h : shE n E = 0) : ∀ i, i < n → ∀ f, i + 1 ≤ f → plc E N f i = plc E N (i + 1) i := by
  intro i
  induction i using Nat.strongRecOn with
  | _ i ih =>
    intro hi f hf
    obtain ⟨g, rfl⟩ : ∃ g, f = g + 1 := ⟨f - 1, by omega⟩
    by_cases h0 : E i 1 = 0
    · simp only [plc, if_pos h0]
    · simp only [plc, if_neg h0]
      obtain ⟨k, hk, he⟩ := ok_par h hi h0
      have hf' : findV i E (E i 1) = k := findV_some hk (fun j hj hx => ok_apart h (by omega : k < n) hj (by rw [hx, he])) he
      rw [hf']
      simp only [Int.toNat_natCast]
      rw [ih k hk (by omega) g (by omega), ih k hk (by omega) i (by omega)]
/-- does a shape lie in a place? -/
def inP (E : Nat → Nat → Int) (N : Nat → Nat → ByteArray) (i : Nat) : Bool := plc E N (i + 1) i
theorem inP_top {i : Nat} (h0 : E i 1 = 0) : inP E N i = roomB (N i 0) := by simp only [inP, plc, if_pos h0]
theorem inP_up (h : shE n E = 0) {i k : Nat} (hi : i < n) (hk : k < i) (he : E k 0 = E i 1) : inP E N i = inP E N k := by
  have h0 : E i 1 ≠ 0 := by have := (ok_item h (by omega : k < n)).1; omega
  have hf' : findV i E (E i 1) = k := findV_some hk (fun j hj hx => ok_apart h (by omega : k < n) hj (by rw [hx, he])) he
  show plc E N (i + 1) i = plc E N (k + 1) k
  simp only [plc, if_neg h0]
  rw [hf']
  simp only [Int.toNat_natCast]
  exact plc_fuel h k (by omega) i (by omega)
/-- the numbers of shapes ahead of the i-th that are gone -/
def goneK (E : Nat → Nat → Int) (N : Nat → Nat → ByteArray) (i : Nat) (k : Int) : Bool := (List.range i).any fun j => decide (E j 0 = k) && inP E N j
theorem goneK_iff {i : Nat} {k : Int} : goneK E N i k = true ↔ ∃ j, j < i ∧ E j 0 = k ∧ inP E N j = true := by
  unfold goneK
  simp
theorem goneK_at (h : shE n E = 0) {i j : Nat} (hi : i ≤ n) (hj : j < i) {k : Int} (he : E j 0 = k) : goneK E N i k = inP E N j := by
  cases hb : inP E N j
  · cases hg : goneK E N i k
    · rfl
    · obtain ⟨q, hq, e1, e2⟩ := goneK_iff.1 hg
      have := ok_one h (by omega : q < n) (by omega : j < n) (by rw [e1, he])
      subst this
      rw [hb] at e2
      cases e2
  · exact goneK_iff.2 ⟨j, hj, he, hb⟩
theorem goneK_no {i : Nat} {k : Int} (h : ∀ j, j < i → ¬ E j 0 = k) : goneK E N i k = false := by
  cases hg : goneK E N i k
  · rfl
  · obtain ⟨q, hq, e1, _⟩ := goneK_iff.1 hg
    exact absurd e1 (h q hq)
theorem goneK_zero (h : shE n E = 0) {i : Nat} (hi : i ≤ n) : goneK E N i 0 = false :=
  goneK_no fun j hj he => by have := (ok_item h (by omega : j < n)).1; omega
theorem goneK_put (h : shE n E = 0) {i : Nat} (hi : i < n) (k : Int) : goneK E N (i + 1) k = if k = E i 0 then inP E N i else goneK E N i k := by
  by_cases hk : k = E i 0
  · rw [if_pos hk]
    exact goneK_at h (by omega) (Nat.lt_succ_self i) hk.symm
  · rw [if_neg hk]
    unfold goneK
    rw [List.range_succ, List.any_append]
    simp only [List.any_cons, List.any_nil, Bool.or_false]
    rw [decide_eq_false (fun e => hk e.symm)]
    simp
theorem goneK_par (h : shE n E = 0) {i : Nat} (hi : i < n) (hp : E i 1 ≠ 0) : goneK E N i (E i 1) = inP E N i := by
  obtain ⟨k, hk, he⟩ := ok_par h hi hp
  rw [goneK_at h (by omega) hk he, inP_up h hi hk he]
/-- what is left of a master -/
def backL (E : Nat → Nat → Int) (N : Nat → Nat → ByteArray) : Nat → List ShD
  | 0 => []
  | i + 1 => if inP E N i then backL E N i else backL E N i ++ [shD E N i]
theorem back_gone {i : Nat} (h : inP E N i = true) : backL E N (i + 1) = backL E N i := by rw [backL, if_pos h]
theorem back_left {i : Nat} (h : inP E N i = false) : backL E N (i + 1) = backL E N i ++ [shD E N i] := by rw [backL, if_neg (by rw [h]; simp)]
theorem back_len : ∀ i, (backL E N i).length ≤ i
  | 0 => Nat.le_refl _
  | i + 1 => by
    have := back_len i
    rw [backL]
    split <;> simp <;> omega
theorem back_mem {s : ShD} : ∀ i, s ∈ backL E N i → ∃ j, j < i ∧ s = shD E N j
  | 0, h => by cases h
  | i + 1, h => by
    rw [backL] at h
    split at h
    · obtain ⟨j, hj, e⟩ := back_mem i h
      exact ⟨j, by omega, e⟩
    · rcases List.mem_append.1 h with h | h
      · obtain ⟨j, hj, e⟩ := back_mem i h
        exact ⟨j, by omega, e⟩
      · simp at h
        exact ⟨i, by omega, h⟩
theorem back_get {i k : Nat} (hk : k < (backL E N i).length) : ∃ j, j < i ∧ (backL E N i).getD k default = shD E N j := by
  rw [List.getD_eq_getElem?_getD, List.getElem?_eq_getElem hk]
  exact back_mem i (List.getElem_mem hk)
/-- links lose the ends that are gone -/
def cutX (g : Int → Bool) (s : ShD) : ShD := { s with fr := if g s.fr then 0 else s.fr, tn := if g s.tn then 0 else s.tn }
/-- the place with a name -/
def placeE (n : Nat) (E : Nat → Nat → Int) (N : Nat → Nat → ByteArray) (nm : ByteArray) : Int :=
  match (List.range n).find? (fun i => decide (E i 1 = 0) && roomB (N i 0) && decide (N i 0 = nm)) with
  | some k => k
  | none => -1
def isPl (E : Nat → Nat → Int) (N : Nat → Nat → ByteArray) (nm : ByteArray) (i : Nat) : Prop := E i 1 = 0 ∧ roomB (N i 0) = true ∧ N i 0 = nm
instance (E : Nat → Nat → Int) (N : Nat → Nat → ByteArray) (nm : ByteArray) (i : Nat) : Decidable (isPl E N nm i) := by unfold isPl; infer_instance
theorem place_some {k : Nat} {nm : ByteArray} (hk : k < n) (hn : ∀ j, j < k → ¬ isPl E N nm j) (hx : isPl E N nm k) : placeE n E N nm = k := by
  have : (List.range n).find? (fun i => decide (E i 1 = 0) && roomB (N i 0) && decide (N i 0 = nm)) = some k := by
    rw [List.find?_eq_some_iff_getElem]
    refine ⟨by simp only [Bool.and_eq_true, decide_eq_true_eq]; exact ⟨⟨hx.1, hx.2.1⟩, hx.2.2⟩, k, by simpa using hk, by simp, fun j hj => ?_⟩
    have := hn j hj
    unfold isPl at this
    simp only [List.getElem_range, Bool.not_eq_true', Bool.and_eq_false_iff, decide_eq_false_iff_not]
    by_cases h1 : E j 1 = 0
    · by_cases h2 : roomB (N j 0) = true
      · exact .inr (fun h3 => this ⟨h1, h2, h3⟩)
      · exact .inl (.inr (by simpa using h2))
    · exact .inl (.inl h1)
  unfold placeE
  rw [this]
theorem place_none {nm : ByteArray} (hn : ∀ j, j < n → ¬ isPl E N nm j) : placeE n E N nm = -1 := by
  have : (List.range n).find? (fun i => decide (E i 1 = 0) && roomB (N i 0) && decide (N i 0 = nm)) = none := by
    rw [List.find?_eq_none]
    intro i hi hc
    simp only [Bool.and_eq_true, decide_eq_true_eq] at hc
    exact hn i (by simpa using hi) ⟨hc.1.1, hc.1.2, hc.2⟩
  unfold placeE
  rw [this]
theorem place_cases (n : Nat) (E : Nat → Nat → Int) (N : Nat → Nat → ByteArray) (nm : ByteArray) : (placeE n E N nm = -1 ∧ ∀ j, j < n → ¬ isPl E N nm j) ∨ ∃ k, k < n ∧ placeE n E N nm = k ∧ isPl E N nm k ∧ ∀ j, j < k → ¬ isPl E N nm j := by
  by_cases h : ∀ j, j < n → ¬ isPl E N nm j
  · exact .inl ⟨place_none h, h⟩
  · right
    have hex : ∃ k, k < n ∧ isPl E N nm k := Classical.byContradiction fun hn => h fun j hj hp => hn ⟨j, hj, hp⟩
    obtain ⟨k, hk⟩ := hex
    have hmin : ∀ m, (m < n ∧ isPl E N nm m) → ∃ k, k < n ∧ isPl E N nm k ∧ ∀ j, j < k → ¬ isPl E N nm j := by
      intro m
      induction m using Nat.strongRecOn with
      | _ m ih =>
        intro hm
        by_cases h2 : ∃ j, j < m ∧ isPl E N nm j
        · obtain ⟨j, hj, hp⟩ := h2
          exact ih j hj ⟨by omega, hp⟩
        · exact ⟨m, hm.1, hm.2, fun j hj hp => h2 ⟨j, hj, hp⟩⟩
    obtain ⟨q, h1, h2, h3⟩ := hmin k hk
    exact ⟨q, h1, place_some h1 h3 h2, h2, h3⟩
end
/-- a shape of a slide without a size lies where the master has a place for it -/
def frontD (n : Nat) (E : Nat → Nat → Int) (N : Nat → Nat → ByteArray) (s : ShD) : ShD :=
  if (s.pa = 0 ∧ s.w = 0 ∧ s.h = 0) ∧ 0 ≤ placeE n E N s.nm then { s with x := E (placeE n E N s.nm).toNat 3, y := E (placeE n E N s.nm).toNat 4, w := E (placeE n E N s.nm).toNat 5, h := E (placeE n E N s.nm).toNat 6, tu := E (placeE n E N s.nm).toNat 7 } else s
/-- the names in use when the i-th shape of the master is looked at -/
def usedB (n1 : Nat) (E1 : Nat → Nat → Int) (N1 : Nat → Nat → ByteArray) (E2 : Nat → Nat → Int) (N2 : Nat → Nat → ByteArray) (i : Nat) (nm : ByteArray) : Bool :=
  (List.range n1).any (fun j => decide (E1 j 1 = 0) && decide (N1 j 0 = nm)) || (List.range i).any (fun j => decide (E2 j 1 = 0) && roomB (N2 j 0) && decide (N2 j 0 = nm))
def missL (n1 : Nat) (E1 : Nat → Nat → Int) (N1 : Nat → Nat → ByteArray) (E2 : Nat → Nat → Int) (N2 : Nat → Nat → ByteArray) : Nat → List ByteArray
  | 0 => []
  | i + 1 => if (E2 i 1 = 0 ∧ roomB (N2 i 0) = true) ∧ usedB n1 E1 N1 E2 N2 i (N2 i 0) = false then missL n1 E1 N1 E2 N2 i ++ [N2 i 0] else missL n1 E1 N1 E2 N2 i
section
variable {n1 : Nat} {E1 : Nat → Nat → Int} {N1 : Nat → Nat → ByteArray} {E2 : Nat → Nat → Int} {N2 : Nat → Nat → ByteArray}
theorem miss_yes {i : Nat} (h : (E2 i 1 = 0 ∧ roomB (N2 i 0) = true) ∧ usedB n1 E1 N1 E2 N2 i (N2 i 0) = false) : missL n1 E1 N1 E2 N2 (i + 1) = missL n1 E1 N1 E2 N2 i ++ [N2 i 0] := by rw [missL, if_pos h]
theorem miss_no {i : Nat} (h : ¬ ((E2 i 1 = 0 ∧ roomB (N2 i 0) = true) ∧ usedB n1 E1 N1 E2 N2 i (N2 i 0) = false)) : missL n1 E1 N1 E2 N2 (i + 1) = missL n1 E1 N1 E2 N2 i := by rw [missL, if_neg h]
theorem miss_len : ∀ i, (missL n1 E1 N1 E2 N2 i).length ≤ i
  | 0 => Nat.le_refl _
  | i + 1 => by
    have := miss_len i
    rw [missL]
    split <;> simp <;> omega
theorem used_same {i : Nat} (h : ¬ (E2 i 1 = 0 ∧ roomB (N2 i 0) = true)) (nm : ByteArray) : usedB n1 E1 N1 E2 N2 (i + 1) nm = usedB n1 E1 N1 E2 N2 i nm := by
  unfold usedB
  rw [List.range_succ (n := i), List.any_append]
  have : (decide (E2 i 1 = 0) && roomB (N2 i 0)) = false := by
    by_cases h1 : E2 i 1 = 0
    · have : roomB (N2 i 0) = false := by simpa using fun h2 => h ⟨h1, h2⟩
      rw [this]; simp
    · rw [decide_eq_false h1]; rfl
  simp [this]
theorem used_put {i : Nat} (h : E2 i 1 = 0 ∧ roomB (N2 i 0) = true) (nm : ByteArray) : usedB n1 E1 N1 E2 N2 (i + 1) nm = if nm = N2 i 0 then true else usedB n1 E1 N1 E2 N2 i nm := by
  unfold usedB
  rw [List.range_succ (n := i), List.any_append]
  by_cases he : nm = N2 i 0
  · rw [if_pos he]; simp [h.1, h.2, he]
  · rw [if_neg he]
    have : decide (N2 i 0 = nm) = false := decide_eq_false (fun e => he e.symm)
    simp [h.1, h.2, this]
end
end Go.Law.Ms
