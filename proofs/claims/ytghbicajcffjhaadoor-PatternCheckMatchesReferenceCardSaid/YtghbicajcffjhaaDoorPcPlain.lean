/-
  Patterns: trees, and what Check answers.
-/
import Derived.Test.YtghbicajcffjhaaDoorCellsF
namespace Go.Law.Pn
open Go.RowKit Go.Law
set_option linter.unusedVariables false
/-- the first that is not 0 -/
def fstE (n : Nat) (f : Nat → Int) (d : Int) : Int := match (List.range n).find? (fun i => decide (f i ≠ 0)) with
  | some k => f k
  | none => d
theorem fstE_some {n k : Nat} {f : Nat → Int} {d : Int} (hk : k < n) (hn : ∀ j, j < k → f j = 0) (hx : f k ≠ 0) : fstE n f d = f k := by
  have : (List.range n).find? (fun i => decide (f i ≠ 0)) = some k := by
    rw [List.find?_eq_some_iff_getElem]
    refine ⟨by simpa using hx, k, by simpa using hk, by simp, fun j hj => by simp [hn j hj]⟩
  unfold fstE
  rw [this]
theorem fstE_none {n : Nat} {f : Nat → Int} {d : Int} (hn : ∀ j, j < n → f j = 0) : fstE n f d = d := by
  have : (List.range n).find? (fun i => decide (f i ≠ 0)) = none := by
    rw [List.find?_eq_none]
    intro i hi
    simp [hn i (by simpa using hi)]
  unfold fstE
  rw [this]
theorem fstE_zero {n : Nat} {f : Nat → Int} {d : Int} (h : fstE n f d = 0) : (∀ j, j < n → f j = 0) ∧ d = 0 := by
  have h0 : ∀ j, j < n → f j = 0 := by
    intro j
    induction j using Nat.strongRecOn with
    | _ j ih =>
      intro hj
      by_cases he : f j = 0
      · exact he
      · rw [fstE_some hj (fun i hi => ih i hi (by omega)) he] at h
        exact h
  exact ⟨h0, by rw [fstE_none h0] at h; exact h⟩
/-- what a node has but its kids -/
structure PH where
  kind : Int
  nt : Bool
  lz : Bool
  lo : Int
  hi : Int
  sn : Nat
  sa : Option Addr
  sc : Nat
  sf : Nat → Int × Int
  kn : Nat
  ka : Option Addr
  kc : Nat
/-- a node with its kids (nil: no tree; what stands where there is no kid) -/
inductive PT where
  | nil
  | mk (h : PH) (kf : Nat → PT)
def PT.hd : PT → PH
  | .nil => ⟨0, false, false, 0, 0, 0, none, 0, fun _ => (0, 0), 0, none, 0⟩
  | .mk h _ => h
def PT.kid : PT → Nat → PT
  | .nil => fun _ => .nil
  | .mk _ k => k
def PH.cells (h : PH) : List Value := [.int .i64 h.kind, .bool h.nt, .bool h.lz, .int .i64 h.lo, .int .i64 h.hi, .slice h.sa h.sn h.sc, .slice h.ka h.kn h.kc]
def PH.V (h : PH) (j : Nat) : Value := h.cells.getD j undef
def prV (x : Int × Int) (j : Nat) : Value := [Value.int .i64 x.1, Value.int .i64 x.2].getD j undef
def SetOk (w : World) (a : Option Addr) (n : Nat) (f : Nat → Int × Int) : Prop := CellsF w a n 2 (fun i => prV (f i))
/-- what memory holds of a node -/
def PT.Ok (w : World) : PT → Prop
  | .nil => False
  | .mk h kf => (SetOk w h.sa h.sn h.sf ∧ h.kn ≤ maxLen) ∧ CellsF w h.ka h.kn 7 (fun i => (kf i).hd.V) ∧ ∀ i, i < h.kn → (kf i).Ok w
theorem PT.Ok.below {W w : World} {B : Nat} (hB : W.heap.size ≤ B) (hb : Below B W w) : ∀ {t : PT}, t.Ok W → t.Ok w
  | .nil, hk => hk
  | .mk h kf, hk => ⟨⟨CellsF.below hk.1.1 hB hb, hk.1.2⟩, CellsF.below hk.2.1 hB hb, fun i hi => PT.Ok.below hB hb (hk.2.2 i hi)⟩
/-- the error of a range behind those before it -/
def rgE (sf : Nat → Int × Int) (i : Nat) : Int :=
  if (sf i).1 < 0 ∨ (sf i).2 < (sf i).1 ∨ 1114111 < (sf i).2 then 2 else if 0 < i ∧ (sf i).1 ≤ (sf (i - 1)).2 + 1 then 5 else 0
def setE (n : Nat) (sf : Nat → Int × Int) : Int := if n = 0 then 7 else if 40 < n then 3 else fstE n (rgE sf) 0
/-- the end of the range before -/
def lastV (sf : Nat → Int × Int) (i : Nat) : Int := if i = 0 then -2 else (sf (i - 1)).2
theorem lastV_range {sf : Nat → Int × Int} {i : Nat} (h : ∀ j, j < i → rgE sf j = 0) : -2 ≤ lastV sf i ∧ lastV sf i ≤ 1114111 := by
  unfold lastV
  split
  · omega
  · rename_i h0
    have h1 := h (i - 1) (by omega)
    unfold rgE at h1
    split at h1
    · omega
    · omega
theorem rgE_range {sf : Nat → Int × Int} {i : Nat} (h : (sf i).1 < 0 ∨ (sf i).2 < (sf i).1 ∨ 1114111 < (sf i).2) : rgE sf i = 2 := by unfold rgE; rw [if_pos h]
theorem rgE_order {sf : Nat → Int × Int} {i : Nat} (h0 : ¬ ((sf i).1 < 0 ∨ (sf i).2 < (sf i).1 ∨ 1114111 < (sf i).2)) (h : (sf i).1 ≤ lastV sf i + 1) : rgE sf i = 5 := by
  unfold rgE
  rw [if_neg h0]
  unfold lastV at h
  split at h
  · omega
  · rw [if_pos ⟨by omega, h⟩]
theorem rgE_fine {sf : Nat → Int × Int} {i : Nat} (h0 : ¬ ((sf i).1 < 0 ∨ (sf i).2 < (sf i).1 ∨ 1114111 < (sf i).2)) (h : ¬ (sf i).1 ≤ lastV sf i + 1) : rgE sf i = 0 := by
  unfold rgE
  rw [if_neg h0]
  unfold lastV at h
  split at h
  · rw [if_neg (by omega)]
  · rw [if_neg (by intro hh; exact h hh.2)]
def frmBad (h : PH) : Prop := (h.kind ≠ 0 ∧ 0 < h.sn) ∨ (h.nt = true ∧ h.kind ≠ 0 ∧ h.kind ≠ 3) ∨ (h.kind ≠ 6 ∧ (h.lz = true ∨ h.lo ≠ 0 ∨ h.hi ≠ 0))
def repBad (h : PH) : Prop := h.lo < 0 ∨ 100 < h.lo ∨ h.hi < -1 ∨ 100 < h.hi ∨ (0 ≤ h.hi ∧ h.hi < h.lo)
instance (h : PH) : Decidable (frmBad h) := by unfold frmBad; infer_instance
instance (h : PH) : Decidable (repBad h) := by unfold repBad; infer_instance
/-- the error of the fields of a node -/
def shpE (h : PH) : Int :=
  if h.kind < 0 ∨ 7 < h.kind then 8
  else if frmBad h then 4
  else if h.kind = 0 then (if 0 < h.kn then 4 else setE h.sn h.sf)
  else if h.kind = 4 then (if h.kn = 1 then 4 else 0)
  else if h.kind = 5 then (if h.kn < 2 then 4 else 0)
  else if h.kind = 6 then (if h.kn ≠ 1 then 4 else if repBad h then 2 else 0)
  else if h.kind = 7 then (if h.kn ≠ 1 then 4 else 0)
  else if 0 < h.kn then 4 else 0
/-- kids one after the other -/
def runK (F : Nat → Int → Int → Int × Int × Int) (n g : Int) : Nat → Int × Int × Int
  | 0 => (0, n, g)
  | i + 1 => if (runK F n g i).1 ≠ 0 then runK F n g i else F i (runK F n g i).2.1 (runK F n g i).2.2
def likeB (h k : PH) : Prop := k.kind = h.kind ∧ (h.kind = 4 ∨ h.kind = 5)
instance (h k : PH) : Decidable (likeB h k) := by unfold likeB; infer_instance
/-- the error of a node below d others, and the numbers of nodes and groups behind it -/
def ckN : PT → Int → Int → Int → Int × Int × Int
  | .nil, _, n, g => (8, n, g)
  | .mk h kf, d, n, g =>
    if 200 < n + 1 then (3, n + 1, g)
    else if 20 ≤ d then (22, n + 1, g)
    else if shpE h ≠ 0 then (shpE h, n + 1, g)
    else if h.kind = 7 ∧ 9 < g + 1 then (3, n + 1, g + 1)
    else runK (fun i n g => if likeB h (kf i).hd then (4, n, g) else ckN (kf i) (d + 1) n g) (n + 1) (if h.kind = 7 then g + 1 else g) h.kn
theorem ckN_kids {h : PH} {kf : Nat → PT} {d n g : Int} (h1 : ¬ 200 < n + 1) (h2 : ¬ 20 ≤ d) (h3 : shpE h = 0) (h4 : ¬ (h.kind = 7 ∧ 9 < g + 1)) :
    ckN (.mk h kf) d n g = runK (fun i n g => if likeB h (kf i).hd then (4, n, g) else ckN (kf i) (d + 1) n g) (n + 1) (if h.kind = 7 then g + 1 else g) h.kn := by
  rw [ckN, if_neg h1, if_neg h2, if_neg (by rw [h3]; simp), if_neg h4]
theorem runK_stop {F : Nat → Int → Int → Int × Int × Int} {n g : Int} {i m : Nat} (h : (runK F n g i).1 ≠ 0) (hm : i ≤ m) : runK F n g m = runK F n g i := by
  induction m with
  | zero => rw [show i = 0 by omega]
  | succ m ih =>
    rcases Nat.lt_or_ge m i with h1 | h1
    · rw [show i = m + 1 by omega]
    · have h2 := ih h1
      show (if (runK F n g m).1 ≠ 0 then runK F n g m else _) = _
      rw [if_pos (by rw [h2]; exact h), h2]
theorem runK_zero {F : Nat → Int → Int → Int × Int × Int} {n g : Int} {m : Nat} (h : (runK F n g m).1 = 0) {i : Nat} (hi : i ≤ m) : (runK F n g i).1 = 0 := by
  by_cases h1 : (runK F n g i).1 = 0
  · exact h1
  · rw [runK_stop h1 hi] at h; exact h
/-- all nodes are as they must be -/
def PT.Val : PT → Prop
  | .nil => False
  | .mk h kf => shpE h = 0 ∧ ∀ i, i < h.kn → (kf i).Val
def sumK (F : Nat → Nat) : Nat → Nat
  | 0 => 0
  | i + 1 => sumK F i + F i
/-- how many nodes there are -/
def PT.cnt : PT → Nat
  | .nil => 1
  | .mk h kf => 1 + sumK (fun i => (kf i).cnt) h.kn
theorem ckN_ok : ∀ (t : PT) (d n g : Int), 0 ≤ n → (ckN t d n g).1 = 0 → t.Val ∧ (ckN t d n g).2.1 = n + t.cnt ∧ n + t.cnt ≤ 200
  | .nil, d, n, g, h0, he => by
    rw [ckN] at he
    simp at he
  | .mk h kf, d, n, g, h0, he => by
    unfold ckN at he ⊢
    by_cases h1 : 200 < n + 1
    · rw [if_pos h1] at he; simp at he
    rw [if_neg h1] at he ⊢
    by_cases h2 : 20 ≤ d
    · rw [if_pos h2] at he; simp at he
    rw [if_neg h2] at he ⊢
    by_cases h3 : shpE h ≠ 0
    · rw [if_pos h3] at he; exact absurd he h3
    rw [if_neg h3] at he ⊢
    by_cases h4 : h.kind = 7 ∧ 9 < g + 1
    · rw [if_pos h4] at he; simp at he
    rw [if_neg h4] at he ⊢
    obtain ⟨F, hF⟩ : ∃ F : Nat → Int → Int → Int × Int × Int, F = fun i n g => if likeB h (kf i).hd then (4, n, g) else ckN (kf i) (d + 1) n g := ⟨_, rfl⟩
    rw [← hF] at he ⊢
    obtain ⟨G, hG⟩ : ∃ G : Int, G = if h.kind = 7 then g + 1 else g := ⟨_, rfl⟩
    rw [← hG] at he ⊢
    have key : ∀ m, m ≤ h.kn → (∀ i, i < m → (kf i).Val) ∧ (runK F (n + 1) G m).2.1 = n + 1 + sumK (fun i => (kf i).cnt) m ∧ n + 1 + sumK (fun i => (kf i).cnt) m ≤ 200 := by
      intro m
      induction m with
      | zero => intro _; exact ⟨fun i hi => by omega, by simp [runK, sumK], by simp [sumK]; omega⟩
      | succ m ih =>
        intro hm
        obtain ⟨k1, k2, k3⟩ := ih (by omega)
        have z1 := runK_zero he (i := m) (by omega)
        have z2 := runK_zero he (i := m + 1) hm
        have e1 : runK F (n + 1) G (m + 1) = F m (runK F (n + 1) G m).2.1 (runK F (n + 1) G m).2.2 := by
          show (if (runK F (n + 1) G m).1 ≠ 0 then runK F (n + 1) G m else _) = _
          rw [if_neg (by simpa using z1)]
        rw [e1] at z2 ⊢
        rw [hF] at z2 ⊢
        simp only at z2 ⊢
        rw [← hF] at z2 ⊢
        by_cases hl : likeB h (kf m).hd
        · rw [if_pos hl] at z2; simp at z2
        · rw [if_neg hl] at z2 ⊢
          obtain ⟨a1, a2, a3⟩ := ckN_ok (kf m) (d + 1) _ _ (by rw [k2]; omega) z2
          refine ⟨fun i hi => ?_, ?_, ?_⟩
          · rcases Nat.lt_or_ge i m with h5 | h5
            · exact k1 i h5
            · rw [show i = m by omega]; exact a1
          · rw [a2, k2]; simp only [sumK]; omega
          · rw [k2] at a3; simp only [sumK]; omega
    obtain ⟨k1, k2, k3⟩ := key h.kn (Nat.le_refl _)
    refine ⟨⟨by simpa using h3, k1⟩, ?_, ?_⟩
    · rw [k2]; simp only [PT.cnt]; omega
    · simp only [PT.cnt]; omega
def Rg (n g : Int) : Prop := 0 ≤ n ∧ n ≤ 200 ∧ 0 ≤ g ∧ g ≤ 9
theorem runK_range {F : Nat → Int → Int → Int × Int × Int} {m : Nat} (hF : ∀ i, i < m → ∀ n g, Rg n g → (F i n g).1 = 0 → Rg (F i n g).2.1 (F i n g).2.2) {n g : Int} (h : Rg n g) : ∀ i, i ≤ m → (runK F n g i).1 = 0 → Rg (runK F n g i).2.1 (runK F n g i).2.2
  | 0, _, _ => h
  | i + 1, hi, hz => by
    have z := runK_zero hz (i := i) (by omega)
    have ih := runK_range hF h i (by omega) z
    have e : runK F n g (i + 1) = F i (runK F n g i).2.1 (runK F n g i).2.2 := by
      show (if (runK F n g i).1 ≠ 0 then runK F n g i else _) = _
      rw [if_neg (by simpa using z)]
    rw [e] at hz ⊢
    exact hF i (by omega) _ _ ih hz
theorem ckN_range : ∀ (t : PT) (d n g : Int), Rg n g → (ckN t d n g).1 = 0 → Rg (ckN t d n g).2.1 (ckN t d n g).2.2
  | .nil, d, n, g, hr, he => by
    rw [ckN] at he
    simp at he
  | .mk h kf, d, n, g, hr, he => by
    unfold ckN at he ⊢
    by_cases h1 : 200 < n + 1
    · rw [if_pos h1] at he; simp at he
    rw [if_neg h1] at he ⊢
    by_cases h2 : 20 ≤ d
    · rw [if_pos h2] at he; simp at he
    rw [if_neg h2] at he ⊢
    by_cases h3 : shpE h ≠ 0
    · rw [if_pos h3] at he; exact absurd he h3
    rw [if_neg h3] at he ⊢
    by_cases h4 : h.kind = 7 ∧ 9 < g + 1
    · rw [if_pos h4] at he; simp at he
    rw [if_neg h4] at he ⊢
    refine runK_range (m := h.kn) (fun i hi n g hr hz => ?_) ?_ _ (Nat.le_refl _) he
    · by_cases hl : likeB h (kf i).hd
      · rw [if_pos hl] at hz; simp at hz
      · rw [if_neg hl] at hz ⊢
        exact ckN_range (kf i) (d + 1) n g hr hz
    · unfold Rg at hr ⊢
      split <;> omega
theorem runK_step {F : Nat → Int → Int → Int × Int × Int} {n g : Int} {i : Nat} (z : (runK F n g i).1 = 0) : runK F n g (i + 1) = F i (runK F n g i).2.1 (runK F n g i).2.2 := by
  show (if (runK F n g i).1 ≠ 0 then runK F n g i else _) = _
  rw [if_neg (by simpa using z)]
/-- the size of a node behind some kids -/
def szK (F : Nat → Int) : Nat → Int
  | 0 => 1
  | i + 1 => min (szK F i + F i) 4001
def tmH (h : PH) : Int := max (max h.hi (h.lo + 1)) 1
def PT.sz : PT → Int
  | .nil => 1
  | .mk h kf => if h.kind = 6 then min (1 + (szK (fun i => (kf i).sz) h.kn - 1) * tmH h) 4001 else szK (fun i => (kf i).sz) h.kn
theorem szK_range {F : Nat → Int} {m : Nat} (h : ∀ i, i < m → 1 ≤ F i ∧ F i ≤ 4001) : ∀ i, i ≤ m → 1 ≤ szK F i ∧ szK F i ≤ 4001
  | 0, _ => by simp [szK]
  | i + 1, hi => by
    have h1 := szK_range h i (by omega)
    have h2 := h i (by omega)
    simp only [szK]
    omega
theorem sz_range : ∀ (t : PT), 1 ≤ t.sz ∧ t.sz ≤ 4001
  | .nil => by
    rw [PT.sz]
    omega
  | .mk h kf => by
    have h1 := szK_range (F := fun i => (kf i).sz) (m := h.kn) (fun i _ => sz_range (kf i)) h.kn (Nat.le_refl _)
    unfold PT.sz
    split
    · have h2 : 1 ≤ tmH h := by unfold tmH; omega
      have h3 : 0 ≤ (szK (fun i => (kf i).sz) h.kn - 1) * tmH h := Int.mul_nonneg (by omega) (by omega)
      omega
    · exact h1
end Go.Law.Pn
