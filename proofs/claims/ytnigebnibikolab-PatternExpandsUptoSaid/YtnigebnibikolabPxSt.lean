/-
  While a template is read: what holds of memory; the ranges of a match.
-/
import Derived.Test.YtnigebnibikolabPxPlain
import Derived.Test.YtnigebnibikolabBlk
import Derived.Test.YtnigebnibikolabCellsF
import Derived.Lib.OthersKept
namespace Go.Law.Px
open Go.RowKit Go.Law
set_option linter.unusedVariables false
/-- the cells of the ranges: the match's own, then its groups' -/
def spC (f t : Int) (n : Nat) (G : Nat → Nat → Int) : List Value := [.int .i64 f, .int .i64 t] ++ (List.range (n * 2)).map (fun j => .int .i64 (G (j / 2) (j % 2)))
def spF (f t : Int) (G : Nat → Nat → Int) : Nat → Int × Int
  | 0 => (f, t)
  | i + 1 => (G i 0, G i 1)
theorem spC_len (f t : Int) (n : Nat) (G : Nat → Nat → Int) : (spC f t n G).length = (1 + n) * 2 := by
  simp [spC]; omega
theorem spC_get {f t : Int} {n : Nat} {G : Nat → Nat → Int} : ∀ {i : Nat}, i < 1 + n → (spC f t n G)[i * 2]? = some (.int .i64 (spF f t G i).1) ∧ (spC f t n G)[i * 2 + 1]? = some (.int .i64 (spF f t G i).2)
  | 0, _ => ⟨rfl, rfl⟩
  | i + 1, h => by
    unfold spC spF
    rw [List.getElem?_append_right (by simp; omega), List.getElem?_append_right (by simp; omega)]
    simp only [List.length_cons, List.length_nil]
    rw [show (i + 1) * 2 - (0 + 1 + 1) = i * 2 by omega, show (i + 1) * 2 + 1 - (0 + 1 + 1) = i * 2 + 1 by omega]
    rw [List.getElem?_map, List.getElem?_map, List.getElem?_range (by omega), List.getElem?_range (by omega)]
    simp only [Option.map_some]
    rw [show i * 2 / 2 = i by omega, show i * 2 % 2 = 0 by omega, show (i * 2 + 1) / 2 = i by omega, show (i * 2 + 1) % 2 = 1 by omega]
    exact ⟨rfl, rfl⟩
/-- a range that is out of range -/
def badS (i : Nat) (f t : Int) (nT : Nat) : Prop := (i = 0 ∨ f ≠ -1 ∨ t ≠ -1) ∧ (f < 0 ∨ t < f ∨ (nT : Int) < t)
instance (i : Nat) (f t : Int) (nT : Nat) : Decidable (badS i f t nT) := by unfold badS; infer_instance
def badAny (f t : Int) (n : Nat) (G : Nat → Nat → Int) (nT : Nat) : Bool := (List.range (1 + n)).any fun i => decide (badS i (spF f t G i).1 (spF f t G i).2 nT)
theorem badAny_yes {f t : Int} {n : Nat} {G : Nat → Nat → Int} {nT i : Nat} (hi : i < 1 + n) (h : badS i (spF f t G i).1 (spF f t G i).2 nT) : badAny f t n G nT = true := by
  unfold badAny
  rw [List.any_eq_true]
  exact ⟨i, List.mem_range.2 hi, decide_eq_true h⟩
theorem badAny_no {f t : Int} {n : Nat} {G : Nat → Nat → Int} {nT : Nat} (h : ∀ i, i < 1 + n → ¬ badS i (spF f t G i).1 (spF f t G i).2 nT) : badAny f t n G nT = false := by
  unfold badAny
  rw [List.any_eq_false]
  intro i hi
  have := h i (List.mem_range.1 hi)
  simpa using this
/-- the text of range k -/
def segF (f t : Int) (G : Nat → Nat → Int) (T : Nat → Int) (k : Nat) : List Int := if 0 ≤ (spF f t G k).1 then (List.range ((spF f t G k).2 - (spF f t G k).1).toNat).map (fun j => T ((spF f t G k).1.toNat + j)) else []
theorem segF_len {f t : Int} {n : Nat} {G : Nat → Nat → Int} {T : Nat → Int} {nT k : Nat} (hk : k < 1 + n) (h : ¬ badS k (spF f t G k).1 (spF f t G k).2 nT) : (segF f t G T k).length ≤ nT := by
  unfold segF
  unfold badS at h
  split
  · simp
    omega
  · simp
/-- all that a template gives -/
def tmplF (s : ByteArray) (f t : Int) (n : Nat) (G : Nat → Nat → Int) (nT : Nat) (T : Nat → Int) : List Int × Int :=
  if 9 < n then ([], 3) else if badAny f t n G nT = true then ([], 2) else expL (1 + n) (segF f t G T) (runesL s.data.toList) false []
/-- two rows of different types; below the start all is as it was -/
structure PxS (TS TI : TypeId) (B : Nat) (w : World) (sv : Value) (ns : Nat) (SC : List Value) (v : Value) (acc : List Int) (wr : World) : Prop where
  below : Below B w wr
  low : B ≤ wr.heap.size
  spans : RowL wr B TS 2 sv ns SC
  out : RowL wr B TI 1 v acc.length (acc.map (Value.int .i64))
  kinds : TS ≠ TI
section
variable {TS TI : TypeId} {B : Nat} {w : World} {sv : Value} {ns : Nat} {SC : List Value} {v : Value} {acc : List Int} {wr w' : World}
theorem row_obj {w : World} {base : Nat} {e : TypeId} {s : Nat} {v : Value} {n : Nat} {xs : List Value} (h : RowL w base e s v n xs) {k : Nat} (hk : v.ownBlock = some k) : ∃ cs, w.heap[k]? = some (.cells cs e (0, 0)) := by
  obtain ⟨_, ⟨rfl, _⟩ | ⟨g, cap, cur, rfl, _, hg, _⟩⟩ := h
  · simp [Value.ownBlock] at hk
  · simp [Value.ownBlock] at hk
    subst hk
    exact ⟨cur, hg⟩
theorem PxS.under (h : PxS TS TI B w sv ns SC v acc wr) (hb : Below wr.heap.size wr w') : PxS TS TI B w sv ns SC v acc w' :=
  ⟨h.below.trans (hb.mono h.low), Nat.le_trans h.low hb.size, h.spans.below hb (Nat.le_refl _), h.out.below hb (Nat.le_refl _), h.kinds⟩
theorem PxS.apart (h : PxS TS TI B w sv ns SC v acc wr) {k : Nat} (hk : sv.ownBlock = some k) : v.ownBlock ≠ some k := by
  intro h2
  obtain ⟨c1, e1⟩ := row_obj h.spans hk
  obtain ⟨c2, e2⟩ := row_obj h.out h2
  rw [e1] at e2
  injection e2 with e3
  injection e3 with _ e4
  exact h.kinds e4
/-- behind an append to the second row -/
theorem PxS.grown (h : PxS TS TI B w sv ns SC v acc wr) {v' : Value} {l : List Int} (hg : wr.grownBy w' v.ownBlock) (hr : w'.ownsRow B TI 1 v' (acc.length + l.length) (acc.map (Value.int .i64) ++ l.map (Value.int .i64))) : PxS TS TI B w sv ns SC v' (acc ++ l) w' :=
  ⟨Below.grown h.below hg h.low (fun k hk => RowL.ge h.out k hk), Nat.le_trans h.low hg.size, h.spans.block (fun k hk => hg.block k (h.spans.blk_lt k hk) (fun e => h.apart hk e.symm)), by rw [List.length_append, List.map_append]; exact hr, h.kinds⟩
theorem PxS.iter (h : PxS TS TI B w sv ns SC v acc wr) {K : Nat} {s : ByteArray} {p : Nat} (hk : wr.heap[K]? = some (.stringIter s p)) (hB : B ≤ K) (p' : Nat) : PxS TS TI B w sv ns SC v acc (wr.iterAt K s p') := by
  have hne : ∀ {e : TypeId} {s0 n0 : Nat} {u : Value} {xs : List Value}, RowL wr B e s0 u n0 xs → ∀ k, u.ownBlock = some k → (wr.iterAt K s p').heap[k]? = wr.heap[k]? := by
    intro e s0 n0 u xs hr k hk2
    refine Lib.iterAt_other _ _ _ _ _ ?_
    rintro rfl
    obtain ⟨c, e1⟩ := row_obj hr hk2
    rw [hk] at e1
    cases e1
  exact ⟨Lib.below_iterAt h.below hB _ _, by rw [Lib.iterAt_size]; exact h.low, h.spans.block (hne h.spans), h.out.block (hne h.out), h.kinds⟩
/-- an iterator's block is not touched by an append -/
theorem iter_grown (h : PxS TS TI B w sv ns SC v acc wr) {K : Nat} {s : ByteArray} {p : Nat} (hk : wr.heap[K]? = some (.stringIter s p)) (hg : wr.grownBy w' v.ownBlock) : w'.heap[K]? = some (.stringIter s p) := by
  rw [hg.block K (Array.getElem?_eq_some_iff.1 hk).1 (fun e => ?_)]
  · exact hk
  · obtain ⟨c, e1⟩ := row_obj h.out e.symm
    rw [hk] at e1
    cases e1
theorem PxS.at {g c : Nat} (h : PxS TS TI B w (.slice (some ⟨g, 0, none⟩) ns c) ns SC v acc wr) (hn : 0 < ns) {k : Nat} {u : Value} (hk : SC[k]? = some u) : wr.cell? ⟨g, k, none⟩ = some u := by
  obtain ⟨g', c', hv, _, _, _, _, _, hc⟩ := RowL.at h.spans hn
  cases hv
  exact hc k u hk
theorem row_single {w : World} {base : Nat} {e : TypeId} {cs : List Value} {s : Nat} (hs : cs.length = s) (hb : base ≤ w.heap.size) : RowL (w.alloc (.cells cs.toArray e)) base e s (.slice (some ⟨w.heap.size, 0, none⟩) 1 1) 1 cs := by
  refine ⟨by rw [hs, Nat.one_mul], .inr ⟨w.heap.size, 1, cs.toArray, rfl, hb, ?_, Nat.le_refl _, by unfold maxLen; omega, by simp [hs], ?_⟩⟩
  · show (w.heap.push _)[_]? = _; simp
  · rw [Nat.one_mul, ← hs]; simp
end
theorem add_off (b o j : Nat) : (⟨b, o, none⟩ : Addr).add j = ⟨b, o + j, none⟩ := by
  unfold Addr.add
  split
  · rename_i h; subst h; rfl
  · rfl
/-- what is read of a slice of pairs -/
theorem pairs_cells {w : World} {b off n : Nat} {G : Nat → Nat → Int} (h : ∀ i, i < n → ∀ j, j < 2 → w.cell? ⟨b, off + i * 2 + j, none⟩ = some (.int .i64 (G i j))) :
    ∀ j u, ((List.range (n * 2)).map (fun j => Value.int .i64 (G (j / 2) (j % 2))))[j]? = some u → w.cell? ((⟨b, off, none⟩ : Addr).add j) = some u := by
  intro j u hj
  rw [List.getElem?_map] at hj
  by_cases hjn : j < n * 2
  · rw [List.getElem?_range hjn] at hj
    simp only [Option.map_some, Option.some.injEq] at hj
    subst hj
    have := h (j / 2) (by omega) (j % 2) (by omega)
    rw [show off + j / 2 * 2 + j % 2 = off + j by omega] at this
    rw [add_off]; exact this
  · rw [List.getElem?_eq_none (by simpa using hjn)] at hj
    cases hj
/-- what is read of a slice of numbers -/
theorem ints_cells {w : World} {b off n : Nat} {T : Nat → Int} (a m : Nat) (h : ∀ i, i < n → w.cell? ⟨b, off + i, none⟩ = some (.int .i64 (T i))) (ham : a + m ≤ n) :
    ∀ j u, ((((List.range m).map (fun j => T (a + j))).map (Value.int .i64)) : List Value)[j]? = some u → w.cell? ((⟨b, off + a, none⟩ : Addr).add j) = some u := by
  intro j u hj
  rw [List.getElem?_map, List.getElem?_map] at hj
  by_cases hjn : j < m
  · rw [List.getElem?_range hjn] at hj
    simp only [Option.map_some, Option.some.injEq] at hj
    subst hj
    have := h (a + j) (by omega)
    rw [← Nat.add_assoc] at this
    rw [add_off]; exact this
  · rw [List.getElem?_eq_none (by simpa using hjn)] at hj
    cases hj
end Go.Law.Px
