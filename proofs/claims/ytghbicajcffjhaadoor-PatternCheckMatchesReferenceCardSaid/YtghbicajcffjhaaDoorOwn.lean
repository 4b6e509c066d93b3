/-
  Rows of ints told by a function: 'IntsF' (they read so), 'OwnF' (a block of the call's own whose first cells hold them).
-/
import Derived.WalkKit
import Derived.WalkSmall
import Derived.Laws.MakeOwn
import Derived.Laws.OwnMore
import Derived.Test.YtghbicajcffjhaaDoorReads
namespace Go.Law
open Go.RowKit

/-- n ints at an address. -/
def IntsF (w : World) (a : Option Addr) (n : Nat) (f : Nat → Int) : Prop :=
  0 < n → ∃ b off, a = some ⟨b, off, none⟩ ∧ ∀ i, i < n → w.cell? ⟨b, off + i, none⟩ = some (.int .i64 (f i))
/-- Block g is a row of the call's own, not frozen; its first n cells hold the ints f. -/
def OwnF (w : World) (e : TypeId) (g : Nat) (n : Nat) (f : Nat → Int) : Prop :=
  ∃ cur, w.heap[g]? = some (.cells cur e (0, 0)) ∧ n ≤ cur.size ∧ ∀ i, i < n → cur[i]? = some (.int .i64 (f i))

theorem IntsF.of_ints {w : World} {a : Option Addr} {xs : List Int} (h : Ints w a xs) : IntsF w a xs.length (fun i => xs.getD i 0) := by
  intro hn
  obtain ⟨b, off, rfl, hh⟩ := h (by rintro rfl; simp at hn)
  exact ⟨b, off, rfl, hh⟩
theorem IntsF.below {W w : World} {B : Nat} {a : Option Addr} {n : Nat} {f : Nat → Int} (h : IntsF W a n f) (hB : W.heap.size ≤ B) (hb : Below B W w) : IntsF w a n f := by
  intro hn
  obtain ⟨b, off, rfl, hh⟩ := h hn
  refine ⟨b, off, rfl, fun i hi => ?_⟩
  have h1 := hh i hi
  have hlt : b < W.heap.size := lt_of_cell h1
  rw [hb.cell (show b < B by omega)]
  exact h1
theorem IntsF.alloc {w : World} {a : Option Addr} {n : Nat} {f : Nat → Int} (h : IntsF w a n f) (o : Obj) : IntsF (w.alloc o) a n f :=
  h.below (Nat.le_refl _) ((Below.refl _ _).alloc (Nat.le_refl _) _)
theorem IntsF.congr {w : World} {a : Option Addr} {n : Nat} {f f' : Nat → Int} (h : IntsF w a n f) (e : ∀ i, i < n → f i = f' i) : IntsF w a n f' := by
  intro hn
  obtain ⟨b, off, rfl, hh⟩ := h hn
  exact ⟨b, off, rfl, fun i hi => by rw [← e i hi]; exact hh i hi⟩
theorem IntsF.zero (w : World) (a : Option Addr) (f : Nat → Int) : IntsF w a 0 f := fun h => by omega

theorem OwnF.cell {w : World} {e : TypeId} {g n : Nat} {f : Nat → Int} (h : OwnF w e g n f) {i : Nat} (hi : i < n) : w.cell? ⟨g, i, none⟩ = some (.int .i64 (f i)) := by
  obtain ⟨cur, hc, _, hf⟩ := h
  simp [World.cell?, hc, hf i hi]
theorem OwnF.frozen {w : World} {e : TypeId} {g n : Nat} {f : Nat → Int} (h : OwnF w e g n f) (i : Nat) : w.frozen? ⟨g, i, none⟩ = false := by
  obtain ⟨cur, hc, _, _⟩ := h
  simp [World.frozen?, hc]
theorem OwnF.ints {w : World} {e : TypeId} {g n : Nat} {f : Nat → Int} (h : OwnF w e g n f) : IntsF w (some ⟨g, 0, none⟩) n f :=
  fun _ => ⟨g, 0, rfl, fun i hi => by rw [Nat.zero_add]; exact h.cell hi⟩
theorem OwnF.congr {w : World} {e : TypeId} {g n : Nat} {f f' : Nat → Int} (h : OwnF w e g n f) (he : ∀ i, i < n → f i = f' i) : OwnF w e g n f' := by
  obtain ⟨cur, hc, hn, hf⟩ := h
  exact ⟨cur, hc, hn, fun i hi => by rw [← he i hi]; exact hf i hi⟩
theorem OwnF.lt {w : World} {e : TypeId} {g n : Nat} {f : Nat → Int} (h : OwnF w e g n f) : g < w.heap.size := by
  obtain ⟨cur, hc, _⟩ := h
  exact (Array.getElem?_eq_some_iff.1 hc).1
theorem OwnF.block {w w' : World} {e : TypeId} {g n : Nat} {f : Nat → Int} (h : OwnF w e g n f) (hb : w'.heap[g]? = w.heap[g]?) : OwnF w' e g n f := by
  obtain ⟨cur, hc, r⟩ := h
  exact ⟨cur, by rw [hb]; exact hc, r⟩
theorem OwnF.below {w w' : World} {e : TypeId} {g n B : Nat} {f : Nat → Int} (h : OwnF w e g n f) (hb : Below B w w') (hg : g < B) : OwnF w' e g n f := h.block (hb.block g hg)
theorem OwnF.alloc {w : World} {e : TypeId} {g n : Nat} {f : Nat → Int} (h : OwnF w e g n f) (o : Obj) : OwnF (w.alloc o) e g n f := h.block (Below.heap_alloc _ _ _ h.lt)
theorem OwnF.drew {w : World} {e : TypeId} {g n : Nat} {f : Nat → Int} (h : OwnF w e g n f) : OwnF w.drew e g n f := h.block rfl
theorem OwnF.drewN {w : World} {e : TypeId} {g n : Nat} {f : Nat → Int} (h : OwnF w e g n f) (k : Nat) : OwnF (w.drewN k) e g n f := h.block rfl
theorem OwnF.other {w : World} {e : TypeId} {g n : Nat} {f : Nat → Int} (h : OwnF w e g n f) {a : Addr} (ha : g ≠ a.block) (u : Value) : OwnF (w.setCell a u) e g n f :=
  h.block (Below.heap_setCell _ _ _ _ ha)
/-- the function f with x at i -/
def upd (f : Nat → Int) (i : Nat) (x : Int) : Nat → Int := fun j => if j = i then x else f j
theorem OwnF.set {w : World} {e : TypeId} {g n : Nat} {f : Nat → Int} (h : OwnF w e g n f) (i : Nat) (x : Int) : OwnF (w.setCell ⟨g, i, none⟩ (.int .i64 x)) e g n (upd f i x) := by
  obtain ⟨cur, hc, hn, hf⟩ := h
  refine ⟨cur.setIfInBounds i (.int .i64 x), ?_, by simpa using hn, fun j hj => ?_⟩
  · simp only [World.setCell, Array.getElem?_modify, hc, Option.map_some]
    simp
  · unfold upd
    by_cases hij : j = i
    · subst hij
      rw [if_pos rfl, Array.getElem?_setIfInBounds_self_of_lt (by omega)]
    · rw [if_neg hij, Array.getElem?_setIfInBounds_ne (by omega)]
      exact hf j hj
theorem OwnF.new {w : World} (e : TypeId) (cs : Array Value) (n : Nat) (f : Nat → Int) (hn : n ≤ cs.size) (hf : ∀ i, i < n → cs[i]? = some (.int .i64 (f i))) : OwnF (w.alloc (.cells cs e)) e w.heap.size n f :=
  ⟨cs, by show (w.heap.push _)[_]? = _; simp, hn, hf⟩
theorem OwnF.make {w : World} (e : TypeId) (n : Nat) : OwnF (w.alloc (.cells (madeCells #[.int .i64 0] n) e)) e w.heap.size n (fun _ => 0) := by
  refine OwnF.new e _ n _ (by rw [size_madeCells]; omega) (fun i hi => ?_)
  have h1 : i % 1 = 0 := by omega
  simp [madeCells, hi, h1]
/-- Out of the kit's word for a row that the call appends to. -/
theorem OwnF.of_row {w : World} {base e n : Nat} {v : Value} {xs : List Value} {f : Nat → Int} (h : w.ownsRow base e 1 v n xs) (hx : ∀ i, i < n → xs[i]? = some (.int .i64 (f i))) (hn : 0 < n) :
    ∃ g cap, v = .slice (some ⟨g, 0, none⟩) n cap ∧ base ≤ g ∧ n ≤ cap ∧ cap ≤ maxLen ∧ OwnF w e g n f := by
  obtain ⟨hl, h⟩ := h
  rcases h with ⟨_, h0⟩ | ⟨g, cap, cur, hv, hg, hh, hnc, hcm, hcs, ht⟩
  · omega
  · refine ⟨g, cap, hv, hg, hnc, hcm, cur, hh, by rw [hcs]; omega, fun i hi => ?_⟩
    have h1 := hx i hi
    rw [← ht, List.getElem?_take_of_lt (by omega)] at h1
    simpa using h1

theorem ownBlock_ge {w : World} {base e size n : Nat} {v : Value} {xs : List Value} (h : w.ownsRow base e size v n xs) : ∀ k, v.ownBlock = some k → base ≤ k := by
  intro k hk
  obtain ⟨_, ⟨rfl, _⟩ | ⟨g, cap, cur, rfl, hg, _⟩⟩ := h
  · cases hk
  · simp [Value.ownBlock] at hk
    omega
/-- behind an append to a row of the call's own -/
theorem below_grown {B e size n : Nat} {W w w' : World} {v : Value} {xs : List Value} {o : Obj} (hb : Below B W w) (hB : B ≤ w.heap.size) (h : w.ownsRow B e size v n xs) (hg : (w.alloc o).grownBy w' v.ownBlock) : Below B W w' :=
  (hb.alloc hB o).grown hg (by simp; omega) (ownBlock_ge h)

/-- the row while its part from l to h is turned round: k steps done -/
def mid (f : Nat → Int) (l h k : Nat) : Nat → Int := fun j => if (l ≤ j ∧ j < l + k) ∨ (h ≤ j + k ∧ j < h) then f (l + h - 1 - j) else f j
theorem mid_zero (f : Nat → Int) (l h : Nat) (j : Nat) : mid f l h 0 j = f j := by
  unfold mid; rw [if_neg (by omega)]
theorem mid_at (f : Nat → Int) {l h k a : Nat} (ha : a = l + k) (hk : 2 * k + 1 < h - l) : mid f l h k a = f a := by
  unfold mid; rw [if_neg (by omega)]
theorem mid_at' (f : Nat → Int) {l h k b : Nat} (hb : b + k + 1 = h) (hk : 2 * k + 1 < h - l) : mid f l h k b = f b := by
  unfold mid; rw [if_neg (by omega)]
theorem mid_step (f : Nat → Int) {l h k a b : Nat} (ha : a = l + k) (hb : b + k + 1 = h) (j : Nat) :
    upd (upd (mid f l h k) a (f b)) b (f a) j = mid f l h (k + 1) j := by
  subst ha
  unfold upd mid
  by_cases h1 : j = b
  · subst h1
    rw [if_pos rfl, if_pos (by omega)]; congr 1; omega
  · rw [if_neg h1]
    by_cases h2 : j = l + k
    · subst h2
      rw [if_pos rfl, if_pos (by omega)]; congr 1; omega
    · rw [if_neg h2]
      by_cases h3 : (l ≤ j ∧ j < l + k) ∨ (h ≤ j + k ∧ j < h)
      · rw [if_pos h3, if_pos (by omega)]
      · rw [if_neg h3, if_neg (by omega)]
theorem mid_end (f : Nat → Int) {l h k : Nat} (hk : h - l ≤ 2 * k + 1) (hk' : 2 * k ≤ h - l + 1) (j : Nat) : mid f l h k j = if l ≤ j ∧ j < h then f (l + h - 1 - j) else f j := by
  unfold mid
  by_cases h1 : l ≤ j ∧ j < h
  · rw [if_pos h1]
    by_cases h2 : (l ≤ j ∧ j < l + k) ∨ (h ≤ j + k ∧ j < h)
    · rw [if_pos h2]
    · rw [if_neg h2]; congr 1; omega
  · rw [if_neg h1, if_neg (by omega)]
end Go.Law
