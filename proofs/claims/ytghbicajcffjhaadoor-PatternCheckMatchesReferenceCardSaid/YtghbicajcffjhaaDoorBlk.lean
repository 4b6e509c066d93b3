/-
  A block of the call's own that is known whole ('Blk'); a row of the call's own that is known as a list of values ('RowL').
-/
import Derived.Laws.AppendOwn
import Derived.Test.YtghbicajcffjhaaDoorAside
namespace Go.Law
open Go.RowKit
def Blk (w : World) (g : Nat) (cs : Array Value) (e : TypeId) : Prop := w.heap[g]? = some (.cells cs e (0, 0))
section
variable {w w' : World} {g : Nat} {cs : Array Value} {e : TypeId}
theorem Blk.cell (h : Blk w g cs e) {i : Nat} {v : Value} (hi : cs[i]? = some v) : w.cell? ⟨g, i, none⟩ = some v := by
  unfold Blk at h
  simp [World.cell?, h, hi]
theorem Blk.frozen (h : Blk w g cs e) (i : Nat) : w.frozen? ⟨g, i, none⟩ = false := by
  unfold Blk at h
  simp [World.frozen?, h]
theorem Blk.lt (h : Blk w g cs e) : g < w.heap.size := (Array.getElem?_eq_some_iff.1 h).1
theorem Blk.set (h : Blk w g cs e) (i : Nat) (v : Value) : Blk (w.setCell ⟨g, i, none⟩ v) g (cs.setIfInBounds i v) e := by
  unfold Blk at h ⊢
  simp only [World.setCell, Array.getElem?_modify, h, Option.map_some]
  simp
theorem Blk.block (h : Blk w g cs e) (hb : w'.heap[g]? = w.heap[g]?) : Blk w' g cs e := by
  unfold Blk at h ⊢
  rw [hb]; exact h
theorem Blk.alloc (h : Blk w g cs e) (o : Obj) : Blk (w.alloc o) g cs e := h.block (Below.heap_alloc _ _ _ h.lt)
theorem Blk.drew (h : Blk w g cs e) : Blk w.drew g cs e := h.block rfl
theorem Blk.drewN (h : Blk w g cs e) (k : Nat) : Blk (w.drewN k) g cs e := h.block rfl
theorem Blk.other (h : Blk w g cs e) {a : Addr} (ha : g ≠ a.block) (u : Value) : Blk (w.setCell a u) g cs e := h.block (Below.heap_setCell _ _ _ _ ha)
theorem Blk.below (h : Blk w g cs e) {B : Nat} (hb : Below B w w') (hg : g < B) : Blk w' g cs e := h.block (hb.block g hg)
theorem Blk.new (w : World) (cs : Array Value) (e : TypeId) : Blk (w.alloc (.cells cs e)) w.heap.size cs e := by
  show (w.heap.push _)[_]? = _; simp
theorem Blk.aside (h : Blk w g cs e) {R : Nat} {v : Value} (ha : Aside R v w w') (h1 : g ≠ R) (h2 : v.ownBlock ≠ some g) : Blk w' g cs e := h.block (ha.block g h.lt h1 h2)
end
/-- all but the block g is as it was -/
abbrev Only (g : Nat) (w w' : World) : Prop := Aside g (.slice none 0 0) w w'
theorem Only.of_below {g B : Nat} {w w' : World} (h : Below B w w') (hB : w.heap.size ≤ B) : Only g w w' :=
  ⟨h.os, h.tape, h.output, h.size, fun k hk _ _ => h.block k (by omega)⟩
theorem Only.more {g B : Nat} {w w1 w' : World} (h : Only g w w1) (hb : Below B w1 w') (hB : w1.heap.size ≤ B) : Only g w w' := Aside.trans h (Only.of_below hb hB)
theorem Only.to_below {g B : Nat} {w w' : World} (h : Only g w w') (hB : B ≤ w.heap.size) (hg : B ≤ g) : Below B w w' := Aside.below h hB hg (fun k hk => by simp [Value.ownBlock] at hk)
theorem Only.set {g : Nat} {w w' : World} (h : Only g w w') (i : Nat) (u : Value) : Only g w (w'.setCell ⟨g, i, none⟩ u) := Aside.setR h i u
theorem Only.cell {g : Nat} {w w' : World} (h : Only g w w') {p : Addr} (hp : p.block < w.heap.size) (h1 : p.block ≠ g) : w'.cell? p = w.cell? p := Aside.cell h hp h1 (by simp [Value.ownBlock])
/-- what a reading of cells needs -/
theorem IntsF.only {w w' : World} {g : Nat} {a : Option Addr} {n : Nat} {f : Nat → Int} (h : IntsF w a n f) (ho : Only g w w') (hg : ∀ b off, a = some ⟨b, off, none⟩ → b ≠ g) : IntsF w' a n f := by
  intro hn
  obtain ⟨b, off, rfl, hh⟩ := h hn
  exact ⟨b, off, rfl, fun i hi => (ho.cell (lt_of_cell (hh i hi)) (hg _ _ rfl)).trans (hh i hi)⟩
-- rows as lists
abbrev RowL (w : World) (base : Nat) (e : TypeId) (s : Nat) (v : Value) (n : Nat) (xs : List Value) : Prop := w.ownsRow base e s v n xs
section
variable {w w' : World} {base : Nat} {e : TypeId} {s : Nat} {v : Value} {n : Nat} {xs : List Value}
theorem RowL.len (h : RowL w base e s v n xs) : xs.length = n * s := h.1
theorem RowL.slice (h : RowL w base e s v n xs) : ∃ a cap, v = .slice a n cap ∧ n ≤ cap ∧ cap ≤ maxLen := by
  obtain ⟨hl, ⟨hv, h0⟩ | ⟨g, cap, cur, hv, hg, hh, hnc, hcm, hcs, ht⟩⟩ := h
  · exact ⟨none, 0, by rw [hv, h0], by omega, by unfold maxLen; omega⟩
  · exact ⟨_, cap, hv, hnc, hcm⟩
theorem RowL.at (h : RowL w base e s v n xs) (hn : 0 < n) :
    ∃ g cap, v = .slice (some ⟨g, 0, none⟩) n cap ∧ base ≤ g ∧ g < w.heap.size ∧ n ≤ cap ∧ cap ≤ maxLen ∧ (∀ i, w.frozen? ⟨g, i, none⟩ = false) ∧ ∀ i u, xs[i]? = some u → w.cell? ⟨g, i, none⟩ = some u := by
  obtain ⟨hl, h⟩ := h
  rcases h with ⟨_, h0⟩ | ⟨g, cap, cur, hv, hg, hh, hnc, hcm, hcs, ht⟩
  · omega
  · refine ⟨g, cap, hv, hg, (Array.getElem?_eq_some_iff.1 hh).1, hnc, hcm, fun i => by simp [World.frozen?, hh], fun i u hi => ?_⟩
    have hlt : i < xs.length := (List.getElem?_eq_some_iff.1 hi).1
    rw [← ht, List.getElem?_take_of_lt (by omega)] at hi
    have h3 : cur[i]? = some u := by simpa using hi
    simp [World.cell?, hh, h3]
theorem RowL.block (h : RowL w base e s v n xs) (hb : ∀ k, v.ownBlock = some k → w'.heap[k]? = w.heap[k]?) : RowL w' base e s v n xs := by
  obtain ⟨hl, h⟩ := h
  refine ⟨hl, ?_⟩
  rcases h with h | ⟨g, cap, cur, hv, hg, hh, r⟩
  · exact .inl h
  · refine .inr ⟨g, cap, cur, hv, hg, ?_, r⟩
    rw [hb g (by rw [hv]; rfl)]
    exact hh
theorem RowL.blk_lt (h : RowL w base e s v n xs) : ∀ k, v.ownBlock = some k → k < w.heap.size := by
  intro k hk
  obtain ⟨_, ⟨rfl, _⟩ | ⟨g, cap, cur, rfl, hg, hh, _⟩⟩ := h
  · cases hk
  · simp [Value.ownBlock] at hk
    subst hk
    exact (Array.getElem?_eq_some_iff.1 hh).1
theorem RowL.ge (h : RowL w base e s v n xs) : ∀ k, v.ownBlock = some k → base ≤ k := ownBlock_ge h
theorem RowL.below {B : Nat} (h : RowL w base e s v n xs) (hb : Below B w w') (hB : w.heap.size ≤ B) : RowL w' base e s v n xs :=
  h.block fun k hk => hb.block k (by have := h.blk_lt k hk; omega)
theorem RowL.alloc (h : RowL w base e s v n xs) (o : Obj) : RowL (w.alloc o) base e s v n xs := h.below ((Below.refl _ _).alloc (Nat.le_refl _) o) (Nat.le_refl _)
theorem RowL.drew (h : RowL w base e s v n xs) : RowL w.drew base e s v n xs := h.block fun _ _ => rfl
theorem RowL.drewN (h : RowL w base e s v n xs) (k : Nat) : RowL (w.drewN k) base e s v n xs := h.block fun _ _ => rfl
theorem RowL.mono {base' : Nat} (h : RowL w base e s v n xs) (hb : base' ≤ base) : RowL w base' e s v n xs := by
  obtain ⟨hl, h⟩ := h
  refine ⟨hl, ?_⟩
  rcases h with h | ⟨g, cap, cur, hv, hg, r⟩
  · exact .inl h
  · exact .inr ⟨g, cap, cur, hv, by omega, r⟩
theorem RowL.other (h : RowL w base e s v n xs) {a : Addr} (ha : v.ownBlock ≠ some a.block) (u : Value) : RowL (w.setCell a u) base e s v n xs :=
  h.block fun k hk => Below.heap_setCell _ _ _ _ (by rintro rfl; exact ha hk)
theorem RowL.only {g : Nat} (h : RowL w base e s v n xs) (ho : Only g w w') (hg : v.ownBlock ≠ some g) : RowL w' base e s v n xs :=
  h.block fun k hk => Aside.block ho k (h.blk_lt k hk) (by rintro rfl; exact hg hk) (by simp [Value.ownBlock])
theorem RowL.nil (w : World) (base : Nat) (e : TypeId) (s : Nat) : RowL w base e s (.slice none 0 0) 0 [] := World.ownsRow_nil _ _ _ _
/-- it reads as ints -/
theorem RowL.ints {k : IntKind} {L : List Int} (h : RowL w base e 1 v n (L.map (Value.int k))) (hk : k = .i64) : ∃ a cap, v = .slice a n cap ∧ n ≤ cap ∧ cap ≤ maxLen ∧ IntsF w a n (fun i => L.getD i 0) := by
  subst hk
  obtain ⟨a, cap, hv, h1, h2⟩ := h.slice
  refine ⟨a, cap, hv, h1, h2, fun hn => ?_⟩
  obtain ⟨g, cap', hv', _, _, _, _, _, hc⟩ := h.at hn
  rw [hv] at hv'
  obtain ⟨rfl, _⟩ : a = some ⟨g, 0, none⟩ ∧ cap = cap' := by cases hv'; exact ⟨rfl, rfl⟩
  refine ⟨g, 0, rfl, fun i hi => ?_⟩
  have hl := h.len
  simp at hl
  rw [Nat.zero_add]
  refine hc i _ ?_
  simp [List.getElem?_eq_getElem (show i < L.length by omega)]
end
end Go.Law
