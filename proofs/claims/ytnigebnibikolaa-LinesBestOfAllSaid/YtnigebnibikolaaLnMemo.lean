/-
  The memory of plans.
-/
import Derived.Test.YtnigebnibikolaaLnBestB
import Derived.Test.YtnigebnibikolaaLnMk
import Derived.Test.YtnigebnibikolaaBlk
namespace Go.Law
open Go.RowKit
set_option linter.unusedVariables false
/-- block g is a row of the call's own; its first N cells are V -/
def OwnV (w : World) (e : TypeId) (g N : Nat) (V : Nat → Value) : Prop := ∃ cur, w.heap[g]? = some (.cells cur e (0, 0)) ∧ N ≤ cur.size ∧ ∀ i, i < N → cur[i]? = some (V i)
section
variable {w w' : World} {e : TypeId} {g N : Nat} {V : Nat → Value}
theorem OwnV.cell (h : OwnV w e g N V) {i : Nat} (hi : i < N) : w.cell? ⟨g, i, none⟩ = some (V i) := by
  obtain ⟨cur, hc, _, hf⟩ := h
  simp [World.cell?, hc, hf i hi]
theorem OwnV.frozen (h : OwnV w e g N V) (i : Nat) : w.frozen? ⟨g, i, none⟩ = false := by
  obtain ⟨cur, hc, _, _⟩ := h
  simp [World.frozen?, hc]
theorem OwnV.lt (h : OwnV w e g N V) : g < w.heap.size := by
  obtain ⟨cur, hc, _⟩ := h
  exact (Array.getElem?_eq_some_iff.1 hc).1
theorem OwnV.block (h : OwnV w e g N V) (hb : w'.heap[g]? = w.heap[g]?) : OwnV w' e g N V := by
  obtain ⟨cur, hc, r⟩ := h
  exact ⟨cur, by rw [hb]; exact hc, r⟩
theorem OwnV.below {B : Nat} (h : OwnV w e g N V) (hb : Below B w w') (hg : g < B) : OwnV w' e g N V := h.block (hb.block g hg)
theorem OwnV.alloc (h : OwnV w e g N V) (o : Obj) : OwnV (w.alloc o) e g N V := h.block (Below.heap_alloc _ _ _ h.lt)
theorem OwnV.drew (h : OwnV w e g N V) : OwnV w.drew e g N V := h.block rfl
theorem OwnV.drewN (h : OwnV w e g N V) (k : Nat) : OwnV (w.drewN k) e g N V := h.block rfl
theorem OwnV.other (h : OwnV w e g N V) {a : Addr} (ha : g ≠ a.block) (u : Value) : OwnV (w.setCell a u) e g N V := h.block (Below.heap_setCell _ _ _ _ ha)
theorem OwnV.congr {V' : Nat → Value} (h : OwnV w e g N V) (he : ∀ i, i < N → V i = V' i) : OwnV w e g N V' := by
  obtain ⟨cur, hc, hn, hf⟩ := h
  exact ⟨cur, hc, hn, fun i hi => by rw [← he i hi]; exact hf i hi⟩
def updV (V : Nat → Value) (i : Nat) (x : Value) : Nat → Value := fun j => if j = i then x else V j
theorem OwnV.set (h : OwnV w e g N V) (i : Nat) (x : Value) : OwnV (w.setCell ⟨g, i, none⟩ x) e g N (updV V i x) := by
  obtain ⟨cur, hc, hn, hf⟩ := h
  refine ⟨cur.setIfInBounds i x, ?_, by simpa using hn, fun j hj => ?_⟩
  · simp only [World.setCell, Array.getElem?_modify, hc, Option.map_some]
    simp
  · unfold updV
    by_cases hij : j = i
    · subst hij
      rw [if_pos rfl, Array.getElem?_setIfInBounds_self_of_lt (by omega)]
    · rw [if_neg hij, Array.getElem?_setIfInBounds_ne (by omega)]
      exact hf j hj
theorem OwnV.new {w : World} (e : TypeId) (cs : Array Value) (N : Nat) (V : Nat → Value) (hn : N ≤ cs.size) (hf : ∀ i, i < N → cs[i]? = some (V i)) : OwnV (w.alloc (.cells cs e)) e w.heap.size N V :=
  ⟨cs, by show (w.heap.push _)[_]? = _; simp, hn, hf⟩
theorem OwnV.ne {e' : TypeId} {g' N' : Nat} {V' : Nat → Value} (h : OwnV w e g N V) (h' : OwnV w e' g' N' V') (hne : e ≠ e') : g ≠ g' := by
  rintro rfl
  obtain ⟨cur, hc, _⟩ := h
  obtain ⟨cur', hc', _⟩ := h'
  rw [hc] at hc'
  injection hc' with h1
  injection h1 with _ h2
  exact hne h2
end
end Go.Law
namespace Go.Law.Ln
set_option linter.unusedVariables false
open Go.RowKit Go.Law
/-- the cell of known -/
def rowV (nw : Nat) : Option Nat → Value
  | none => .slice none 0 0
  | some g => .slice (some ⟨g, 0, none⟩) (2 * nw) (2 * nw)
def keyN (k : Nat) (flag : Bool) : Nat := 2 * k + (if flag = true then 1 else 0)
/-- a plan that is not known, or the right one -/
def PlanAt (V : Nat → Value) (o : Nat) (p : Pl) : Prop :=
  (V (o * 4) = .bool false ∧ V (o * 4 + 1) = .int .i64 0 ∧ V (o * 4 + 2) = .int .i64 0 ∧ V (o * 4 + 3) = .int .i64 0) ∨
  (V (o * 4) = .bool true ∧ V (o * 4 + 1) = .int .i64 p.1 ∧ V (o * 4 + 2) = .int .i64 p.2.1 ∧ V (o * 4 + 3) = .int .i64 p.2.2)
section
variable (n : Nat) (L : Nat → Part) (nw : Nat) (W : Nat → Int) (D : Int) (TR TP : TypeId)
/-- the plans that are known: the row of part f lies in block G f -/
def Memo (w : World) (kb B : Nat) (G : Nat → Option Nat) : Prop :=
  (OwnV w TR kb (n + 1) (fun f => rowV nw (G f)) ∧ B ≤ kb) ∧
  (∀ f g, f ≤ n → G f = some g → ∃ V, OwnV w TP g (8 * nw) V ∧ B ≤ g ∧ ∀ k flag, k < nw → PlanAt V (keyN k flag) (bestF n L nw W D f k flag)) ∧
  (∀ f f' g, f ≤ n → f' ≤ n → G f = some g → G f' = some g → f = f')
/-- a block that is no row of known -/
def Out (w : World) (kb : Nat) (G : Nat → Option Nat) (b : Nat) : Prop := b < w.heap.size ∧ b ≠ kb ∧ ∀ f, f ≤ n → G f ≠ some b
/-- what may have changed: rows of known, and what is new -/
def Fr (kb B : Nat) (w : World) (G : Nat → Option Nat) (w' : World) (G' : Nat → Option Nat) : Prop :=
  Below B w w' ∧ (∀ f g, f ≤ n → G' f = some g → G f = some g ∨ w.heap.size ≤ g) ∧ (∀ f g, f ≤ n → G f = some g → G' f = some g) ∧ ∀ b, Out n w kb G b → w'.heap[b]? = w.heap[b]?
end
section
variable {n : Nat} {L : Nat → Part} {nw : Nat} {W : Nat → Int} {D : Int} {TR TP : TypeId} {w w' w2 : World} {kb B : Nat} {G G' G2 : Nat → Option Nat}
theorem Fr.refl (n kb B : Nat) (w : World) (G : Nat → Option Nat) : Fr n kb B w G w G := ⟨Below.refl _ _, fun _ _ _ h => .inl h, fun _ _ _ h => h, fun _ _ => rfl⟩
theorem Out.keep {b : Nat} (h : Out n w kb G b) (hf : Fr n kb B w G w' G') : Out n w' kb G' b :=
  ⟨Nat.lt_of_lt_of_le h.1 hf.1.size, h.2.1, fun f hfn he => by
    rcases hf.2.1 f b hfn he with h1 | h1
    · exact h.2.2 f hfn h1
    · have := h.1; omega⟩
theorem Fr.trans (h : Fr n kb B w G w' G') (h2 : Fr n kb B w' G' w2 G2) : Fr n kb B w G w2 G2 :=
  ⟨h.1.trans h2.1, fun f g hf he => by
    rcases h2.2.1 f g hf he with h1 | h1
    · exact h.2.1 f g hf h1
    · exact .inr (Nat.le_trans h.1.size h1), fun f g hf he => h2.2.2.1 f g hf (h.2.2.1 f g hf he), fun b hb => (h2.2.2.2 b (hb.keep h)).trans (h.2.2.2 b hb)⟩
/-- what makes memory alone -/
theorem Fr.of_below (h : Below w.heap.size w w') (hB : B ≤ w.heap.size) : Fr n kb B w G w' G :=
  ⟨h.mono hB, fun _ _ _ h => .inl h, fun _ _ _ h => h, fun b hb => h.block b hb.1⟩
theorem Memo.below (hm : Memo n L nw W D TR TP w kb B G) (h : Below w.heap.size w w') : Memo n L nw W D TR TP w' kb B G := by
  obtain ⟨⟨h1, h2⟩, h3, h4⟩ := hm
  refine ⟨⟨h1.below h h1.lt, h2⟩, fun f g hf hg => ?_, h4⟩
  obtain ⟨V, k1, k2, k3⟩ := h3 f g hf hg
  exact ⟨V, k1.below h k1.lt, k2, k3⟩
/-- a store into a block that is no row -/
theorem Memo.other (hm : Memo n L nw W D TR TP w kb B G) {p : Addr} (hp : Out n w kb G p.block) (u : Value) : Memo n L nw W D TR TP (w.setCell p u) kb B G := by
  obtain ⟨⟨h1, h2⟩, h3, h4⟩ := hm
  refine ⟨⟨h1.other (Ne.symm hp.2.1) u, h2⟩, fun f g hf hg => ?_, h4⟩
  obtain ⟨V, k1, k2, k3⟩ := h3 f g hf hg
  exact ⟨V, k1.other (fun h => hp.2.2 f hf (by rw [hg, h])) u, k2, k3⟩
theorem Blk.fr {b : Nat} {cs : Array Value} {e : TypeId} (h : Blk w b cs e) (ho : Out n w kb G b) (hf : Fr n kb B w G w' G') : Blk w' b cs e := h.block (hf.2.2.2 b ho)
theorem Out.new (hm : Memo n L nw W D TR TP w kb B G) (h : Below w.heap.size w w') {b : Nat} (hb : w.heap.size ≤ b) (hb' : b < w'.heap.size) : Out n w' kb G b := by
  refine ⟨hb', ?_, fun f hf he => ?_⟩
  · have := hm.1.1.lt; omega
  · obtain ⟨V, k1, _⟩ := hm.2.1 f b hf he
    have := k1.lt; omega
theorem Out.below {b : Nat} (ho : Out n w kb G b) (h : Below w.heap.size w w') : Out n w' kb G b := ⟨Nat.lt_of_lt_of_le ho.1 h.size, ho.2⟩
theorem Out.set {b : Nat} (ho : Out n w kb G b) (p : Addr) (u : Value) : Out n (w.setCell p u) kb G b := ⟨by have := ho.1; simpa using this, ho.2⟩
def updG (G : Nat → Option Nat) (a g : Nat) : Nat → Option Nat := fun f => if f = a then some g else G f
/-- a row is made and put in its place -/
theorem Memo.grow {a g : Nat} {V : Nat → Value} (hm : Memo n L nw W D TR TP w kb B G) (h : Below w.heap.size w w') (hB : B ≤ w.heap.size) (hV : OwnV w' TP g (8 * nw) V) (hg : w.heap.size ≤ g) (hz : ∀ k flag, k < nw → PlanAt V (keyN k flag) (bestF n L nw W D a k flag)) (ha : a ≤ n) (hga : G a = none) (hne : TR ≠ TP) :
    Memo n L nw W D TR TP (w'.setCell ⟨kb, a, none⟩ (.slice (some ⟨g, 0, none⟩) (2 * nw) (2 * nw))) kb B (updG G a g) ∧ Fr n kb B w G (w'.setCell ⟨kb, a, none⟩ (.slice (some ⟨g, 0, none⟩) (2 * nw) (2 * nw))) (updG G a g) := by
  have hm' := hm.below h
  obtain ⟨⟨h1, h2⟩, h3, h4⟩ := hm'
  have hlt := fun f g hf hg => (hm.2.1 f g hf hg)
  have hkg : g ≠ kb := Ne.symm (h1.ne hV hne)
  have hkb := hm.1.1.lt
  refine ⟨⟨⟨(h1.set a _).congr (fun i hi => ?_), h2⟩, fun f g' hf hg' => ?_, fun f f' g' hf hf' h5 h6 => ?_⟩, (h.mono hB).setCell h2 _, fun f g' hf hg' => ?_, fun f g' hf hg' => ?_, fun b hb => ?_⟩
  · unfold updV updG
    by_cases hia : i = a
    · rw [if_pos hia, if_pos hia]; rfl
    · rw [if_neg hia, if_neg hia]
  · unfold updG at hg'
    by_cases hfa : f = a
    · rw [if_pos hfa] at hg'
      obtain rfl := Option.some.inj hg'
      exact ⟨V, hV.other hkg _, by omega, by rw [hfa]; exact hz⟩
    · rw [if_neg hfa] at hg'
      obtain ⟨V', k1, k2, k3⟩ := h3 f g' hf hg'
      exact ⟨V', k1.other (Ne.symm (h1.ne k1 hne)) _, k2, k3⟩
  · have old : ∀ f, f ≤ n → f ≠ a → ∀ g', G f = some g' → g' ≠ g := by
      intro f hf _ g' hg' he
      obtain ⟨V', k1, _⟩ := hlt f g' hf hg'
      have := k1.lt
      omega
    unfold updG at h5 h6
    by_cases e1 : f = a
    · by_cases e2 : f' = a
      · rw [e1, e2]
      · rw [if_pos e1] at h5
        rw [if_neg e2] at h6
        exact absurd (Option.some.inj h5).symm (old f' hf' e2 g' h6)
    · by_cases e2 : f' = a
      · rw [if_neg e1] at h5
        rw [if_pos e2] at h6
        exact absurd (Option.some.inj h6).symm (old f hf e1 g' h5)
      · rw [if_neg e1] at h5
        rw [if_neg e2] at h6
        exact h4 f f' g' hf hf' h5 h6
  · unfold updG at hg'
    by_cases hfa : f = a
    · rw [if_pos hfa] at hg'
      obtain rfl := Option.some.inj hg'
      exact .inr hg
    · rw [if_neg hfa] at hg'
      exact .inl hg'
  · unfold updG
    by_cases hfa : f = a
    · rw [hfa, hga] at hg'; cases hg'
    · rw [if_neg hfa]; exact hg'
  · rw [Below.heap_setCell _ _ _ _ hb.2.1]
    exact h.block b hb.1
end
end Go.Law.Ln
