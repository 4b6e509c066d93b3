/-
  A row of Bools of the call's own.
-/
import Derived.Test.YtabnohphgegflaaOwn
namespace Go.Law
open Go.RowKit
def OwnB (w : World) (e : TypeId) (g : Nat) (n : Nat) (u : Nat → Bool) : Prop :=
  ∃ cur, w.heap[g]? = some (.cells cur e (0, 0)) ∧ n ≤ cur.size ∧ ∀ i, i < n → cur[i]? = some (.bool (u i))
theorem OwnB.cell {w : World} {e : TypeId} {g n : Nat} {u : Nat → Bool} (h : OwnB w e g n u) {i : Nat} (hi : i < n) : w.cell? ⟨g, i, none⟩ = some (.bool (u i)) := by
  obtain ⟨cur, hc, _, hf⟩ := h
  simp [World.cell?, hc, hf i hi]
theorem OwnB.frozen {w : World} {e : TypeId} {g n : Nat} {u : Nat → Bool} (h : OwnB w e g n u) (i : Nat) : w.frozen? ⟨g, i, none⟩ = false := by
  obtain ⟨cur, hc, _, _⟩ := h
  simp [World.frozen?, hc]
theorem OwnB.congr {w : World} {e : TypeId} {g n : Nat} {u u' : Nat → Bool} (h : OwnB w e g n u) (he : ∀ i, i < n → u i = u' i) : OwnB w e g n u' := by
  obtain ⟨cur, hc, hn, hf⟩ := h
  exact ⟨cur, hc, hn, fun i hi => by rw [← he i hi]; exact hf i hi⟩
theorem OwnB.lt {w : World} {e : TypeId} {g n : Nat} {u : Nat → Bool} (h : OwnB w e g n u) : g < w.heap.size := by
  obtain ⟨cur, hc, _⟩ := h
  exact (Array.getElem?_eq_some_iff.1 hc).1
theorem OwnB.block {w w' : World} {e : TypeId} {g n : Nat} {u : Nat → Bool} (h : OwnB w e g n u) (hb : w'.heap[g]? = w.heap[g]?) : OwnB w' e g n u := by
  obtain ⟨cur, hc, r⟩ := h
  exact ⟨cur, by rw [hb]; exact hc, r⟩
theorem OwnB.drewN {w : World} {e : TypeId} {g n : Nat} {u : Nat → Bool} (h : OwnB w e g n u) (k : Nat) : OwnB (w.drewN k) e g n u := h.block rfl
theorem OwnB.other {w : World} {e : TypeId} {g n : Nat} {u : Nat → Bool} (h : OwnB w e g n u) {a : Addr} (ha : g ≠ a.block) (x : Value) : OwnB (w.setCell a x) e g n u :=
  h.block (Below.heap_setCell _ _ _ _ ha)
theorem OwnB.set {w : World} {e : TypeId} {g n : Nat} {u : Nat → Bool} (h : OwnB w e g n u) (i : Nat) (x : Bool) : OwnB (w.setCell ⟨g, i, none⟩ (.bool x)) e g n (fun j => if j = i then x else u j) := by
  obtain ⟨cur, hc, hn, hf⟩ := h
  refine ⟨cur.setIfInBounds i (.bool x), ?_, by simpa using hn, fun j hj => ?_⟩
  · simp only [World.setCell, Array.getElem?_modify, hc, Option.map_some]
    simp
  · show _ = some (Value.bool (if j = i then x else u j))
    by_cases hij : j = i
    · subst hij
      rw [if_pos rfl, Array.getElem?_setIfInBounds_self_of_lt (by omega)]
    · rw [if_neg hij, Array.getElem?_setIfInBounds_ne (by omega)]
      exact hf j hj
theorem OwnB.make {w : World} (e : TypeId) (n : Nat) : OwnB (w.alloc (.cells (madeCells #[.bool false] n) e)) e w.heap.size n (fun _ => false) := by
  refine ⟨madeCells #[.bool false] n, by show (w.heap.push _)[_]? = _; simp, by rw [size_madeCells]; omega, fun i hi => ?_⟩
  have h1 : i % 1 = 0 := by omega
  simp [madeCells, hi, h1]
end Go.Law
