/-
  What a call leaves as it was: all blocks but one and a row's own.
-/
import Derived.Test.YtghbicajcffjhaaDoorOwnR
namespace Go.Law
open Go.RowKit
/-- All that was there is as it was, except for the block R and the block of the row v. -/
structure Aside (R : Nat) (v : Value) (w w' : World) : Prop where
  os : w'.os = w.os
  tape : w'.tape = w.tape
  output : w'.output = w.output
  size : w.heap.size ≤ w'.heap.size
  block : ∀ k, k < w.heap.size → k ≠ R → v.ownBlock ≠ some k → w'.heap[k]? = w.heap[k]?
theorem Aside.refl (R : Nat) (v : Value) (w : World) : Aside R v w w := ⟨rfl, rfl, rfl, Nat.le_refl _, fun _ _ _ _ => rfl⟩
theorem Aside.trans {R : Nat} {v : Value} {a b c : World} (h : Aside R v a b) (k : Aside R v b c) : Aside R v a c :=
  ⟨k.os.trans h.os, k.tape.trans h.tape, k.output.trans h.output, Nat.le_trans h.size k.size, fun i hi h1 h2 => (k.block i (Nat.lt_of_lt_of_le hi h.size) h1 h2).trans (h.block i hi h1 h2)⟩
theorem Aside.drew {R : Nat} {v : Value} {a w : World} (h : Aside R v a w) : Aside R v a w.drew := ⟨h.os, h.tape, h.output, h.size, h.block⟩
theorem Aside.drewN {R : Nat} {v : Value} {a w : World} (h : Aside R v a w) (n : Nat) : Aside R v a (w.drewN n) := ⟨h.os, h.tape, h.output, h.size, h.block⟩
theorem Aside.alloc {R : Nat} {v : Value} {a w : World} (h : Aside R v a w) (o : Obj) : Aside R v a (w.alloc o) :=
  h.trans ⟨rfl, rfl, rfl, by simp, fun k hk _ _ => Below.heap_alloc _ _ _ hk⟩
theorem Aside.setR {R : Nat} {v : Value} {a w : World} (h : Aside R v a w) (i : Nat) (u : Value) : Aside R v a (w.setCell ⟨R, i, none⟩ u) :=
  h.trans ⟨rfl, rfl, rfl, by simp [World.setCell], fun k _ hk _ => Below.heap_setCell _ _ _ _ hk⟩
theorem Aside.setRow {R : Nat} {a0 : Addr} {n c : Nat} {a w : World} (h : Aside R (.slice (some a0) n c) a w) {p : Addr} (hp : p.block = a0.block) (u : Value) : Aside R (.slice (some a0) n c) a (w.setCell p u) :=
  h.trans ⟨rfl, rfl, rfl, by simp [World.setCell], fun k _ _ hk => Below.heap_setCell _ _ _ _ (fun e => hk (by simp [Value.ownBlock, e, hp]))⟩
theorem Aside.cell {R : Nat} {v : Value} {w w' : World} (h : Aside R v w w') {p : Addr} (hp : p.block < w.heap.size) (h1 : p.block ≠ R) (h2 : v.ownBlock ≠ some p.block) : w'.cell? p = w.cell? p :=
  World.cell?_of_block (w := w) (h.block p.block hp h1 h2)
theorem Aside.below {R B : Nat} {v : Value} {w w' : World} (h : Aside R v w w') (hB : B ≤ w.heap.size) (h1 : B ≤ R) (h2 : ∀ k, v.ownBlock = some k → B ≤ k) : Below B w w' :=
  ⟨h.os, h.tape, h.output, h.size, fun k hk => h.block k (by omega) (by omega) (fun e => by have := h2 k e; omega)⟩
/-- an append: the row's block may be left for a new one -/
theorem Aside.grown {R : Nat} {v : Value} {a w w' : World} (h : Aside R v a w) (hg : w.grownBy w' v.ownBlock) : Aside R v a w' :=
  h.trans ⟨hg.os, hg.tape, hg.output, hg.size, fun k hk _ h2 => hg.block k hk (fun e => h2 e.symm)⟩
end Go.Law
