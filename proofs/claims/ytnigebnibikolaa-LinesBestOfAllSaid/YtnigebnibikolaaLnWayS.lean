/-
  While the reference looks for the best lines: what holds of memory.
-/
import Derived.Test.YtnigebnibikolaaLnWayP
import Derived.Test.YtnigebnibikolaaBlk
namespace Go.Law.Ln
open Go.RowKit Go.Law
set_option linter.unusedVariables false
theorem Only.grown {g : Nat} {a w w' : World} {v : Value} (h : Only g a w) (hg : w.grownBy w' v.ownBlock) (hv : ∀ k, v.ownBlock = some k → a.heap.size ≤ k) : Only g a w' :=
  ⟨hg.os.trans h.os, hg.tape.trans h.tape, hg.output.trans h.output, Nat.le_trans h.size hg.size, fun k hk h1 h2 => (hg.block k (by have := h.size; omega) (fun e => by have := hv k e.symm; omega)).trans (h.block k hk h1 h2)⟩
/-- the shape's box lies at w's end, the ends' row and the best row behind it -/
structure BfS (TS TL TI : TypeId) (w : World) (sb : Nat) (aW : Option Addr) (nw cW : Nat) (D : Int) (E : List Line) (ve : Value) (k : Int) (v : Value) (xs : List Line) (wr : World) : Prop where
  only : Only sb w wr
  low : sb < w.heap.size
  steps : Blk wr sb #[.int .i64 k] TI
  shape : Blk wr w.heap.size #[.slice aW nw cW, .int .i64 D] TS
  ends : RowL wr (w.heap.size + 1) TL 6 ve E.length (linesC E)
  lines : RowL wr (w.heap.size + 1) TL 6 v xs.length (linesC xs)
section
variable {TS TL TI : TypeId} {w : World} {sb : Nat} {aW : Option Addr} {nw cW : Nat} {D : Int} {E : List Line} {ve : Value} {k : Int} {v : Value} {xs : List Line} {wr w' : World}
theorem BfS.under (h : BfS TS TL TI w sb aW nw cW D E ve k v xs wr) (hb : Below wr.heap.size wr w') : BfS TS TL TI w sb aW nw cW D E ve k v xs w' :=
  ⟨h.only.more hb (Nat.le_refl _), h.low, h.steps.below hb h.steps.lt, h.shape.below hb h.shape.lt, h.ends.below hb (Nat.le_refl _), h.lines.below hb (Nat.le_refl _)⟩
theorem BfS.call (h : BfS TS TL TI w sb aW nw cW D E ve k v xs wr) (ho : Only sb wr w') {k' : Int} (hk : Blk w' sb #[.int .i64 k'] TI) : BfS TS TL TI w sb aW nw cW D E ve k' v xs w' :=
  ⟨h.only.trans ho, h.low, hk, h.shape.block (ho.block _ h.shape.lt (by have := h.low; omega) (by simp [Value.ownBlock])), h.ends.only ho (fun e => by have := RowL.ge h.ends _ e; have := h.low; omega), h.lines.only ho (fun e => by have := RowL.ge h.lines _ e; have := h.low; omega)⟩
theorem BfS.grown (h : BfS TS TL TI w sb aW nw cW D E ve k v xs wr) {u : Value} (hg : wr.grownBy w' u.ownBlock) {p : Nat} (hp : ∀ q, u.ownBlock = some q → p ≤ q) (h0 : w.heap.size < p) (h1 : ∀ q, ve.ownBlock = some q → q < p) (h2 : ∀ q, v.ownBlock = some q → q < p) : BfS TS TL TI w sb aW nw cW D E ve k v xs w' :=
  ⟨Only.grown h.only hg (fun q hq => by have := hp q hq; omega), h.low, h.steps.block (hg.block _ h.steps.lt (fun e => by have := hp _ e.symm; have := h.low; omega)), h.shape.block (hg.block _ h.shape.lt (fun e => by have := hp _ e.symm; omega)),
    h.ends.block (fun q hq => hg.block q (RowL.blk_lt h.ends q hq) (fun e => by have := hp _ e.symm; have := h1 q hq; omega)), h.lines.block (fun q hq => hg.block q (RowL.blk_lt h.lines q hq) (fun e => by have := hp _ e.symm; have := h2 q hq; omega))⟩
theorem BfS.best (h : BfS TS TL TI w sb aW nw cW D E ve k v xs wr) {v' : Value} {xs' : List Line} (hr : RowL wr (w.heap.size + 1) TL 6 v' xs'.length (linesC xs')) : BfS TS TL TI w sb aW nw cW D E ve k v' xs' wr :=
  ⟨h.only, h.low, h.steps, h.shape, h.ends, hr⟩
end
end Go.Law.Ln
