/-
  Tables: a table that is cut to a few cells.
-/
import Derived.Test.YtabnohphgegflaaTbPlain
import Derived.Test.YtabnohphgegflaaRowV
namespace Go.Law.Tb
open Go.RowKit Go.Law
set_option linter.unusedVariables false
instance : Inhabited PIt := ⟨⟨0, 0, 0, false, false, 0, 0, 0, 0⟩⟩
instance : Inhabited ParD := ⟨⟨0, none, 0, fun _ => default, 0, false, false, 0, 0, 0, 0, 0, 0, 0, 0, false, false, 0, 0, 0⟩⟩
instance : Inhabited CellD := ⟨⟨0, 0, 0, 0, 0, none, 0, fun _ => default, 0, 0, 0, 0⟩⟩
/-- a cell whose paragraphs lie in a row of the call's own -/
structure CellG (PT : TypeId) (base : Nat) (w wx : World) (c : CellD) : Prop where
  row : RowV wx base PT 17 (.slice c.ap c.np c.cp) c.np (fun k => (c.par k).V)
  par : ∀ k, k < c.np → ParOk w (c.par k)
theorem CellG.block {PT : TypeId} {base : Nat} {w wx wy : World} {c : CellD} (h : CellG PT base w wx c) (hb : ∀ k, (Value.slice c.ap c.np c.cp).ownBlock = some k → wy.heap[k]? = wx.heap[k]?) : CellG PT base w wy c :=
  ⟨h.row.block hb, h.par⟩
structure CtS (TT CT PT : TypeId) (w0 w : World) (tb rb : Array Value) (v : Value) (m : Nat) (L : Nat → CellD) (wx : World) : Prop where
  below : Below w.heap.size w wx
  tab : Blk wx w.heap.size tb TT
  res : Blk wx (w.heap.size + 1) rb TT
  out : RowV wx (w.heap.size + 2) CT 9 v m (fun i => (L i).V)
  cells : ∀ q, q < m → CellG PT (w.heap.size + 2) w0 wx (L q)
  kinds : PT ≠ CT
section
variable {TT CT PT : TypeId} {w0 w : World} {tb rb : Array Value} {v v' : Value} {m : Nat} {L : Nat → CellD} {wx wy : World}
theorem CtS.size (h : CtS TT CT PT w0 w tb rb v m L wx) : w.heap.size + 2 ≤ wx.heap.size := by have := h.res.lt; omega
theorem CtS.under (h : CtS TT CT PT w0 w tb rb v m L wx) (hb : Below wx.heap.size wx wy) : CtS TT CT PT w0 w tb rb v m L wy :=
  ⟨h.below.trans (hb.mono h.below.size), h.tab.below hb h.tab.lt, h.res.below hb h.res.lt, h.out.below hb (Nat.le_refl _), fun q hq => (h.cells q hq).block fun k hk => hb.block k ((h.cells q hq).row.lt hk), h.kinds⟩
/-- the function L with c at m -/
def updL (L : Nat → CellD) (m : Nat) (c : CellD) : Nat → CellD := fun q => if q = m then c else L q
theorem CtS.push (h : CtS TT CT PT w0 w tb rb v m L wx) {c : CellD} (hc : CellG PT (w.heap.size + 2) w0 wx c) {o : Obj} {xs : List Value} (hg : (wx.alloc o).grownBy wy v.ownBlock) (hx : ∀ i, i < m → ∀ j, j < 9 → xs[i * 9 + j]? = some ((L i).V j)) (hl : xs.length = m * 9) (hr : wy.ownsRow (w.heap.size + 2) CT 9 v' (m + 1) (xs ++ c.cells)) : CtS TT CT PT w0 w tb rb v' (m + 1) (updL L m c) wy := by
  have h2 := h.under ((Below.refl _ _).alloc (Nat.le_refl _) o)
  have hc2 : CellG PT (w.heap.size + 2) w0 (wx.alloc o) c := hc.block fun k hk => Below.heap_alloc _ _ _ (hc.row.lt hk)
  have hgr : ∀ (x : CellD), CellG PT (w.heap.size + 2) w0 (wx.alloc o) x → CellG PT (w.heap.size + 2) w0 wy x := fun x hx => hx.block fun k hk => hg.block k (hx.row.lt hk) (fun e => RowV.apart hx.row h2.out h.kinds hk e.symm)
  have hv : ∀ k, v.ownBlock = some k → w.heap.size + 2 ≤ k := RowV.ge h2.out
  refine ⟨Below.grown h2.below hg h2.below.size (fun k hk => by have := hv k hk; omega), h2.tab.block (hg.block _ h2.tab.lt (fun e => by have := hv _ e.symm; omega)), h2.res.block (hg.block _ h2.res.lt (fun e => by have := hv _ e.symm; omega)), ?_, fun q hq => ?_, h.kinds⟩
  · refine RowV.push hr hl hx (fun j hj => ?_) (fun i hi j hj => ?_)
    · show c.cells[j]? = some ((updL L m c m).V j)
      unfold updL
      rw [if_pos rfl]
      unfold CellD.V
      rw [List.getD_eq_getElem?_getD, List.getElem?_eq_getElem (show j < c.cells.length from hj)]
      rfl
    · show (L i).V j = (updL L m c i).V j
      unfold updL
      rw [if_neg (by omega)]
  · unfold updL
    by_cases hqm : q = m
    · rw [if_pos hqm]; exact hgr c hc2
    · rw [if_neg hqm]; exact hgr _ (h2.cells q (by omega))
theorem CtS.nil (hb : Below w.heap.size w wx) (ht : Blk wx w.heap.size tb TT) (hr : Blk wx (w.heap.size + 1) rb TT) (hk : PT ≠ CT) : CtS TT CT PT w0 w tb rb (.slice none 0 0) 0 L wx :=
  ⟨hb, ht, hr, RowV.nil _ _ _ _ _, fun q hq => by omega, hk⟩
end
/-- the row of paragraphs while a cell is cut -/
structure PrS (PT : TypeId) (w wo : World) (v : Value) (m : Nat) (P : Nat → ParD) (wx : World) : Prop where
  below : Below wo.heap.size wo wx
  out : RowV wx wo.heap.size PT 17 v m (fun i => (P i).V)
  par : ∀ k, k < m → ParOk w (P k)
section
variable {PT : TypeId} {w wo : World} {v v' : Value} {m : Nat} {P : Nat → ParD} {wx wy : World}
theorem PrS.under (h : PrS PT w wo v m P wx) (hb : Below wx.heap.size wx wy) : PrS PT w wo v m P wy :=
  ⟨h.below.trans (hb.mono h.below.size), h.out.below hb (Nat.le_refl _), h.par⟩
def updP (P : Nat → ParD) (m : Nat) (c : ParD) : Nat → ParD := fun q => if q = m then c else P q
theorem PrS.push (h : PrS PT w wo v m P wx) {p : ParD} (hp : ParOk w p) {xs : List Value} (hg : wx.grownBy wy v.ownBlock) (hx : ∀ i, i < m → ∀ j, j < 17 → xs[i * 17 + j]? = some ((P i).V j)) (hl : xs.length = m * 17) (hr : wy.ownsRow wo.heap.size PT 17 v' (m + 1) (xs ++ p.cells)) : PrS PT w wo v' (m + 1) (updP P m p) wy := by
  have hv : ∀ k, v.ownBlock = some k → wo.heap.size ≤ k := RowV.ge h.out
  refine ⟨Below.grown h.below hg h.below.size (fun k hk => hv k hk), ?_, fun k hk => ?_⟩
  · refine RowV.push hr hl hx (fun j hj => ?_) (fun i hi j hj => ?_)
    · show p.cells[j]? = some ((updP P m p m).V j)
      unfold updP
      rw [if_pos rfl]
      unfold ParD.V
      rw [List.getD_eq_getElem?_getD, List.getElem?_eq_getElem (show j < p.cells.length from hj)]
      rfl
    · show (P i).V j = (updP P m p i).V j
      unfold updP
      rw [if_neg (by omega)]
  · unfold updP
    by_cases hqm : k = m
    · rw [if_pos hqm]; exact hp
    · rw [if_neg hqm]; exact h.par _ (by omega)
end
end Go.Law.Tb
