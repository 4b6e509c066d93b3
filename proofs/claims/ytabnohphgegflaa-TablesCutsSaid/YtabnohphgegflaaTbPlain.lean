/-
  Tables: what is checked of them.
-/
import Derived.Test.YtabnohphgegflaaCellsF
namespace Go.Law.Tb
open Go.RowKit Go.Law
set_option linter.unusedVariables false
structure PIt where
  kind : Int
  char : Int
  size : Int
  bold : Bool
  fixed : Bool
  w : Int
  h : Int
  node : Int
  frm : Int
def PIt.cells (x : PIt) : List Value := [.int .i64 x.kind, .int .i64 x.char, .int .i64 x.size, .bool x.bold, .bool x.fixed, .int .i64 x.w, .int .i64 x.h, .int .i64 x.node, .int .i64 x.frm]
def PIt.V (x : PIt) (j : Nat) : Value := x.cells.getD j undef
def outB (n lo hi : Int) : Bool := decide (n < lo ∨ hi < n)
theorem outB_true {n lo hi : Int} : outB n lo hi = true ↔ n < lo ∨ hi < n := by simp [outB]
theorem outB_false {n lo hi : Int} : outB n lo hi = false ↔ lo ≤ n ∧ n ≤ hi := by simp only [outB, decide_eq_false_iff_not]; omega
def lookE (size : Int) : Int := if size < 40 ∨ 4000 < size then 2 else 0
def itemE (x : PIt) : Int :=
  if x.kind < 0 ∨ 4 < x.kind then 8
  else if x.frm < 0 ∨ 1073741824 < x.frm then 2
  else if x.kind = 0 then
    if x.w ≠ 0 ∨ x.h ≠ 0 then 4
    else if (x.char < 0 ∨ 1114111 < x.char) ∨ (x.node < 0 ∨ 1073741824 < x.node) ∨ x.char = 10 then 2
    else lookE x.size
  else if x.char ≠ 0 ∨ (x.size ≠ 0 ∨ x.bold = true ∨ x.fixed = true) ∨ (x.kind = 4 ∧ (x.w ≠ 0 ∨ x.h ≠ 0)) then 4
  else if (x.w < 0 ∨ 31680 < x.w) ∨ (x.h < 0 ∨ 31680 < x.h) ∨ (x.node < 1 ∨ 1073741824 < x.node) then 2
  else 0
theorem it_kind {x : PIt} (h : x.kind < 0 ∨ 4 < x.kind) : itemE x = 8 := by unfold itemE; rw [if_pos h]
theorem it_frm {x : PIt} (h0 : ¬ (x.kind < 0 ∨ 4 < x.kind)) (h : x.frm < 0 ∨ 1073741824 < x.frm) : itemE x = 2 := by unfold itemE; rw [if_neg h0, if_pos h]
theorem it_char {x : PIt} (h0 : x.kind = 0) (h1 : ¬ (x.frm < 0 ∨ 1073741824 < x.frm)) : itemE x = if x.w ≠ 0 ∨ x.h ≠ 0 then 4
    else if (x.char < 0 ∨ 1114111 < x.char) ∨ (x.node < 0 ∨ 1073741824 < x.node) ∨ x.char = 10 then 2 else lookE x.size := by unfold itemE; rw [if_neg (by omega), if_neg h1, if_pos h0]
theorem it_obj {x : PIt} (h : ¬ (x.kind < 0 ∨ 4 < x.kind)) (h0 : x.kind ≠ 0) (h1 : ¬ (x.frm < 0 ∨ 1073741824 < x.frm)) : itemE x = if x.char ≠ 0 ∨ (x.size ≠ 0 ∨ x.bold = true ∨ x.fixed = true) ∨ (x.kind = 4 ∧ (x.w ≠ 0 ∨ x.h ≠ 0)) then 4
  else if (x.w < 0 ∨ 31680 < x.w) ∨ (x.h < 0 ∨ 31680 < x.h) ∨ (x.node < 1 ∨ 1073741824 < x.node) then 2 else 0 := by unfold itemE; rw [if_neg h, if_neg h1, if_neg h0]
/-- the first that is not 0 -/
def fstE (n : Nat) (f : Nat → Int) (d : Int) : Int := match (List.range n).find? (fun i => decide (f i ≠ 0)) with
  | some k => f k
  | none => d
theorem fstE_some {n k : Nat} {f : Nat → Int} {d : Int} (hk : k < n) (hn : ∀ j, j < k → f j = 0) (hx : f k ≠ 0) : fstE n f d = f k := by
  have : (List.range n).find? (fun i => decide (f i ≠ 0)) = some k := by
    rw [List.find?_eq_some_iff_getElem]
    refine ⟨by simpa using hx, k, by simpa using hk, by simp, fun j hj => by simp [hn j hj]⟩
  unfold fstE
  rw [this]
theorem fstE_none {n : Nat} {f : Nat → Int} {d : Int} (hn : ∀ j, j < n → f j = 0) : fstE n f d = d := by
  have : (List.range n).find? (fun i => decide (f i ≠ 0)) = none := by
    rw [List.find?_eq_none]
    intro i hi
    simp [hn i (by simpa using hi)]
  unfold fstE
  rw [this]
theorem fstE_zero {n : Nat} {f : Nat → Int} {d : Int} (h : fstE n f d = 0) : (∀ j, j < n → f j = 0) ∧ d = 0 := by
  have h0 : ∀ j, j < n → f j = 0 := by
    intro j
    induction j using Nat.strongRecOn with
    | _ j ih =>
      intro hj
      by_cases he : f j = 0
      · exact he
      · rw [fstE_some hj (fun i hi => ih i hi (by omega)) he] at h
        exact h
  exact ⟨h0, by rw [fstE_none h0] at h; exact h⟩
structure ParD where
  n : Nat
  a : Option Addr
  c : Nat
  it : Nat → PIt
  size : Int
  bold : Bool
  fixed : Bool
  align : Int
  dir : Int
  left : Int
  right : Int
  first : Int
  before : Int
  after : Int
  line : Int
  keep : Bool
  next : Bool
  widow : Int
  orphan : Int
  ahead : Int
def ParD.cells (p : ParD) : List Value := [.slice p.a p.n p.c, .int .i64 p.size, .bool p.bold, .bool p.fixed, .int .i64 p.align, .int .i64 p.dir, .int .i64 p.left, .int .i64 p.right, .int .i64 p.first,
  .int .i64 p.before, .int .i64 p.after, .int .i64 p.line, .bool p.keep, .bool p.next, .int .i64 p.widow, .int .i64 p.orphan, .int .i64 p.ahead]
def ParD.V (p : ParD) (j : Nat) : Value := p.cells.getD j undef
def isF (x : PIt) : Prop := x.kind = 2 ∨ x.kind = 3
instance (x : PIt) : Decidable (isF x) := by unfold isF; infer_instance
def fl (it : Nat → PIt) : Nat → Nat
  | 0 => 0
  | i + 1 => fl it i + (if isF (it i) then 1 else 0)
theorem fl_le (it : Nat → PIt) : ∀ i, fl it i ≤ i
  | 0 => Nat.le_refl _
  | i + 1 => by have := fl_le it i; unfold fl; split <;> omega
/-- the error of an item behind those before it -/
def sE (it : Nat → PIt) (j : Nat) : Int := if itemE (it j) ≠ 0 then itemE (it j) else if isF (it j) ∧ 4 < fl it (j + 1) then 3 else 0
def tlE (p : ParD) : Int :=
  if (p.size < 40 ∨ 4000 < p.size) ∨ (p.left < -20000 ∨ 20000 < p.left) ∨ (p.right < -20000 ∨ 20000 < p.right) ∨ (p.first < -20000 ∨ 20000 < p.first) ∨ (p.before < 0 ∨ 20000 < p.before) ∨ (p.after < 0 ∨ 20000 < p.after) ∨ (p.line < 0 ∨ 20000 < p.line) ∨
    (p.align < 0 ∨ 3 < p.align) ∨ (p.dir < -1 ∨ 1 < p.dir) ∨ (p.ahead < 0 ∨ 2 < p.ahead) ∨ (p.widow < 0 ∨ 9 < p.widow) ∨ (p.orphan < 0 ∨ 9 < p.orphan) then 2 else 0
def parE (p : ParD) : Int := if 3000 < p.n then 3 else fstE p.n (sE p.it) (tlE p)
/-- what memory holds of a paragraph -/
def ParOk (w : World) (p : ParD) : Prop := CellsF w p.a p.n 9 (fun i => (p.it i).V)
theorem ParOk.below {W w : World} {B : Nat} {p : ParD} (h : ParOk W p) (hB : W.heap.size ≤ B) (hb : Below B W w) : ParOk w p := CellsF.below h hB hb
structure CellD where
  row : Int
  col : Int
  h : Int
  w : Int
  np : Nat
  ap : Option Addr
  cp : Nat
  par : Nat → ParD
  pad : Int
  mn : Int
  pref : Int
  node : Int
def CellD.cells (c : CellD) : List Value := [.int .i64 c.row, .int .i64 c.col, .int .i64 c.h, .int .i64 c.w, .slice c.ap c.np c.cp, .int .i64 c.pad, .int .i64 c.mn, .int .i64 c.pref, .int .i64 c.node]
def CellD.V (c : CellD) (j : Nat) : Value := c.cells.getD j undef
def boxBad (rows cols : Int) (c : CellD) : Prop := (c.row < 0 ∨ rows ≤ c.row) ∨ (c.col < 0 ∨ cols ≤ c.col) ∨ (c.h < 1 ∨ rows - c.row < c.h) ∨ (c.w < 1 ∨ cols - c.col < c.w)
def numBad (c : CellD) : Prop := (c.pad < 0 ∨ 1000 < c.pad) ∨ (c.mn < 0 ∨ 31680 < c.mn) ∨ (c.pref < 0 ∨ 31680 < c.pref) ∨ (c.node < 0 ∨ 1073741824 < c.node)
instance (rows cols : Int) (c : CellD) : Decidable (boxBad rows cols c) := by unfold boxBad; infer_instance
instance (c : CellD) : Decidable (numBad c) := by unfold numBad; infer_instance
def cellE (rows cols : Int) (c : CellD) : Int := if boxBad rows cols c then 2 else if numBad c then 2 else if 50 < c.np then 3 else fstE c.np (fun k => parE (c.par k)) 0
/-- what memory holds of a cell -/
def CellOk (w : World) (c : CellD) : Prop := CellsF w c.ap c.np 17 (fun k => (c.par k).V) ∧ ∀ k, k < c.np → ParOk w (c.par k)
theorem CellOk.below {W w : World} {B : Nat} {c : CellD} (h : CellOk W c) (hB : W.heap.size ≤ B) (hb : Below B W w) : CellOk w c := ⟨h.1.below hB hb, fun k hk => (h.2 k hk).below hB hb⟩
structure TabD where
  rows : Int
  cols : Int
  n : Nat
  a : Option Addr
  c : Nat
  cell : Nat → CellD
  width : Int
  head : Int
  align : Int
  node : Int
def TabD.cells (t : TabD) : List Value := [.int .i64 t.rows, .int .i64 t.cols, .slice t.a t.n t.c, .int .i64 t.width, .int .i64 t.head, .int .i64 t.align, .int .i64 t.node]
def TabOk (w : World) (t : TabD) : Prop := CellsF w t.a t.n 9 (fun i => (t.cell i).V) ∧ ∀ i, i < t.n → CellOk w (t.cell i)
theorem TabOk.below {W w : World} {B : Nat} {t : TabD} (h : TabOk W t) (hB : W.heap.size ≤ B) (hb : Below B W w) : TabOk w t := ⟨h.1.below hB hb, fun k hk => (h.2 k hk).below hB hb⟩
end Go.Law.Tb
