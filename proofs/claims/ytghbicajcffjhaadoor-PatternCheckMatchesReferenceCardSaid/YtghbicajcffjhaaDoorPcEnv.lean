
/-
  The tables of patterns, and a number in base 16.
-/
import Derived.Test.YtghbicajcffjhaaDoorPcLib
import Derived.Test.YtghbicajcffjhaaDoorPcSet
import Derived.WalkSmall
import Derived.Lib.LaidTab
import Derived.Lib.AppendIntMem
import Derived.Laws.BytesArg
namespace Go.Proofs.YtghbicajcffjhaaDoor.PC
open Go.RowKit Go.Law Go.Law.Pn
set_option linter.unusedVariables false
set_option linter.unusedSimpArgs false
set_option maxRecDepth 100000
/-- a variable that holds a row of ranges -/
def TabRow (w : World) (g n : Nat) (f : Nat → Int × Int) : Prop := ∃ a c, w.cell? ⟨g, 0, none⟩ = some (.slice a n c) ∧ SetOk w a n f
theorem TabRow.below {w w' : World} {B g n : Nat} {f : Nat → Int × Int} (h : TabRow w g n f) (hb : Below B w w') (hB : w.heap.size ≤ B) : TabRow w' g n f := by
  obtain ⟨a, c, h1, h2⟩ := h
  exact ⟨a, c, (hb.cell (by have := lt_of_cell h1; simp only at this ⊢; omega)).trans h1, CellsF.below h2 hB hb⟩
def digitsT (i : Nat) : Int × Int := [((48 : Int), (57 : Int))].getD i (0, 0)
def lettersT (i : Nat) : Int × Int := [((48 : Int), (57 : Int)), (65, 90), (95, 95), (97, 122), (192, 591), (880, 1535)].getD i (0, 0)
def blanksT (i : Nat) : Int × Int := [((9 : Int), (10 : Int)), (32, 32), (160, 160)].getD i (0, 0)
structure PEnv (w : World) : Prop where
  tb : Lib.TabIs Tryd.prog w "internal/strconv.uint64pow10" .u64 Lib.pow10Tab
  db : w.cell? ⟨12, 15, none⟩ = some (.int .u8 4)
  dg : TabRow w 4 1 digitsT
  lt : TabRow w 5 6 lettersT
  bl : TabRow w 6 3 blanksT
theorem PEnv.below {w w' : World} {B : Nat} (h : PEnv w) (hb : Below B w w') (hB : w.heap.size ≤ B) : PEnv w' :=
  ⟨Lib.tabBelow_of_tabIs h.tb _ (hb.mono hB), (hb.cell (by have := lt_of_cell h.db; simp only at this ⊢; omega)).trans h.db, h.dg.below hb hB, h.lt.below hb hB, h.bl.below hb hB⟩
/-- 4 zeros stand behind 16 -/
theorem tz64_any (w : World) (hd : w.cell? ⟨12, 15, none⟩ = some (.int .u8 4)) : Calls Tryd.prog 181 #[.int .u64 16] w fun e w' => e = .returned (.int .i64 4) ∧ w = w' := by
  have e1 : bits BinOp.and IntKind.u64 16 (IntKind.u64.wrap (-16)) = 16 := by decide +kernel
  have e2 : IntKind.u64.wrap (16 * 285870213051353865) = 4573923408821661840 := by decide +kernel
  go_enter Tryd.func181, Tryd.ntmps181
  go_wp2_with fail
  go_ret
  exact ⟨rfl, rfl⟩
theorem tz_any (w : World) (hd : w.cell? ⟨12, 15, none⟩ = some (.int .u8 4)) : Calls Tryd.prog 177 #[.int .u64 16] w fun e w' => e = .returned (.int .i64 4) ∧ w = w' := by
  go_enter Tryd.func177, Tryd.ntmps177
  go_wp2_with (go_at_call 181; refine (tz64_any _ hd).mono ?_; rintro e w2 ⟨rfl, rfl⟩)
  go_ret
  exact ⟨rfl, rfl⟩
end Go.Proofs.YtghbicajcffjhaaDoor.PC
