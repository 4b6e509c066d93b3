/-
  The tables of sines out of a row's condition 'laid'.
-/
import Derived.Test.YtnigebnibikolaaDoorRows
import Derived.Test.YtnigebnibikolaaDoorCards
import Derived.Test.YtnigebnibikolaaDoorTie
import Derived.Test.YtnigebnibikolaaDoorLaidRows
import Derived.Test.YtnigebnibikolaaDoorShTrig
import Derived.SevenTiedAt
namespace Go.Proofs.YtnigebnibikolaaDoor.ShT
open Go.ChangeShapes Go.WideShapes Go.ChangeAt Go.RowKit Go.Law Go.Law.Sh

theorem gQuarter : Tryd.prog.globalNamed "chancery/shape.quarter" = some 3 := by kernel_rfl
theorem gSines : Tryd.prog.globalNamed "chancery/chanceryref3.sines" = some 2 := by kernel_rfl
theorem tQuarter : (Tryd.prog.globals[3]?).map (·.type) = some 100 := by kernel_rfl
theorem tSines : (Tryd.prog.globals[2]?).map (·.type) = some 100 := by kernel_rfl
theorem arr_of {w : World} {n : String} {g fuel : Nat} {cs : Array Value} {y : DataW Unit × List MemPlace} (hg : Tryd.prog.globalNamed n = some g) (hv : w.var? Tryd.prog n = some cs)
    (h : DataW.trod (fun _ => ()) Tryd.prog w 0 (fun _ => true) false fuel 100 cs.toList = some y) (hy : y.1 = rowD sinT) : Arr w g := by
  have e := row_array (k := 91) Tryd.underlying100 Tryd.underlying3 (by kernel_rfl) (by kernel_rfl) h hy
  intro i hi
  rw [World.var?_cell hg hv i]
  have : cs[i]? = cs.toList[i]? := by simp
  rw [this, e, List.getElem?_map]
  have hl : i < sinT.length := hi
  rw [List.getElem?_eq_getElem hl]
  unfold sinA
  simp [List.getD, List.getElem?_eq_getElem hl]
theorem arrs_of {W : World} (h : laidMet Tryd.prog Rows.shapeCornersRow.laid W) : Arr W 3 ∧ Arr W 2 := by
  obtain ⟨ps, ⟨g0, t0, cs0, f0, p0, q0, hg0, ht0, hv0, hd0, ⟨g1, t1, cs1, f1, p1, q1, hg1, ht1, hv1, hd1, _, _⟩, _⟩, _, _⟩ := h
  obtain rfl := Option.some.inj (gSines.symm.trans hg0)
  obtain rfl := Option.some.inj (gQuarter.symm.trans hg1)
  obtain rfl := Option.some.inj (tSines.symm.trans ht0)
  obtain rfl := Option.some.inj (tQuarter.symm.trans ht1)
  exact ⟨arr_of hg1 hv1 hd1 rfl, arr_of hg0 hv0 hd0 rfl⟩
end Go.Proofs.YtnigebnibikolaaDoor.ShT
