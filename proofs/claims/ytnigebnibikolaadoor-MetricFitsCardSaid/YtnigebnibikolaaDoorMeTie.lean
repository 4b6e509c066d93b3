
/-
  The tables of metric out of a row's condition 'laid'.
-/
import Derived.Test.YtnigebnibikolaaDoorRows
import Derived.Test.YtnigebnibikolaaDoorCards
import Derived.Test.YtnigebnibikolaaDoorTie
import Derived.Test.YtnigebnibikolaaDoorReads
import Derived.Test.YtnigebnibikolaaDoorMeLaw
import Derived.SevenTiedAt
namespace Go.Proofs.YtnigebnibikolaaDoor.ME
open Go.ChangeShapes Go.WideShapes Go.ChangeAt Go.RowKit Go.Law Go.Law.Me

theorem gMarks : Tryd.prog.globalNamed "chancery/metric.marks" = some 1 := by kernel_rfl
theorem gOthers : Tryd.prog.globalNamed "chancery/metric.others" = some 0 := by kernel_rfl
theorem tMarks : (Tryd.prog.globals[1]?).map (·.type) = some 73 := by kernel_rfl
theorem tOthers : (Tryd.prog.globals[0]?).map (·.type) = some 73 := by kernel_rfl
theorem tabs_of {W : World} (h : laidMet Tryd.prog Rows.metricEmsRow.laid W) : Tabs W := by
  obtain ⟨ps, ⟨g0, t0, cs0, f0, p0, q0, hg0, ht0, hv0, hd0, ⟨g1, t1, cs1, f1, p1, q1, hg1, ht1, hv1, hd1, _, _⟩, _⟩, _, _⟩ := h
  obtain rfl := Option.some.inj (gMarks.symm.trans hg0)
  obtain rfl := Option.some.inj (gOthers.symm.trans hg1)
  obtain rfl := Option.some.inj (tMarks.symm.trans ht0)
  obtain rfl := Option.some.inj (tOthers.symm.trans ht1)
  exact ⟨tab_of_trod Tryd.underlying73 (by kernel_rfl) (by omega) (by decide) (laid_cell hg1 hv1) (fun n cs' y' r a b => row_struct Tryd.underlying92 Tryd.underlying3 (by kernel_rfl) (by kernel_rfl) rfl (by kernel_rfl) a b) hd1 rfl,
    tab_of_trod Tryd.underlying73 (by kernel_rfl) (by omega) (by decide) (laid_cell hg0 hv0) (fun n cs' y' r a b => row_struct Tryd.underlying92 Tryd.underlying3 (by kernel_rfl) (by kernel_rfl) rfl (by kernel_rfl) a b) hd0 rfl⟩
end Go.Proofs.YtnigebnibikolaaDoor.ME
