/-
  DERIVED. GIVEN WITH THE SEED: THE PROGRAM's TIES (one call each: nine closed facts by the kernel) AND EACH ROW's TIE, after the 31st guide's Derived/Test/Toyas{Tie, Card}.lean. No idea stands in it: it is a product of the set-up. Laid BY PROGRAM, IN A SANDBOX (cutbox-door.mjs). By AI agents, Wed Nov 11 2026. No macro, syntax, notation, axiom, sorry.
-/
import Derived.Test.YtnigebnibikolaaDoorRows
import Derived.LaidByTextLater
import Derived.SevenTiedAt
import Derived.LaidSub
import Derived.LaidOnce
namespace Go.Proofs.YtnigebnibikolaaDoor
open Go
set_option maxRecDepth 100000
theorem seatTie1 : Tryd.prog.laidByTextLater [("chancery/chanceryref3.sines", Rows.laid_chancery_chanceryref3_sines), ("chancery/metric.marks", Rows.laid_chancery_metric_marks), ("chancery/metric.others", Rows.laid_chancery_metric_others), ("chancery/shape.quarter", Rows.laid_chancery_shape_quarter)] [.data, .widerDeep, .widerDeep, .data] true :=
  Program.laidByTextLater_by_one 58 8 92 (by kernel_rfl) (by kernel_rfl) (by kernel_rfl) (by kernel_rfl) (by kernel_rfl) (by kernel_rfl) (fun _ _ => by kernel_rfl)
theorem noOwnUnsafe : Tryd.pinned.checked.prog.headLifts.contains "ownunsafe" = false := by kernel_rfl
theorem tie : Tryd.prog.laidByTextLater [("chancery/metric.marks", Rows.laid_chancery_metric_marks), ("chancery/metric.others", Rows.laid_chancery_metric_others)] [.widerDeep, .widerDeep] true :=
  Program.laidByTextLater.sub seatTie1 ["chancery/metric.marks", "chancery/metric.others"] (by kernel_rfl) (by kernel_rfl)
theorem metricEms_row_tie : Rows.metricEmsRow.laidByTextAt .later Tryd.pinned [.widerDeep, .widerDeep] true :=
  OpenClaim.laidByTextAt_later rfl rfl tie noOwnUnsafe
theorem metricWidths_row_tie : Rows.metricWidthsRow.laidByTextAt .later Tryd.pinned [.widerDeep, .widerDeep] true :=
  OpenClaim.laidByTextAt_later rfl rfl tie noOwnUnsafe
theorem metricFits_row_tie : Rows.metricFitsRow.laidByTextAt .later Tryd.pinned [.widerDeep, .widerDeep] true :=
  OpenClaim.laidByTextAt_later rfl rfl tie noOwnUnsafe
theorem tie2 : Tryd.prog.laidByTextLater [("chancery/metric.marks", Rows.laid_chancery_metric_marks)] [.widerDeep] true :=
  Program.laidByTextLater.sub seatTie1 ["chancery/metric.marks"] (by kernel_rfl) (by kernel_rfl)
theorem breaksPlaces_row_tie : Rows.breaksPlacesRow.laidByTextAt .later Tryd.pinned [.widerDeep] true :=
  OpenClaim.laidByTextAt_later rfl rfl tie2 noOwnUnsafe
theorem tie3 : Tryd.prog.laidByTextLater [("chancery/chanceryref3.sines", Rows.laid_chancery_chanceryref3_sines), ("chancery/shape.quarter", Rows.laid_chancery_shape_quarter)] [.data, .data] true :=
  Program.laidByTextLater.sub seatTie1 ["chancery/chanceryref3.sines", "chancery/shape.quarter"] (by kernel_rfl) (by kernel_rfl)
theorem shapeCorners_row_tie : Rows.shapeCornersRow.laidByTextAt .later Tryd.pinned [.data, .data] true :=
  OpenClaim.laidByTextAt_later rfl rfl tie3 noOwnUnsafe
theorem shapeHits_row_tie : Rows.shapeHitsRow.laidByTextAt .later Tryd.pinned [.data, .data] true :=
  OpenClaim.laidByTextAt_later rfl rfl tie3 noOwnUnsafe
theorem metricEmsUpto_row_tie : Rows.metricEmsUptoRow.laidByTextAt .later Tryd.pinned [.widerDeep, .widerDeep] true :=
  OpenClaim.laidByTextAt_later rfl rfl tie noOwnUnsafe
theorem breaksPlacesUpto_row_tie : Rows.breaksPlacesUptoRow.laidByTextAt .later Tryd.pinned [.widerDeep] true :=
  OpenClaim.laidByTextAt_later rfl rfl tie2 noOwnUnsafe
theorem metricWidthsUpto_row_tie : Rows.metricWidthsUptoRow.laidByTextAt .later Tryd.pinned [.widerDeep, .widerDeep] true :=
  OpenClaim.laidByTextAt_later rfl rfl tie noOwnUnsafe
theorem metricFitsUpto_row_tie : Rows.metricFitsUptoRow.laidByTextAt .later Tryd.pinned [.widerDeep, .widerDeep] true :=
  OpenClaim.laidByTextAt_later rfl rfl tie noOwnUnsafe
theorem shapeCornersUpto_row_tie : Rows.shapeCornersUptoRow.laidByTextAt .later Tryd.pinned [.data, .data] true :=
  OpenClaim.laidByTextAt_later rfl rfl tie3 noOwnUnsafe
theorem shapeHitsUpto_row_tie : Rows.shapeHitsUptoRow.laidByTextAt .later Tryd.pinned [.data, .data] true :=
  OpenClaim.laidByTextAt_later rfl rfl tie3 noOwnUnsafe
end Go.Proofs.YtnigebnibikolaaDoor
