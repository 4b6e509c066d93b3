/-
  NARROWER THAN 'FOR EVERY INPUT', by the rows' own cells (each row's printed sentence says how): MetricEms: laid · BreaksPlaces: laid · MetricWidths: laid · MetricFits: laid · ShapeCorners: laid · ShapeHits: laid.
  DERIVED. THE GIVEN ROWS OF THIS SEAT. 6 by the template 'for every input the law returns true; each argument reads behind the call as it read before'; 0 by the template 'total and deterministic' (their statements: YtnigebnibikolaaDoorTotals.lean).
  GIVEN WITH THE SEED: the statements are not yours to turn. If you find one false, say at which input.
  Laid BY PROGRAM, IN A SANDBOX (cutbox-rows.mjs): the forced cells as the released guide's own fill.sh prints them over the translation 952d8f5f2d05857b… (all of the seat's roots in one cut). By AI agents, Wed Nov 11 2026. No macro, syntax, notation, axiom, sorry.
-/
import Derived.Test.YtnigebnibikolaaDoorChecked
import GoSem.Claim
import GoSem.ClaimJoined
import GoSem.ClaimMapViews
import Derived.JoinedTies
import Derived.KernelRfl
namespace Go.Proofs.YtnigebnibikolaaDoor
/- THE CELL 'sum', in the pinned program and in every row, IS THE sha256 OF THE DUMP (.gsa) THAT YtnigebnibikolaaDoorProg.lean LOADS. Nothing in Lean hashes anything: it is a label: what it is worth is what the hold of that sum in a sandbox is worth. -/
noncomputable def Tryd.pinned : Pinned := { name := "ytnigebnibikolaadoor", sum := "952d8f5f2d05857bc087e3f7a86f094d36169a9ca8ee1a2a9d0ef8c7bf1b42b5", checked := Tryd.checked }
namespace Rows
def none {H : Type} : Left H := { results := [], args := [] }

/- WHAT THE LISTED PACKAGE-LEVEL VARIABLES READ AS WHEN THE CALL BEGINS. Each datum BY PROGRAM (the guide's laid-datum.mjs) off the statement by which the dump's own 'gosem.cut.vars' lays the variable. In a bare row this is a premise. The card (YtnigebnibikolaaDoorCards.lean) ties it to the program's text. -/
def laid_chancery_metric_marks {H : Type} : DataW H := .slice [.agg [.lit (.int .i64 173), .lit (.int .i64 173), .lit (.int .i64 0)], .agg [.lit (.int .i64 768), .lit (.int .i64 879), .lit (.int .i64 0)], .agg [.lit (.int .i64 1425), .lit (.int .i64 1469), .lit (.int .i64 0)], .agg [.lit (.int .i64 1471), .lit (.int .i64 1471), .lit (.int .i64 0)], .agg [.lit (.int .i64 1473), .lit (.int .i64 1474), .lit (.int .i64 0)], .agg [.lit (.int .i64 1552), .lit (.int .i64 1562), .lit (.int .i64 0)], .agg [.lit (.int .i64 1611), .lit (.int .i64 1631), .lit (.int .i64 0)], .agg [.lit (.int .i64 8203), .lit (.int .i64 8207), .lit (.int .i64 0)], .agg [.lit (.int .i64 8234), .lit (.int .i64 8238), .lit (.int .i64 0)], .agg [.lit (.int .i64 8288), .lit (.int .i64 8297), .lit (.int .i64 0)], .agg [.lit (.int .i64 65024), .lit (.int .i64 65039), .lit (.int .i64 0)], .agg [.lit (.int .i64 65532), .lit (.int .i64 65532), .lit (.int .i64 0)]] []
def laid_chancery_metric_others {H : Type} : DataW H := .slice [.agg [.lit (.int .i64 9), .lit (.int .i64 10), .lit (.int .i64 0)], .agg [.lit (.int .i64 48), .lit (.int .i64 57), .lit (.int .i64 500)], .agg [.lit (.int .i64 160), .lit (.int .i64 160), .lit (.int .i64 250)], .agg [.lit (.int .i64 192), .lit (.int .i64 222), .lit (.int .i64 660)], .agg [.lit (.int .i64 223), .lit (.int .i64 591), .lit (.int .i64 500)], .agg [.lit (.int .i64 880), .lit (.int .i64 1327), .lit (.int .i64 560)], .agg [.lit (.int .i64 1424), .lit (.int .i64 2303), .lit (.int .i64 520)], .agg [.lit (.int .i64 4352), .lit (.int .i64 4447), .lit (.int .i64 1000)], .agg [.lit (.int .i64 8212), .lit (.int .i64 8212), .lit (.int .i64 1000)], .agg [.lit (.int .i64 8208), .lit (.int .i64 8211), .lit (.int .i64 500)], .agg [.lit (.int .i64 11904), .lit (.int .i64 42191), .lit (.int .i64 1000)], .agg [.lit (.int .i64 44032), .lit (.int .i64 55203), .lit (.int .i64 1000)], .agg [.lit (.int .i64 63744), .lit (.int .i64 64255), .lit (.int .i64 1000)], .agg [.lit (.int .i64 65280), .lit (.int .i64 65376), .lit (.int .i64 1000)], .agg [.lit (.int .i64 131072), .lit (.int .i64 262141), .lit (.int .i64 1000)], .agg [.lit (.int .i64 65), .lit (.int .i64 90), .lit (.int .i64 660)], .agg [.lit (.int .i64 33), .lit (.int .i64 126), .lit (.int .i64 500)]] []
def laid_chancery_chanceryref3_sines {H : Type} : DataW H := .agg [.lit (.int .i64 0), .lit (.int .i64 1144), .lit (.int .i64 2287), .lit (.int .i64 3430), .lit (.int .i64 4572), .lit (.int .i64 5712), .lit (.int .i64 6850), .lit (.int .i64 7987), .lit (.int .i64 9121), .lit (.int .i64 10252), .lit (.int .i64 11380), .lit (.int .i64 12505), .lit (.int .i64 13626), .lit (.int .i64 14742), .lit (.int .i64 15855), .lit (.int .i64 16962), .lit (.int .i64 18064), .lit (.int .i64 19161), .lit (.int .i64 20252), .lit (.int .i64 21336), .lit (.int .i64 22415), .lit (.int .i64 23486), .lit (.int .i64 24550), .lit (.int .i64 25607), .lit (.int .i64 26656), .lit (.int .i64 27697), .lit (.int .i64 28729), .lit (.int .i64 29753), .lit (.int .i64 30767), .lit (.int .i64 31772), .lit (.int .i64 32768), .lit (.int .i64 33754), .lit (.int .i64 34729), .lit (.int .i64 35693), .lit (.int .i64 36647), .lit (.int .i64 37590), .lit (.int .i64 38521), .lit (.int .i64 39441), .lit (.int .i64 40348), .lit (.int .i64 41243), .lit (.int .i64 42126), .lit (.int .i64 42995), .lit (.int .i64 43852), .lit (.int .i64 44695), .lit (.int .i64 45525), .lit (.int .i64 46341), .lit (.int .i64 47143), .lit (.int .i64 47930), .lit (.int .i64 48703), .lit (.int .i64 49461), .lit (.int .i64 50203), .lit (.int .i64 50931), .lit (.int .i64 51643), .lit (.int .i64 52339), .lit (.int .i64 53020), .lit (.int .i64 53684), .lit (.int .i64 54332), .lit (.int .i64 54963), .lit (.int .i64 55578), .lit (.int .i64 56175), .lit (.int .i64 56756), .lit (.int .i64 57319), .lit (.int .i64 57865), .lit (.int .i64 58393), .lit (.int .i64 58903), .lit (.int .i64 59396), .lit (.int .i64 59870), .lit (.int .i64 60326), .lit (.int .i64 60764), .lit (.int .i64 61183), .lit (.int .i64 61584), .lit (.int .i64 61966), .lit (.int .i64 62328), .lit (.int .i64 62672), .lit (.int .i64 62997), .lit (.int .i64 63303), .lit (.int .i64 63589), .lit (.int .i64 63856), .lit (.int .i64 64104), .lit (.int .i64 64332), .lit (.int .i64 64540), .lit (.int .i64 64729), .lit (.int .i64 64898), .lit (.int .i64 65048), .lit (.int .i64 65177), .lit (.int .i64 65287), .lit (.int .i64 65376), .lit (.int .i64 65446), .lit (.int .i64 65496), .lit (.int .i64 65526), .lit (.int .i64 65536)]
def laid_chancery_shape_quarter {H : Type} : DataW H := .agg [.lit (.int .i64 0), .lit (.int .i64 1144), .lit (.int .i64 2287), .lit (.int .i64 3430), .lit (.int .i64 4572), .lit (.int .i64 5712), .lit (.int .i64 6850), .lit (.int .i64 7987), .lit (.int .i64 9121), .lit (.int .i64 10252), .lit (.int .i64 11380), .lit (.int .i64 12505), .lit (.int .i64 13626), .lit (.int .i64 14742), .lit (.int .i64 15855), .lit (.int .i64 16962), .lit (.int .i64 18064), .lit (.int .i64 19161), .lit (.int .i64 20252), .lit (.int .i64 21336), .lit (.int .i64 22415), .lit (.int .i64 23486), .lit (.int .i64 24550), .lit (.int .i64 25607), .lit (.int .i64 26656), .lit (.int .i64 27697), .lit (.int .i64 28729), .lit (.int .i64 29753), .lit (.int .i64 30767), .lit (.int .i64 31772), .lit (.int .i64 32768), .lit (.int .i64 33754), .lit (.int .i64 34729), .lit (.int .i64 35693), .lit (.int .i64 36647), .lit (.int .i64 37590), .lit (.int .i64 38521), .lit (.int .i64 39441), .lit (.int .i64 40348), .lit (.int .i64 41243), .lit (.int .i64 42126), .lit (.int .i64 42995), .lit (.int .i64 43852), .lit (.int .i64 44695), .lit (.int .i64 45525), .lit (.int .i64 46341), .lit (.int .i64 47143), .lit (.int .i64 47930), .lit (.int .i64 48703), .lit (.int .i64 49461), .lit (.int .i64 50203), .lit (.int .i64 50931), .lit (.int .i64 51643), .lit (.int .i64 52339), .lit (.int .i64 53020), .lit (.int .i64 53684), .lit (.int .i64 54332), .lit (.int .i64 54963), .lit (.int .i64 55578), .lit (.int .i64 56175), .lit (.int .i64 56756), .lit (.int .i64 57319), .lit (.int .i64 57865), .lit (.int .i64 58393), .lit (.int .i64 58903), .lit (.int .i64 59396), .lit (.int .i64 59870), .lit (.int .i64 60326), .lit (.int .i64 60764), .lit (.int .i64 61183), .lit (.int .i64 61584), .lit (.int .i64 61966), .lit (.int .i64 62328), .lit (.int .i64 62672), .lit (.int .i64 62997), .lit (.int .i64 63303), .lit (.int .i64 63589), .lit (.int .i64 63856), .lit (.int .i64 64104), .lit (.int .i64 64332), .lit (.int .i64 64540), .lit (.int .i64 64729), .lit (.int .i64 64898), .lit (.int .i64 65048), .lit (.int .i64 65177), .lit (.int .i64 65287), .lit (.int .i64 65376), .lit (.int .i64 65446), .lit (.int .i64 65496), .lit (.int .i64 65526), .lit (.int .i64 65536)]

/-- 'chancerylaw3.MetricEms': WHATEVER THE INPUT: true; the input reads as it did. -/
def metricEmsSpec : ChangeSpec := { name := "metricEms", fn := fun _ => fun
  | [d] => { results := [.lit (.bool true)], args := [d] }
  | _ => none }
def metricEmsRow : OpenClaim := { program := "ytnigebnibikolaadoor", sum := "952d8f5f2d05857bc087e3f7a86f094d36169a9ca8ee1a2a9d0ef8c7bf1b42b5", func := "chancery/chancerylaw3.MetricEms", spec := "metricEms", unfollowed := true, recurses := true, named := ["chancery/metric.others", "chancery/metric.marks"], apart := false, laid := [("chancery/metric.marks", laid_chancery_metric_marks), ("chancery/metric.others", laid_chancery_metric_others)] }
def MetricEmsSaid : Prop := metricEmsRow.holds Tryd.pinned (OpenSpec.ofChange metricEmsSpec)

/-- ITS FALSE NEIGHBOUR: 'it returns false'. Refute it at one input. -/
def metricEmsWrong : ChangeSpec := { name := "metricEms", fn := fun _ => fun
  | [d] => { results := [.lit (.bool false)], args := [d] }
  | _ => none }
def MetricEmsWrongFalsely : Prop := metricEmsRow.holds Tryd.pinned (OpenSpec.ofChange metricEmsWrong)

/-- 'chancerylaw3.BreaksPlaces': WHATEVER THE INPUT: true; the input reads as it did. -/
def breaksPlacesSpec : ChangeSpec := { name := "breaksPlaces", fn := fun _ => fun
  | [d] => { results := [.lit (.bool true)], args := [d] }
  | _ => none }
def breaksPlacesRow : OpenClaim := { program := "ytnigebnibikolaadoor", sum := "952d8f5f2d05857bc087e3f7a86f094d36169a9ca8ee1a2a9d0ef8c7bf1b42b5", func := "chancery/chancerylaw3.BreaksPlaces", spec := "breaksPlaces", named := ["chancery/metric.marks"], apart := false, laid := [("chancery/metric.marks", laid_chancery_metric_marks)] }
def BreaksPlacesSaid : Prop := breaksPlacesRow.holds Tryd.pinned (OpenSpec.ofChange breaksPlacesSpec)

/-- ITS FALSE NEIGHBOUR: 'it returns false'. Refute it at one input. -/
def breaksPlacesWrong : ChangeSpec := { name := "breaksPlaces", fn := fun _ => fun
  | [d] => { results := [.lit (.bool false)], args := [d] }
  | _ => none }
def BreaksPlacesWrongFalsely : Prop := breaksPlacesRow.holds Tryd.pinned (OpenSpec.ofChange breaksPlacesWrong)

/-- 'chancerylaw3.MetricWidths': WHATEVER THE INPUT: true; the input reads as it did. -/
def metricWidthsSpec : ChangeSpec := { name := "metricWidths", fn := fun _ => fun
  | [d1, d2, d3, d4] => { results := [.lit (.bool true)], args := [d1, d2, d3, d4] }
  | _ => none }
def metricWidthsRow : OpenClaim := { program := "ytnigebnibikolaadoor", sum := "952d8f5f2d05857bc087e3f7a86f094d36169a9ca8ee1a2a9d0ef8c7bf1b42b5", func := "chancery/chancerylaw3.MetricWidths", spec := "metricWidths", unfollowed := true, recurses := true, named := ["chancery/metric.others", "chancery/metric.marks"], apart := false, laid := [("chancery/metric.marks", laid_chancery_metric_marks), ("chancery/metric.others", laid_chancery_metric_others)] }
def MetricWidthsSaid : Prop := metricWidthsRow.holds Tryd.pinned (OpenSpec.ofChange metricWidthsSpec)

/-- ITS FALSE NEIGHBOUR: 'it returns false'. Refute it at one input. -/
def metricWidthsWrong : ChangeSpec := { name := "metricWidths", fn := fun _ => fun
  | [d1, d2, d3, d4] => { results := [.lit (.bool false)], args := [d1, d2, d3, d4] }
  | _ => none }
def MetricWidthsWrongFalsely : Prop := metricWidthsRow.holds Tryd.pinned (OpenSpec.ofChange metricWidthsWrong)

/-- 'chancerylaw3.MetricFits': WHATEVER THE INPUT: true; the input reads as it did. -/
def metricFitsSpec : ChangeSpec := { name := "metricFits", fn := fun _ => fun
  | [d1, d2, d3] => { results := [.lit (.bool true)], args := [d1, d2, d3] }
  | _ => none }
def metricFitsRow : OpenClaim := { program := "ytnigebnibikolaadoor", sum := "952d8f5f2d05857bc087e3f7a86f094d36169a9ca8ee1a2a9d0ef8c7bf1b42b5", func := "chancery/chancerylaw3.MetricFits", spec := "metricFits", unfollowed := true, recurses := true, named := ["chancery/metric.others", "chancery/metric.marks"], apart := false, laid := [("chancery/metric.marks", laid_chancery_metric_marks), ("chancery/metric.others", laid_chancery_metric_others)] }
def MetricFitsSaid : Prop := metricFitsRow.holds Tryd.pinned (OpenSpec.ofChange metricFitsSpec)

/-- ITS FALSE NEIGHBOUR: 'it returns false'. Refute it at one input. -/
def metricFitsWrong : ChangeSpec := { name := "metricFits", fn := fun _ => fun
  | [d1, d2, d3] => { results := [.lit (.bool false)], args := [d1, d2, d3] }
  | _ => none }
def MetricFitsWrongFalsely : Prop := metricFitsRow.holds Tryd.pinned (OpenSpec.ofChange metricFitsWrong)

/-- 'chancerylaw3.ShapeCorners': WHATEVER THE INPUT: true; the input reads as it did. -/
def shapeCornersSpec : ChangeSpec := { name := "shapeCorners", fn := fun _ => fun
  | [d1, d2] => { results := [.lit (.bool true)], args := [d1, d2] }
  | _ => none }
def shapeCornersRow : OpenClaim := { program := "ytnigebnibikolaadoor", sum := "952d8f5f2d05857bc087e3f7a86f094d36169a9ca8ee1a2a9d0ef8c7bf1b42b5", func := "chancery/chancerylaw3.ShapeCorners", spec := "shapeCorners", unfollowed := true, recurses := true, named := ["chancery/shape.quarter", "chancery/chanceryref3.sines"], apart := false, laid := [("chancery/chanceryref3.sines", laid_chancery_chanceryref3_sines), ("chancery/shape.quarter", laid_chancery_shape_quarter)] }
def ShapeCornersSaid : Prop := shapeCornersRow.holds Tryd.pinned (OpenSpec.ofChange shapeCornersSpec)

/-- ITS FALSE NEIGHBOUR: 'it returns false'. Refute it at one input. -/
def shapeCornersWrong : ChangeSpec := { name := "shapeCorners", fn := fun _ => fun
  | [d1, d2] => { results := [.lit (.bool false)], args := [d1, d2] }
  | _ => none }
def ShapeCornersWrongFalsely : Prop := shapeCornersRow.holds Tryd.pinned (OpenSpec.ofChange shapeCornersWrong)

/-- 'chancerylaw3.ShapeHits': WHATEVER THE INPUT: true; the input reads as it did. -/
def shapeHitsSpec : ChangeSpec := { name := "shapeHits", fn := fun _ => fun
  | [d1, d2] => { results := [.lit (.bool true)], args := [d1, d2] }
  | _ => none }
def shapeHitsRow : OpenClaim := { program := "ytnigebnibikolaadoor", sum := "952d8f5f2d05857bc087e3f7a86f094d36169a9ca8ee1a2a9d0ef8c7bf1b42b5", func := "chancery/chancerylaw3.ShapeHits", spec := "shapeHits", unfollowed := true, recurses := true, named := ["chancery/shape.quarter", "chancery/chanceryref3.sines"], apart := false, laid := [("chancery/chanceryref3.sines", laid_chancery_chanceryref3_sines), ("chancery/shape.quarter", laid_chancery_shape_quarter)] }
def ShapeHitsSaid : Prop := shapeHitsRow.holds Tryd.pinned (OpenSpec.ofChange shapeHitsSpec)

/-- ITS FALSE NEIGHBOUR: 'it returns false'. Refute it at one input. -/
def shapeHitsWrong : ChangeSpec := { name := "shapeHits", fn := fun _ => fun
  | [d1, d2] => { results := [.lit (.bool false)], args := [d1, d2] }
  | _ => none }
def ShapeHitsWrongFalsely : Prop := shapeHitsRow.holds Tryd.pinned (OpenSpec.ofChange shapeHitsWrong)

/- THE SECOND FORM. 'bulk': how many values and letters a reading holds, each counted each time it is reached (what is shared counts as often as it is met; a slice's spare places count too). A statement '..UptoSaid' is the law's where the arguments, and the package variables that the reading takes, are together of bulk at most 1048576: NARROWER than '..Said'. Prove '..Said' where nothing that the law and all that it calls make is longer than what came in: it says more and counts as full. Else prove '..UptoSaid'. A law counts once. -/
mutual
def uptoBulk {H : Type} : DataW H → Nat
  | .lit (.string bytes) => bytes.length + 1
  | .lit _ => 1
  | .nil => 1
  | .ptr d => uptoBulk d + 1
  | .slice elems spare => uptoBulkAll elems + uptoBulkAll spare + 1
  | .agg parts => uptoBulkAll parts + 1
  | .iface _ d => uptoBulk d + 1
  | .map entries => uptoBulkEntries entries + 1
  | .held _ => 1
def uptoBulkAll {H : Type} : List (DataW H) → Nat
  | [] => 0
  | d :: r => uptoBulk d + uptoBulkAll r
def uptoBulkEntries {H : Type} : List (Lit × DataW H) → Nat
  | [] => 0
  | x :: r => uptoBulkEntry x + uptoBulkEntries r
def uptoBulkEntry {H : Type} : Lit × DataW H → Nat
  | (.string bytes, d) => bytes.length + uptoBulk d + 1
  | (_, d) => uptoBulk d + 1
 end
def uptoSmall : (H : Type) → List (DataW H) → Bool := fun _ ds => decide (uptoBulkAll ds ≤ 1048576)
def OpenSpec.upto (s : _root_.Go.ChangeSpec) : _root_.Go.OpenSpec := { _root_.Go.OpenSpec.ofChange s with cond := some uptoSmall }

/-- 'chancerylaw3.MetricEms', WHERE WHAT IT READS IS OF BULK AT MOST 1048576: true; the input reads as it did. -/
def metricEmsUptoRow : OpenClaim := { program := "ytnigebnibikolaadoor", sum := "952d8f5f2d05857bc087e3f7a86f094d36169a9ca8ee1a2a9d0ef8c7bf1b42b5", func := "chancery/chancerylaw3.MetricEms", spec := "metricEms", unfollowed := true, recurses := true, named := ["chancery/metric.others", "chancery/metric.marks"], apart := false, laid := [("chancery/metric.marks", laid_chancery_metric_marks), ("chancery/metric.others", laid_chancery_metric_others)], narrowed := true }
def MetricEmsUptoSaid : Prop := metricEmsUptoRow.holds Tryd.pinned (OpenSpec.upto metricEmsSpec)

/-- 'chancerylaw3.BreaksPlaces', WHERE WHAT IT READS IS OF BULK AT MOST 1048576: true; the input reads as it did. -/
def breaksPlacesUptoRow : OpenClaim := { program := "ytnigebnibikolaadoor", sum := "952d8f5f2d05857bc087e3f7a86f094d36169a9ca8ee1a2a9d0ef8c7bf1b42b5", func := "chancery/chancerylaw3.BreaksPlaces", spec := "breaksPlaces", named := ["chancery/metric.marks"], apart := false, laid := [("chancery/metric.marks", laid_chancery_metric_marks)], narrowed := true }
def BreaksPlacesUptoSaid : Prop := breaksPlacesUptoRow.holds Tryd.pinned (OpenSpec.upto breaksPlacesSpec)

/-- 'chancerylaw3.MetricWidths', WHERE WHAT IT READS IS OF BULK AT MOST 1048576: true; the input reads as it did. -/
def metricWidthsUptoRow : OpenClaim := { program := "ytnigebnibikolaadoor", sum := "952d8f5f2d05857bc087e3f7a86f094d36169a9ca8ee1a2a9d0ef8c7bf1b42b5", func := "chancery/chancerylaw3.MetricWidths", spec := "metricWidths", unfollowed := true, recurses := true, named := ["chancery/metric.others", "chancery/metric.marks"], apart := false, laid := [("chancery/metric.marks", laid_chancery_metric_marks), ("chancery/metric.others", laid_chancery_metric_others)], narrowed := true }
def MetricWidthsUptoSaid : Prop := metricWidthsUptoRow.holds Tryd.pinned (OpenSpec.upto metricWidthsSpec)

/-- 'chancerylaw3.MetricFits', WHERE WHAT IT READS IS OF BULK AT MOST 1048576: true; the input reads as it did. -/
def metricFitsUptoRow : OpenClaim := { program := "ytnigebnibikolaadoor", sum := "952d8f5f2d05857bc087e3f7a86f094d36169a9ca8ee1a2a9d0ef8c7bf1b42b5", func := "chancery/chancerylaw3.MetricFits", spec := "metricFits", unfollowed := true, recurses := true, named := ["chancery/metric.others", "chancery/metric.marks"], apart := false, laid := [("chancery/metric.marks", laid_chancery_metric_marks), ("chancery/metric.others", laid_chancery_metric_others)], narrowed := true }
def MetricFitsUptoSaid : Prop := metricFitsUptoRow.holds Tryd.pinned (OpenSpec.upto metricFitsSpec)

/-- 'chancerylaw3.ShapeCorners', WHERE WHAT IT READS IS OF BULK AT MOST 1048576: true; the input reads as it did. -/
def shapeCornersUptoRow : OpenClaim := { program := "ytnigebnibikolaadoor", sum := "952d8f5f2d05857bc087e3f7a86f094d36169a9ca8ee1a2a9d0ef8c7bf1b42b5", func := "chancery/chancerylaw3.ShapeCorners", spec := "shapeCorners", unfollowed := true, recurses := true, named := ["chancery/shape.quarter", "chancery/chanceryref3.sines"], apart := false, laid := [("chancery/chanceryref3.sines", laid_chancery_chanceryref3_sines), ("chancery/shape.quarter", laid_chancery_shape_quarter)], narrowed := true }
def ShapeCornersUptoSaid : Prop := shapeCornersUptoRow.holds Tryd.pinned (OpenSpec.upto shapeCornersSpec)

/-- 'chancerylaw3.ShapeHits', WHERE WHAT IT READS IS OF BULK AT MOST 1048576: true; the input reads as it did. -/
def shapeHitsUptoRow : OpenClaim := { program := "ytnigebnibikolaadoor", sum := "952d8f5f2d05857bc087e3f7a86f094d36169a9ca8ee1a2a9d0ef8c7bf1b42b5", func := "chancery/chancerylaw3.ShapeHits", spec := "shapeHits", unfollowed := true, recurses := true, named := ["chancery/shape.quarter", "chancery/chanceryref3.sines"], apart := false, laid := [("chancery/chanceryref3.sines", laid_chancery_chanceryref3_sines), ("chancery/shape.quarter", laid_chancery_shape_quarter)], narrowed := true }
def ShapeHitsUptoSaid : Prop := shapeHitsUptoRow.holds Tryd.pinned (OpenSpec.upto shapeHitsSpec)

end Rows
end Go.Proofs.YtnigebnibikolaaDoor
