/-
  DERIVED. GIVEN WITH THE SEED: THE CARDS: each row of YtnigebnibikolaaDoorRows.lean that lists a variable, with what it lists TIED to the program's text (the seventh form; the later family's looks); each row that meets fmt, with fmt's text TOLD by the authors' own Lean function (tested against real Go, not proved from fmt's source: count such statements apart). THE CARD IS WHAT COUNTS. Prove the row's statement (the work); the ties are given (YtnigebnibikolaaDoorTie.lean); close each card by the builder's one call (the guide's Derived/Test/ToyasCard.lean, 'card_holds'). Laid BY PROGRAM, IN A SANDBOX (cutbox-door.mjs). By AI agents, Wed Nov 11 2026. No macro, syntax, notation, axiom, sorry.
-/
import Derived.Test.YtnigebnibikolaaDoorRows
import GoSem.ClaimSeven
namespace Go.Proofs.YtnigebnibikolaaDoor
namespace Rows

/-- THE TIED CARD OF 'chancerylaw3.MetricEms'. -/
def metricEmsCard : Claim7 := { stood := { row := metricEmsRow, standIns := [], harness := (true, "59adffc52283c23605d60962f9c4d91346e6784abc6dd9dc5e745748dd29c457"), looks := false }, kinds := [], alts := [], laidByText := true, laidKinds := [.widerDeep, .widerDeep], laidTests := true, laidLooks := .later }
def MetricEmsCardSaid : Prop := Claim7.holds Tryd.pinned (.plain (OpenSpec.ofChange metricEmsSpec)) metricEmsCard

/-- THE TIED CARD OF 'chancerylaw3.BreaksPlaces'. -/
def breaksPlacesCard : Claim7 := { stood := { row := breaksPlacesRow, standIns := [], harness := (true, "59adffc52283c23605d60962f9c4d91346e6784abc6dd9dc5e745748dd29c457"), looks := false }, kinds := [], alts := [], laidByText := true, laidKinds := [.widerDeep], laidTests := true, laidLooks := .later }
def BreaksPlacesCardSaid : Prop := Claim7.holds Tryd.pinned (.plain (OpenSpec.ofChange breaksPlacesSpec)) breaksPlacesCard

/-- THE TIED CARD OF 'chancerylaw3.MetricWidths'. -/
def metricWidthsCard : Claim7 := { stood := { row := metricWidthsRow, standIns := [], harness := (true, "59adffc52283c23605d60962f9c4d91346e6784abc6dd9dc5e745748dd29c457"), looks := false }, kinds := [], alts := [], laidByText := true, laidKinds := [.widerDeep, .widerDeep], laidTests := true, laidLooks := .later }
def MetricWidthsCardSaid : Prop := Claim7.holds Tryd.pinned (.plain (OpenSpec.ofChange metricWidthsSpec)) metricWidthsCard

/-- THE TIED CARD OF 'chancerylaw3.MetricFits'. -/
def metricFitsCard : Claim7 := { stood := { row := metricFitsRow, standIns := [], harness := (true, "59adffc52283c23605d60962f9c4d91346e6784abc6dd9dc5e745748dd29c457"), looks := false }, kinds := [], alts := [], laidByText := true, laidKinds := [.widerDeep, .widerDeep], laidTests := true, laidLooks := .later }
def MetricFitsCardSaid : Prop := Claim7.holds Tryd.pinned (.plain (OpenSpec.ofChange metricFitsSpec)) metricFitsCard

/-- THE TIED CARD OF 'chancerylaw3.ShapeCorners'. -/
def shapeCornersCard : Claim7 := { stood := { row := shapeCornersRow, standIns := [], harness := (true, "59adffc52283c23605d60962f9c4d91346e6784abc6dd9dc5e745748dd29c457"), looks := false }, kinds := [], alts := [], laidByText := true, laidKinds := [.data, .data], laidTests := true, laidLooks := .later }
def ShapeCornersCardSaid : Prop := Claim7.holds Tryd.pinned (.plain (OpenSpec.ofChange shapeCornersSpec)) shapeCornersCard

/-- THE TIED CARD OF 'chancerylaw3.ShapeHits'. -/
def shapeHitsCard : Claim7 := { stood := { row := shapeHitsRow, standIns := [], harness := (true, "59adffc52283c23605d60962f9c4d91346e6784abc6dd9dc5e745748dd29c457"), looks := false }, kinds := [], alts := [], laidByText := true, laidKinds := [.data, .data], laidTests := true, laidLooks := .later }
def ShapeHitsCardSaid : Prop := Claim7.holds Tryd.pinned (.plain (OpenSpec.ofChange shapeHitsSpec)) shapeHitsCard

/-- THE SECOND FORM's CARD OF 'chancerylaw3.MetricEms'. -/
def metricEmsUptoCard : Claim7 := { stood := { row := metricEmsUptoRow, standIns := [], harness := (true, "59adffc52283c23605d60962f9c4d91346e6784abc6dd9dc5e745748dd29c457"), looks := false }, kinds := [], alts := [], laidByText := true, laidKinds := [.widerDeep, .widerDeep], laidTests := true, laidLooks := .later }
def MetricEmsUptoCardSaid : Prop := Claim7.holds Tryd.pinned (.plain (OpenSpec.upto metricEmsSpec)) metricEmsUptoCard

/-- THE SECOND FORM's CARD OF 'chancerylaw3.BreaksPlaces'. -/
def breaksPlacesUptoCard : Claim7 := { stood := { row := breaksPlacesUptoRow, standIns := [], harness := (true, "59adffc52283c23605d60962f9c4d91346e6784abc6dd9dc5e745748dd29c457"), looks := false }, kinds := [], alts := [], laidByText := true, laidKinds := [.widerDeep], laidTests := true, laidLooks := .later }
def BreaksPlacesUptoCardSaid : Prop := Claim7.holds Tryd.pinned (.plain (OpenSpec.upto breaksPlacesSpec)) breaksPlacesUptoCard

/-- THE SECOND FORM's CARD OF 'chancerylaw3.MetricWidths'. -/
def metricWidthsUptoCard : Claim7 := { stood := { row := metricWidthsUptoRow, standIns := [], harness := (true, "59adffc52283c23605d60962f9c4d91346e6784abc6dd9dc5e745748dd29c457"), looks := false }, kinds := [], alts := [], laidByText := true, laidKinds := [.widerDeep, .widerDeep], laidTests := true, laidLooks := .later }
def MetricWidthsUptoCardSaid : Prop := Claim7.holds Tryd.pinned (.plain (OpenSpec.upto metricWidthsSpec)) metricWidthsUptoCard

/-- THE SECOND FORM's CARD OF 'chancerylaw3.MetricFits'. -/
def metricFitsUptoCard : Claim7 := { stood := { row := metricFitsUptoRow, standIns := [], harness := (true, "59adffc52283c23605d60962f9c4d91346e6784abc6dd9dc5e745748dd29c457"), looks := false }, kinds := [], alts := [], laidByText := true, laidKinds := [.widerDeep, .widerDeep], laidTests := true, laidLooks := .later }
def MetricFitsUptoCardSaid : Prop := Claim7.holds Tryd.pinned (.plain (OpenSpec.upto metricFitsSpec)) metricFitsUptoCard

/-- THE SECOND FORM's CARD OF 'chancerylaw3.ShapeCorners'. -/
def shapeCornersUptoCard : Claim7 := { stood := { row := shapeCornersUptoRow, standIns := [], harness := (true, "59adffc52283c23605d60962f9c4d91346e6784abc6dd9dc5e745748dd29c457"), looks := false }, kinds := [], alts := [], laidByText := true, laidKinds := [.data, .data], laidTests := true, laidLooks := .later }
def ShapeCornersUptoCardSaid : Prop := Claim7.holds Tryd.pinned (.plain (OpenSpec.upto shapeCornersSpec)) shapeCornersUptoCard

/-- THE SECOND FORM's CARD OF 'chancerylaw3.ShapeHits'. -/
def shapeHitsUptoCard : Claim7 := { stood := { row := shapeHitsUptoRow, standIns := [], harness := (true, "59adffc52283c23605d60962f9c4d91346e6784abc6dd9dc5e745748dd29c457"), looks := false }, kinds := [], alts := [], laidByText := true, laidKinds := [.data, .data], laidTests := true, laidLooks := .later }
def ShapeHitsUptoCardSaid : Prop := Claim7.holds Tryd.pinned (.plain (OpenSpec.upto shapeHitsSpec)) shapeHitsUptoCard
end Rows
end Go.Proofs.YtnigebnibikolaaDoor
