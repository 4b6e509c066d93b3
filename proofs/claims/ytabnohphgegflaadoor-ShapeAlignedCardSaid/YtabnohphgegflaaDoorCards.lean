/-
  DERIVED. GIVEN WITH THE SEED: THE CARDS: each row of YtabnohphgegflaaDoorRows.lean that lists a variable, with what it lists TIED to the program's text (the seventh form; the later family's looks); each row that meets fmt, with fmt's text TOLD by the authors' own Lean function (tested against real Go, not proved from fmt's source: count such statements apart). THE CARD IS WHAT COUNTS. Prove the row's statement (the work); the ties are given (YtabnohphgegflaaDoorTie.lean); close each card by the builder's one call (the guide's Derived/Test/ToyasCard.lean, 'card_holds'). Laid BY PROGRAM, IN A SANDBOX (cutbox-door.mjs). By AI agents, Wed Nov 11 2026. No macro, syntax, notation, axiom, sorry.
-/
import Derived.Test.YtabnohphgegflaaDoorRows
import GoSem.ClaimSeven
namespace Go.Proofs.YtabnohphgegflaaDoor
namespace Rows

/-- THE TIED CARD OF 'chancerylaw3.PrintingRanges'. -/
def printingRangesCard : Claim7 := { stood := { row := printingRangesRow, standIns := [], harness := (true, "979e91d3c788e6998f607052b876aeaec87eaf95845a57843a7ddc6bb276700a"), looks := true }, kinds := [], alts := [], laidByText := true, laidKinds := [.data, .data, .data, .data, .sentinel, .sentinel, .pinned], laidTests := true, laidLooks := .later }
def PrintingRangesCardSaid : Prop := Claim7.holds Tryd.pinned (.plain (OpenSpec.ofChange printingRangesSpec)) printingRangesCard

/-- THE TIED CARD OF 'chancerylaw3.ShapeAligned'. -/
def shapeAlignedCard : Claim7 := { stood := { row := shapeAlignedRow, standIns := [], harness := (true, "979e91d3c788e6998f607052b876aeaec87eaf95845a57843a7ddc6bb276700a"), looks := true }, kinds := [], alts := [], laidByText := true, laidKinds := [.data, .data], laidTests := true, laidLooks := .later }
def ShapeAlignedCardSaid : Prop := Claim7.holds Tryd.pinned (.plain (OpenSpec.ofChange shapeAlignedSpec)) shapeAlignedCard

/-- THE SECOND FORM's CARD OF 'chancerylaw3.PrintingRanges'. -/
def printingRangesUptoCard : Claim7 := { stood := { row := printingRangesUptoRow, standIns := [], harness := (true, "979e91d3c788e6998f607052b876aeaec87eaf95845a57843a7ddc6bb276700a"), looks := true }, kinds := [], alts := [], laidByText := true, laidKinds := [.data, .data, .data, .data, .sentinel, .sentinel, .pinned], laidTests := true, laidLooks := .later }
def PrintingRangesUptoCardSaid : Prop := Claim7.holds Tryd.pinned (.plain (OpenSpec.upto printingRangesSpec)) printingRangesUptoCard

/-- THE SECOND FORM's CARD OF 'chancerylaw3.ShapeAligned'. -/
def shapeAlignedUptoCard : Claim7 := { stood := { row := shapeAlignedUptoRow, standIns := [], harness := (true, "979e91d3c788e6998f607052b876aeaec87eaf95845a57843a7ddc6bb276700a"), looks := true }, kinds := [], alts := [], laidByText := true, laidKinds := [.data, .data], laidTests := true, laidLooks := .later }
def ShapeAlignedUptoCardSaid : Prop := Claim7.holds Tryd.pinned (.plain (OpenSpec.upto shapeAlignedSpec)) shapeAlignedUptoCard
end Rows
end Go.Proofs.YtabnohphgegflaaDoor
