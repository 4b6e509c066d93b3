/-
  DERIVED. GIVEN WITH THE SEED: THE CARDS: each row of YtghbicajcffjhaaDoorRows.lean that lists a variable, with what it lists TIED to the program's text (the seventh form; the later family's looks); each row that meets fmt, with fmt's text TOLD by the authors' own Lean function (tested against real Go, not proved from fmt's source: count such statements apart). THE CARD IS WHAT COUNTS. Prove the row's statement (the work); the ties are given (YtghbicajcffjhaaDoorTie.lean); close each card by the builder's one call (the guide's Derived/Test/ToyasCard.lean, 'card_holds'). Laid BY PROGRAM, IN A SANDBOX (cutbox-door.mjs). By AI agents, Wed Nov 11 2026. No macro, syntax, notation, axiom, sorry.
-/
import Derived.Test.YtghbicajcffjhaaDoorRows
import GoSem.ClaimSeven
namespace Go.Proofs.YtghbicajcffjhaaDoor
namespace Rows

/-- THE TIED CARD OF 'chancerylaw3.PatternCheckMatchesReference'. -/
def patternCheckMatchesReferenceCard : Claim7 := { stood := { row := patternCheckMatchesReferenceRow, standIns := [], harness := (true, "802732f88cb4da6d6d1de6cf01fa754b0d71a0280a25e2ddb7d78841dfc293e7"), looks := true }, kinds := [], alts := [], laidByText := true, laidKinds := [.data, .data, .data, .widerDeep, .widerDeep, .widerDeep], laidTests := true, laidLooks := .later }
def PatternCheckMatchesReferenceCardSaid : Prop := Claim7.holds Tryd.pinned (.plain (OpenSpec.ofChange patternCheckMatchesReferenceSpec)) patternCheckMatchesReferenceCard

/-- THE TIED CARD OF 'chancerylaw3.HyphenPlaces'. -/
def hyphenPlacesCard : Claim7 := { stood := { row := hyphenPlacesRow, standIns := [], harness := (true, "802732f88cb4da6d6d1de6cf01fa754b0d71a0280a25e2ddb7d78841dfc293e7"), looks := true }, kinds := [], alts := [], laidByText := true, laidKinds := [.data, .data, .pinned], laidTests := true, laidLooks := .later }
def HyphenPlacesCardSaid : Prop := Claim7.holds Tryd.pinned (.plain (OpenSpec.ofChange hyphenPlacesSpec)) hyphenPlacesCard

/-- THE TIED CARD OF 'chancerylaw3.ShapeOfItems'. -/
def shapeOfItemsCard : Claim7 := { stood := { row := shapeOfItemsRow, standIns := [], harness := (true, "802732f88cb4da6d6d1de6cf01fa754b0d71a0280a25e2ddb7d78841dfc293e7"), looks := true }, kinds := [], alts := [], laidByText := true, laidKinds := [.data, .data, .data, .sentinel, .sentinel, .data], laidTests := true, laidLooks := .later }
def ShapeOfItemsCardSaid : Prop := Claim7.holds Tryd.pinned (.plain (OpenSpec.ofChange shapeOfItemsSpec)) shapeOfItemsCard

/-- THE SECOND FORM's CARD OF 'chancerylaw3.PatternCheckMatchesReference'. -/
def patternCheckMatchesReferenceUptoCard : Claim7 := { stood := { row := patternCheckMatchesReferenceUptoRow, standIns := [], harness := (true, "802732f88cb4da6d6d1de6cf01fa754b0d71a0280a25e2ddb7d78841dfc293e7"), looks := true }, kinds := [], alts := [], laidByText := true, laidKinds := [.data, .data, .data, .widerDeep, .widerDeep, .widerDeep], laidTests := true, laidLooks := .later }
def PatternCheckMatchesReferenceUptoCardSaid : Prop := Claim7.holds Tryd.pinned (.plain (OpenSpec.upto patternCheckMatchesReferenceSpec)) patternCheckMatchesReferenceUptoCard

/-- THE SECOND FORM's CARD OF 'chancerylaw3.HyphenPlaces'. -/
def hyphenPlacesUptoCard : Claim7 := { stood := { row := hyphenPlacesUptoRow, standIns := [], harness := (true, "802732f88cb4da6d6d1de6cf01fa754b0d71a0280a25e2ddb7d78841dfc293e7"), looks := true }, kinds := [], alts := [], laidByText := true, laidKinds := [.data, .data, .pinned], laidTests := true, laidLooks := .later }
def HyphenPlacesUptoCardSaid : Prop := Claim7.holds Tryd.pinned (.plain (OpenSpec.upto hyphenPlacesSpec)) hyphenPlacesUptoCard

/-- THE SECOND FORM's CARD OF 'chancerylaw3.ShapeOfItems'. -/
def shapeOfItemsUptoCard : Claim7 := { stood := { row := shapeOfItemsUptoRow, standIns := [], harness := (true, "802732f88cb4da6d6d1de6cf01fa754b0d71a0280a25e2ddb7d78841dfc293e7"), looks := true }, kinds := [], alts := [], laidByText := true, laidKinds := [.data, .data, .data, .sentinel, .sentinel, .data], laidTests := true, laidLooks := .later }
def ShapeOfItemsUptoCardSaid : Prop := Claim7.holds Tryd.pinned (.plain (OpenSpec.upto shapeOfItemsSpec)) shapeOfItemsUptoCard
end Rows
end Go.Proofs.YtghbicajcffjhaaDoor
