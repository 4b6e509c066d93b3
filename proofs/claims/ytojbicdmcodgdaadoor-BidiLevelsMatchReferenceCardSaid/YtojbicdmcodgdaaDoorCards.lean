/-
  DERIVED. GIVEN WITH THE SEED: THE CARDS: each row of YtojbicdmcodgdaaDoorRows.lean that lists a variable, with what it lists TIED to the program's text (the seventh form; the later family's looks); each row that meets fmt, with fmt's text TOLD by the authors' own Lean function (tested against real Go, not proved from fmt's source: count such statements apart). THE CARD IS WHAT COUNTS. Prove the row's statement (the work); the ties are given (YtojbicdmcodgdaaDoorTie.lean); close each card by the builder's one call (the guide's Derived/Test/ToyasCard.lean, 'card_holds'). Laid BY PROGRAM, IN A SANDBOX (cutbox-door.mjs). By AI agents, Wed Nov 11 2026. No macro, syntax, notation, axiom, sorry.
-/
import Derived.Test.YtojbicdmcodgdaaDoorRows
import GoSem.ClaimSeven
namespace Go.Proofs.YtojbicdmcodgdaaDoor
namespace Rows

/-- THE TIED CARD OF 'chancerylaw3.BidiLevelsMatchReference'. -/
def bidiLevelsMatchReferenceCard : Claim7 := { stood := { row := bidiLevelsMatchReferenceRow, standIns := [], harness := (true, "60661490cea00821142d4bbc38c54c8905eb18144d45661577d258f850bca7b9"), looks := false }, kinds := [], alts := [], laidByText := true, laidKinds := [.data, .widerDeep, .data], laidTests := true, laidLooks := .later }
def BidiLevelsMatchReferenceCardSaid : Prop := Claim7.holds Tryd.pinned (.plain (OpenSpec.ofChange bidiLevelsMatchReferenceSpec)) bidiLevelsMatchReferenceCard

/-- THE SECOND FORM's CARD OF 'chancerylaw3.BidiLevelsMatchReference'. -/
def bidiLevelsMatchReferenceUptoCard : Claim7 := { stood := { row := bidiLevelsMatchReferenceUptoRow, standIns := [], harness := (true, "60661490cea00821142d4bbc38c54c8905eb18144d45661577d258f850bca7b9"), looks := false }, kinds := [], alts := [], laidByText := true, laidKinds := [.data, .widerDeep, .data], laidTests := true, laidLooks := .later }
def BidiLevelsMatchReferenceUptoCardSaid : Prop := Claim7.holds Tryd.pinned (.plain (OpenSpec.upto bidiLevelsMatchReferenceSpec)) bidiLevelsMatchReferenceUptoCard
end Rows
end Go.Proofs.YtojbicdmcodgdaaDoor
