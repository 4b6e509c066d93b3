/-
  DERIVED. GIVEN WITH THE SEED: THE CARDS: each row of YtpbnkkeplhgepaaDoorRows.lean that lists a variable, with what it lists TIED to the program's text (the seventh form; the later family's looks); each row that meets fmt, with fmt's text TOLD by the authors' own Lean function (tested against real Go, not proved from fmt's source: count such statements apart). THE CARD IS WHAT COUNTS. Prove the row's statement (the work); the ties are given (YtpbnkkeplhgepaaDoorTie.lean); close each card by the builder's one call (the guide's Derived/Test/ToyasCard.lean, 'card_holds'). Laid BY PROGRAM, IN A SANDBOX (cutbox-door.mjs). By AI agents, Wed Nov 11 2026. No macro, syntax, notation, axiom, sorry.
-/
import Derived.Test.YtpbnkkeplhgepaaDoorRows
import GoSem.ClaimSeven
namespace Go.Proofs.YtpbnkkeplhgepaaDoor
namespace Rows

/-- THE TIED CARD OF 'chancerylaw3.PatternCharacters'. -/
def patternCharactersCard : Claim7 := { stood := { row := patternCharactersRow, standIns := [], harness := (true, "5c182bad79c9510469a50d3d27a27c246663bb55ab58b4a765a06d17f2eb9111"), looks := false }, kinds := [], alts := [], laidByText := true, laidKinds := [.data, .widerDeep], laidTests := true, laidLooks := .later }
def PatternCharactersCardSaid : Prop := Claim7.holds Tryd.pinned (.plain (OpenSpec.ofChange patternCharactersSpec)) patternCharactersCard

/-- THE TIED CARD OF 'chancerylaw3.BidiClasses'. -/
def bidiClassesCard : Claim7 := { stood := { row := bidiClassesRow, standIns := [], harness := (true, "5c182bad79c9510469a50d3d27a27c246663bb55ab58b4a765a06d17f2eb9111"), looks := false }, kinds := [], alts := [], laidByText := true, laidKinds := [.data, .widerDeep], laidTests := true, laidLooks := .later }
def BidiClassesCardSaid : Prop := Claim7.holds Tryd.pinned (.plain (OpenSpec.ofChange bidiClassesSpec)) bidiClassesCard

/-- THE SECOND FORM's CARD OF 'chancerylaw3.PatternCharacters'. -/
def patternCharactersUptoCard : Claim7 := { stood := { row := patternCharactersUptoRow, standIns := [], harness := (true, "5c182bad79c9510469a50d3d27a27c246663bb55ab58b4a765a06d17f2eb9111"), looks := false }, kinds := [], alts := [], laidByText := true, laidKinds := [.data, .widerDeep], laidTests := true, laidLooks := .later }
def PatternCharactersUptoCardSaid : Prop := Claim7.holds Tryd.pinned (.plain (OpenSpec.upto patternCharactersSpec)) patternCharactersUptoCard

/-- THE SECOND FORM's CARD OF 'chancerylaw3.BidiClasses'. -/
def bidiClassesUptoCard : Claim7 := { stood := { row := bidiClassesUptoRow, standIns := [], harness := (true, "5c182bad79c9510469a50d3d27a27c246663bb55ab58b4a765a06d17f2eb9111"), looks := false }, kinds := [], alts := [], laidByText := true, laidKinds := [.data, .widerDeep], laidTests := true, laidLooks := .later }
def BidiClassesUptoCardSaid : Prop := Claim7.holds Tryd.pinned (.plain (OpenSpec.upto bidiClassesSpec)) bidiClassesUptoCard
end Rows
end Go.Proofs.YtpbnkkeplhgepaaDoor
