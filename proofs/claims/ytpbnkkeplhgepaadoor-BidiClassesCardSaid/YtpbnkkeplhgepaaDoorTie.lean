/-
  DERIVED. GIVEN WITH THE SEED: THE PROGRAM's TIES (one call each: nine closed facts by the kernel) AND EACH ROW's TIE, after the 31st guide's Derived/Test/Toyas{Tie, Card}.lean. No idea stands in it: it is a product of the set-up. Laid BY PROGRAM, IN A SANDBOX (cutbox-door.mjs). By AI agents, Wed Nov 11 2026. No macro, syntax, notation, axiom, sorry.
-/
import Derived.Test.YtpbnkkeplhgepaaDoorRows
import Derived.LaidByTextLater
import Derived.SevenTiedAt
import Derived.LaidSub
import Derived.LaidOnce
namespace Go.Proofs.YtpbnkkeplhgepaaDoor
open Go
set_option maxRecDepth 100000
theorem seatTie1 : Tryd.prog.laidByTextLater [("chancery/bidi.table", Rows.laid_chancery_bidi_table), ("chancery/bidi.brackets", Rows.laid_chancery_bidi_brackets), ("chancery/pattern.cases", Rows.laid_chancery_pattern_cases), ("chancery/pattern.letters", Rows.laid_chancery_pattern_letters)] [.data, .widerDeep, .data, .widerDeep] true :=
  Program.laidByTextLater_by_one 114 8 196 (by kernel_rfl) (by kernel_rfl) (by kernel_rfl) (by kernel_rfl) (by kernel_rfl) (by kernel_rfl) (fun _ _ => by kernel_rfl)
theorem noOwnUnsafe : Tryd.pinned.checked.prog.headLifts.contains "ownunsafe" = false := by kernel_rfl
theorem tie : Tryd.prog.laidByTextLater [("chancery/pattern.cases", Rows.laid_chancery_pattern_cases), ("chancery/pattern.letters", Rows.laid_chancery_pattern_letters)] [.data, .widerDeep] true :=
  Program.laidByTextLater.sub seatTie1 ["chancery/pattern.cases", "chancery/pattern.letters"] (by kernel_rfl) (by kernel_rfl)
theorem patternCharacters_row_tie : Rows.patternCharactersRow.laidByTextAt .later Tryd.pinned [.data, .widerDeep] true :=
  OpenClaim.laidByTextAt_later rfl rfl tie noOwnUnsafe
theorem tie2 : Tryd.prog.laidByTextLater [("chancery/bidi.table", Rows.laid_chancery_bidi_table), ("chancery/bidi.brackets", Rows.laid_chancery_bidi_brackets)] [.data, .widerDeep] true :=
  Program.laidByTextLater.sub seatTie1 ["chancery/bidi.table", "chancery/bidi.brackets"] (by kernel_rfl) (by kernel_rfl)
theorem bidiClasses_row_tie : Rows.bidiClassesRow.laidByTextAt .later Tryd.pinned [.data, .widerDeep] true :=
  OpenClaim.laidByTextAt_later rfl rfl tie2 noOwnUnsafe
theorem patternCharactersUpto_row_tie : Rows.patternCharactersUptoRow.laidByTextAt .later Tryd.pinned [.data, .widerDeep] true :=
  OpenClaim.laidByTextAt_later rfl rfl tie noOwnUnsafe
theorem bidiClassesUpto_row_tie : Rows.bidiClassesUptoRow.laidByTextAt .later Tryd.pinned [.data, .widerDeep] true :=
  OpenClaim.laidByTextAt_later rfl rfl tie2 noOwnUnsafe
end Go.Proofs.YtpbnkkeplhgepaaDoor
