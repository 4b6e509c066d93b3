/-
  DERIVED. GIVEN WITH THE SEED: THE PROGRAM's TIES (one call each: nine closed facts by the kernel) AND EACH ROW's TIE, after the 31st guide's Derived/Test/Toyas{Tie, Card}.lean. No idea stands in it: it is a product of the set-up. Laid BY PROGRAM, IN A SANDBOX (cutbox-door.mjs). By AI agents, Wed Nov 11 2026. No macro, syntax, notation, axiom, sorry.
-/
import Derived.Test.YtojbicdmcodgdaaDoorRows
import Derived.LaidByTextLater
import Derived.SevenTiedAt
import Derived.LaidSub
import Derived.LaidOnce
namespace Go.Proofs.YtojbicdmcodgdaaDoor
open Go
set_option maxRecDepth 100000
theorem seatTie1 : Tryd.prog.laidByTextLater [("chancery/bidi.table", Rows.laid_chancery_bidi_table), ("chancery/bidi.brackets", Rows.laid_chancery_bidi_brackets), ("chancery/chanceryref3.couple", Rows.laid_chancery_chanceryref3_couple)] [.data, .widerDeep, .data] true :=
  Program.laidByTextLater_by_one 100 8 196 (by kernel_rfl) (by kernel_rfl) (by kernel_rfl) (by kernel_rfl) (by kernel_rfl) (by kernel_rfl) (fun _ _ => by kernel_rfl)
theorem noOwnUnsafe : Tryd.pinned.checked.prog.headLifts.contains "ownunsafe" = false := by kernel_rfl
theorem tie : Tryd.prog.laidByTextLater [("chancery/bidi.table", Rows.laid_chancery_bidi_table), ("chancery/bidi.brackets", Rows.laid_chancery_bidi_brackets), ("chancery/chanceryref3.couple", Rows.laid_chancery_chanceryref3_couple)] [.data, .widerDeep, .data] true :=
  Program.laidByTextLater.sub seatTie1 ["chancery/bidi.table", "chancery/bidi.brackets", "chancery/chanceryref3.couple"] (by kernel_rfl) (by kernel_rfl)
theorem bidiLevelsMatchReference_row_tie : Rows.bidiLevelsMatchReferenceRow.laidByTextAt .later Tryd.pinned [.data, .widerDeep, .data] true :=
  OpenClaim.laidByTextAt_later rfl rfl tie noOwnUnsafe
theorem bidiLevelsMatchReferenceUpto_row_tie : Rows.bidiLevelsMatchReferenceUptoRow.laidByTextAt .later Tryd.pinned [.data, .widerDeep, .data] true :=
  OpenClaim.laidByTextAt_later rfl rfl tie noOwnUnsafe
end Go.Proofs.YtojbicdmcodgdaaDoor
