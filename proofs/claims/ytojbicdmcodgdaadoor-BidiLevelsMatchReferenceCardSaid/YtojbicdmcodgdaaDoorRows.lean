/-
  NARROWER THAN 'FOR EVERY INPUT', by the rows' own cells (each row's printed sentence says how): BidiLevelsMatchReference: laid.
  DERIVED. THE GIVEN ROWS OF THIS SEAT. 1 by the template 'for every input the law returns true; each argument reads behind the call as it read before'; 0 by the template 'total and deterministic' (their statements: YtojbicdmcodgdaaDoorTotals.lean).
  GIVEN WITH THE SEED: the statements are not yours to turn. If you find one false, say at which input.
  Laid BY PROGRAM, IN A SANDBOX (cutbox-rows.mjs): the forced cells as the released guide's own fill.sh prints them over the translation 89c048bdcd4b9a97… (all of the seat's roots in one cut). By AI agents, Wed Nov 11 2026. No macro, syntax, notation, axiom, sorry.
-/
import Derived.Test.YtojbicdmcodgdaaDoorChecked
import GoSem.Claim
import GoSem.ClaimJoined
import GoSem.ClaimMapViews
import Derived.JoinedTies
import Derived.KernelRfl
namespace Go.Proofs.YtojbicdmcodgdaaDoor
/- THE CELL 'sum', in the pinned program and in every row, IS THE sha256 OF THE DUMP (.gsa) THAT YtojbicdmcodgdaaDoorProg.lean LOADS. Nothing in Lean hashes anything: it is a label: what it is worth is what the hold of that sum in a sandbox is worth. -/
noncomputable def Tryd.pinned : Pinned := { name := "ytojbicdmcodgdaadoor", sum := "89c048bdcd4b9a97ec53aeefaef53d81874e471a009fd2430b67466210b67ceb", checked := Tryd.checked }
namespace Rows
def none {H : Type} : Left H := { results := [], args := [] }

/- WHAT THE LISTED PACKAGE-LEVEL VARIABLES READ AS WHEN THE CALL BEGINS. Each datum BY PROGRAM (the guide's laid-datum.mjs) off the statement by which the dump's own 'gosem.cut.vars' lays the variable. In a bare row this is a premise. The card (YtojbicdmcodgdaaDoorCards.lean) ties it to the program's text. -/
def laid_chancery_bidi_table {H : Type} : DataW H := .slice [.agg [.lit (.int .i64 9), .lit (.int .i64 9), .lit (.int .i64 11)], .agg [.lit (.int .i64 10), .lit (.int .i64 10), .lit (.int .i64 10)], .agg [.lit (.int .i64 0), .lit (.int .i64 31), .lit (.int .i64 9)], .agg [.lit (.int .i64 32), .lit (.int .i64 32), .lit (.int .i64 12)], .agg [.lit (.int .i64 35), .lit (.int .i64 37), .lit (.int .i64 5)], .agg [.lit (.int .i64 43), .lit (.int .i64 43), .lit (.int .i64 4)], .agg [.lit (.int .i64 45), .lit (.int .i64 45), .lit (.int .i64 4)], .agg [.lit (.int .i64 44), .lit (.int .i64 44), .lit (.int .i64 7)], .agg [.lit (.int .i64 46), .lit (.int .i64 47), .lit (.int .i64 7)], .agg [.lit (.int .i64 58), .lit (.int .i64 58), .lit (.int .i64 7)], .agg [.lit (.int .i64 48), .lit (.int .i64 57), .lit (.int .i64 3)], .agg [.lit (.int .i64 33), .lit (.int .i64 64), .lit (.int .i64 13)], .agg [.lit (.int .i64 91), .lit (.int .i64 96), .lit (.int .i64 13)], .agg [.lit (.int .i64 123), .lit (.int .i64 126), .lit (.int .i64 13)], .agg [.lit (.int .i64 127), .lit (.int .i64 159), .lit (.int .i64 9)], .agg [.lit (.int .i64 160), .lit (.int .i64 160), .lit (.int .i64 7)], .agg [.lit (.int .i64 162), .lit (.int .i64 165), .lit (.int .i64 5)], .agg [.lit (.int .i64 173), .lit (.int .i64 173), .lit (.int .i64 9)], .agg [.lit (.int .i64 176), .lit (.int .i64 177), .lit (.int .i64 5)], .agg [.lit (.int .i64 170), .lit (.int .i64 170), .lit (.int .i64 0)], .agg [.lit (.int .i64 181), .lit (.int .i64 181), .lit (.int .i64 0)], .agg [.lit (.int .i64 186), .lit (.int .i64 186), .lit (.int .i64 0)], .agg [.lit (.int .i64 161), .lit (.int .i64 191), .lit (.int .i64 13)], .agg [.lit (.int .i64 215), .lit (.int .i64 215), .lit (.int .i64 13)], .agg [.lit (.int .i64 247), .lit (.int .i64 247), .lit (.int .i64 13)], .agg [.lit (.int .i64 768), .lit (.int .i64 879), .lit (.int .i64 8)], .agg [.lit (.int .i64 1425), .lit (.int .i64 1469), .lit (.int .i64 8)], .agg [.lit (.int .i64 1471), .lit (.int .i64 1471), .lit (.int .i64 8)], .agg [.lit (.int .i64 1473), .lit (.int .i64 1474), .lit (.int .i64 8)], .agg [.lit (.int .i64 1424), .lit (.int .i64 1535), .lit (.int .i64 1)], .agg [.lit (.int .i64 1552), .lit (.int .i64 1562), .lit (.int .i64 8)], .agg [.lit (.int .i64 1611), .lit (.int .i64 1631), .lit (.int .i64 8)], .agg [.lit (.int .i64 1632), .lit (.int .i64 1641), .lit (.int .i64 6)], .agg [.lit (.int .i64 1643), .lit (.int .i64 1644), .lit (.int .i64 6)], .agg [.lit (.int .i64 1776), .lit (.int .i64 1785), .lit (.int .i64 3)], .agg [.lit (.int .i64 1536), .lit (.int .i64 1983), .lit (.int .i64 2)], .agg [.lit (.int .i64 1984), .lit (.int .i64 2143), .lit (.int .i64 1)], .agg [.lit (.int .i64 2144), .lit (.int .i64 2303), .lit (.int .i64 2)], .agg [.lit (.int .i64 8192), .lit (.int .i64 8202), .lit (.int .i64 12)], .agg [.lit (.int .i64 8203), .lit (.int .i64 8205), .lit (.int .i64 9)], .agg [.lit (.int .i64 8206), .lit (.int .i64 8206), .lit (.int .i64 0)], .agg [.lit (.int .i64 8207), .lit (.int .i64 8207), .lit (.int .i64 1)], .agg [.lit (.int .i64 8234), .lit (.int .i64 8234), .lit (.int .i64 14)], .agg [.lit (.int .i64 8235), .lit (.int .i64 8235), .lit (.int .i64 15)], .agg [.lit (.int .i64 8236), .lit (.int .i64 8236), .lit (.int .i64 18)], .agg [.lit (.int .i64 8237), .lit (.int .i64 8237), .lit (.int .i64 16)], .agg [.lit (.int .i64 8238), .lit (.int .i64 8238), .lit (.int .i64 17)], .agg [.lit (.int .i64 8239), .lit (.int .i64 8239), .lit (.int .i64 7)], .agg [.lit (.int .i64 8288), .lit (.int .i64 8293), .lit (.int .i64 9)], .agg [.lit (.int .i64 8294), .lit (.int .i64 8294), .lit (.int .i64 19)], .agg [.lit (.int .i64 8295), .lit (.int .i64 8295), .lit (.int .i64 20)], .agg [.lit (.int .i64 8296), .lit (.int .i64 8296), .lit (.int .i64 21)], .agg [.lit (.int .i64 8297), .lit (.int .i64 8297), .lit (.int .i64 22)], .agg [.lit (.int .i64 8352), .lit (.int .i64 8399), .lit (.int .i64 5)], .agg [.lit (.int .i64 8208), .lit (.int .i64 8287), .lit (.int .i64 13)], .agg [.lit (.int .i64 8592), .lit (.int .i64 11263), .lit (.int .i64 13)], .agg [.lit (.int .i64 12288), .lit (.int .i64 12288), .lit (.int .i64 12)], .agg [.lit (.int .i64 12289), .lit (.int .i64 12292), .lit (.int .i64 13)], .agg [.lit (.int .i64 12296), .lit (.int .i64 12320), .lit (.int .i64 13)], .agg [.lit (.int .i64 64285), .lit (.int .i64 64335), .lit (.int .i64 1)], .agg [.lit (.int .i64 64336), .lit (.int .i64 65023), .lit (.int .i64 2)], .agg [.lit (.int .i64 65024), .lit (.int .i64 65039), .lit (.int .i64 8)], .agg [.lit (.int .i64 65136), .lit (.int .i64 65278), .lit (.int .i64 2)], .agg [.lit (.int .i64 65279), .lit (.int .i64 65279), .lit (.int .i64 9)], .agg [.lit (.int .i64 65529), .lit (.int .i64 65533), .lit (.int .i64 13)]] []
def laid_chancery_bidi_brackets {H : Type} : DataW H := .slice [.agg [.lit (.int .i64 40), .lit (.int .i64 41)], .agg [.lit (.int .i64 91), .lit (.int .i64 93)], .agg [.lit (.int .i64 123), .lit (.int .i64 125)], .agg [.lit (.int .i64 12300), .lit (.int .i64 12301)], .agg [.lit (.int .i64 60), .lit (.int .i64 62)], .agg [.lit (.int .i64 171), .lit (.int .i64 187)], .agg [.lit (.int .i64 8249), .lit (.int .i64 8250)]] []
def laid_chancery_chanceryref3_couple {H : Type} : DataW H := .slice [.agg [.lit (.int .i64 40), .lit (.int .i64 41)], .agg [.lit (.int .i64 91), .lit (.int .i64 93)], .agg [.lit (.int .i64 123), .lit (.int .i64 125)], .agg [.lit (.int .i64 12300), .lit (.int .i64 12301)]] []

/-- 'chancerylaw3.BidiLevelsMatchReference': WHATEVER THE INPUT: true; the input reads as it did. -/
def bidiLevelsMatchReferenceSpec : ChangeSpec := { name := "bidiLevelsMatchReference", fn := fun _ => fun
  | [d1, d2] => { results := [.lit (.bool true)], args := [d1, d2] }
  | _ => none }
def bidiLevelsMatchReferenceRow : OpenClaim := { program := "ytojbicdmcodgdaadoor", sum := "89c048bdcd4b9a97ec53aeefaef53d81874e471a009fd2430b67466210b67ceb", func := "chancery/chancerylaw3.BidiLevelsMatchReference", spec := "bidiLevelsMatchReference", unfollowed := true, recurses := true, named := ["chancery/bidi.table", "chancery/bidi.brackets", "chancery/chanceryref3.couple"], apart := false, laid := [("chancery/bidi.table", laid_chancery_bidi_table), ("chancery/bidi.brackets", laid_chancery_bidi_brackets), ("chancery/chanceryref3.couple", laid_chancery_chanceryref3_couple)] }
def BidiLevelsMatchReferenceSaid : Prop := bidiLevelsMatchReferenceRow.holds Tryd.pinned (OpenSpec.ofChange bidiLevelsMatchReferenceSpec)

/-- ITS FALSE NEIGHBOUR: 'it returns false'. Refute it at one input. -/
def bidiLevelsMatchReferenceWrong : ChangeSpec := { name := "bidiLevelsMatchReference", fn := fun _ => fun
  | [d1, d2] => { results := [.lit (.bool false)], args := [d1, d2] }
  | _ => none }
def BidiLevelsMatchReferenceWrongFalsely : Prop := bidiLevelsMatchReferenceRow.holds Tryd.pinned (OpenSpec.ofChange bidiLevelsMatchReferenceWrong)

/- THE SECOND FORM. 'bulk': how many values and letters a reading holds, each counted each time it is reached (what is shared counts as often as it is met; a slice's spare places count too). A statement '..UptoSaid' is the law's where the arguments, and the package variables that the reading takes, are together of bulk at most 1048576: NARROWER than '..Said'. Prove '..Said' where nothing that the law and all that it calls make is longer than what came in: it says more and counts as full. Else prove '..UptoSaid'. A law counts once. -/
mutual
def uptoBulk {H : Type} : DataW H → Nat
  | .lit (.string bytes) => bytes.length + 1
  | .lit _ => 1
  | .nil => 1
  | .ptr d => uptoBulk d + 1
  | .slice elems spare => uptoBulkAll elems + uptoBulkAll spare + 1
  | .agg parts => uptoBulkAll parts + 1
  | .iface _ d => uptoBulk d + 1
  | .map entries => uptoBulkEntries entries + 1
  | .held _ => 1
def uptoBulkAll {H : Type} : List (DataW H) → Nat
  | [] => 0
  | d :: r => uptoBulk d + uptoBulkAll r
def uptoBulkEntries {H : Type} : List (Lit × DataW H) → Nat
  | [] => 0
  | x :: r => uptoBulkEntry x + uptoBulkEntries r
def uptoBulkEntry {H : Type} : Lit × DataW H → Nat
  | (.string bytes, d) => bytes.length + uptoBulk d + 1
  | (_, d) => uptoBulk d + 1
 end
def uptoSmall : (H : Type) → List (DataW H) → Bool := fun _ ds => decide (uptoBulkAll ds ≤ 1048576)
def OpenSpec.upto (s : _root_.Go.ChangeSpec) : _root_.Go.OpenSpec := { _root_.Go.OpenSpec.ofChange s with cond := some uptoSmall }

/-- 'chancerylaw3.BidiLevelsMatchReference', WHERE WHAT IT READS IS OF BULK AT MOST 1048576: true; the input reads as it did. -/
def bidiLevelsMatchReferenceUptoRow : OpenClaim := { program := "ytojbicdmcodgdaadoor", sum := "89c048bdcd4b9a97ec53aeefaef53d81874e471a009fd2430b67466210b67ceb", func := "chancery/chancerylaw3.BidiLevelsMatchReference", spec := "bidiLevelsMatchReference", unfollowed := true, recurses := true, named := ["chancery/bidi.table", "chancery/bidi.brackets", "chancery/chanceryref3.couple"], apart := false, laid := [("chancery/bidi.table", laid_chancery_bidi_table), ("chancery/bidi.brackets", laid_chancery_bidi_brackets), ("chancery/chanceryref3.couple", laid_chancery_chanceryref3_couple)], narrowed := true }
def BidiLevelsMatchReferenceUptoSaid : Prop := bidiLevelsMatchReferenceUptoRow.holds Tryd.pinned (OpenSpec.upto bidiLevelsMatchReferenceSpec)

end Rows
end Go.Proofs.YtojbicdmcodgdaaDoor
