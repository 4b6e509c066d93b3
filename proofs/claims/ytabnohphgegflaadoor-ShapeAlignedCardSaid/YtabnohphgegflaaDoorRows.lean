/-
  NARROWER THAN 'FOR EVERY INPUT', by the rows' own cells (each row's printed sentence says how): PrintingRanges: laid · ShapeAligned: laid.
  DERIVED. THE GIVEN ROWS OF THIS SEAT. 2 by the template 'for every input the law returns true; each argument reads behind the call as it read before'; 0 by the template 'total and deterministic' (their statements: YtabnohphgegflaaDoorTotals.lean).
  GIVEN WITH THE SEED: the statements are not yours to turn. If you find one false, say at which input.
  Laid BY PROGRAM, IN A SANDBOX (cutbox-rows.mjs): the forced cells as the released guide's own fill.sh prints them over the translation 4bfa789abcb101e8… (all of the seat's roots in one cut). By AI agents, Wed Nov 11 2026. No macro, syntax, notation, axiom, sorry.
-/
import Derived.Test.YtabnohphgegflaaDoorChecked
import GoSem.PinnedTables
import GoSem.Claim
import GoSem.ClaimJoined
import GoSem.ClaimMapViews
import Derived.JoinedTies
import Derived.KernelRfl
namespace Go.Proofs.YtabnohphgegflaaDoor
/- THE CELL 'sum', in the pinned program and in every row, IS THE sha256 OF THE DUMP (.gsa) THAT YtabnohphgegflaaDoorProg.lean LOADS. Nothing in Lean hashes anything: it is a label: what it is worth is what the hold of that sum in a sandbox is worth. -/
noncomputable def Tryd.pinned : Pinned := { name := "ytabnohphgegflaadoor", sum := "4bfa789abcb101e81e227a6346cb8abddf828e4608778d2b468c35c87b533bc7", checked := Tryd.checked }
namespace Rows
def none {H : Type} : Left H := { results := [], args := [] }

/- WHAT THE LISTED PACKAGE-LEVEL VARIABLES READ AS WHEN THE CALL BEGINS. Each datum BY PROGRAM (the guide's laid-datum.mjs) off the statement by which the dump's own 'gosem.cut.vars' lays the variable. In a bare row this is a premise. The card (YtabnohphgegflaaDoorCards.lean) ties it to the program's text. -/
def laid_math_bits_deBruijn32tab {H : Type} : DataW H := .agg [.lit (.int .u8 0), .lit (.int .u8 1), .lit (.int .u8 28), .lit (.int .u8 2), .lit (.int .u8 29), .lit (.int .u8 14), .lit (.int .u8 24), .lit (.int .u8 3), .lit (.int .u8 30), .lit (.int .u8 22), .lit (.int .u8 20), .lit (.int .u8 15), .lit (.int .u8 25), .lit (.int .u8 17), .lit (.int .u8 4), .lit (.int .u8 8), .lit (.int .u8 31), .lit (.int .u8 27), .lit (.int .u8 13), .lit (.int .u8 23), .lit (.int .u8 21), .lit (.int .u8 19), .lit (.int .u8 16), .lit (.int .u8 7), .lit (.int .u8 26), .lit (.int .u8 12), .lit (.int .u8 18), .lit (.int .u8 6), .lit (.int .u8 11), .lit (.int .u8 5), .lit (.int .u8 10), .lit (.int .u8 9)]
def laid_math_bits_deBruijn64tab {H : Type} : DataW H := .agg [.lit (.int .u8 0), .lit (.int .u8 1), .lit (.int .u8 56), .lit (.int .u8 2), .lit (.int .u8 57), .lit (.int .u8 49), .lit (.int .u8 28), .lit (.int .u8 3), .lit (.int .u8 61), .lit (.int .u8 58), .lit (.int .u8 42), .lit (.int .u8 50), .lit (.int .u8 38), .lit (.int .u8 29), .lit (.int .u8 17), .lit (.int .u8 4), .lit (.int .u8 62), .lit (.int .u8 47), .lit (.int .u8 59), .lit (.int .u8 36), .lit (.int .u8 45), .lit (.int .u8 43), .lit (.int .u8 51), .lit (.int .u8 22), .lit (.int .u8 53), .lit (.int .u8 39), .lit (.int .u8 33), .lit (.int .u8 30), .lit (.int .u8 24), .lit (.int .u8 18), .lit (.int .u8 12), .lit (.int .u8 5), .lit (.int .u8 63), .lit (.int .u8 55), .lit (.int .u8 48), .lit (.int .u8 27), .lit (.int .u8 60), .lit (.int .u8 41), .lit (.int .u8 37), .lit (.int .u8 16), .lit (.int .u8 46), .lit (.int .u8 35), .lit (.int .u8 44), .lit (.int .u8 21), .lit (.int .u8 52), .lit (.int .u8 32), .lit (.int .u8 23), .lit (.int .u8 11), .lit (.int .u8 54), .lit (.int .u8 26), .lit (.int .u8 40), .lit (.int .u8 15), .lit (.int .u8 34), .lit (.int .u8 20), .lit (.int .u8 31), .lit (.int .u8 10), .lit (.int .u8 25), .lit (.int .u8 14), .lit (.int .u8 19), .lit (.int .u8 9), .lit (.int .u8 13), .lit (.int .u8 8), .lit (.int .u8 7), .lit (.int .u8 6)]
def laid_internal_strconv_uint64pow10 {H : Type} : DataW H := .agg [.lit (.int .u64 1), .lit (.int .u64 10), .lit (.int .u64 100), .lit (.int .u64 1000), .lit (.int .u64 10000), .lit (.int .u64 100000), .lit (.int .u64 1000000), .lit (.int .u64 10000000), .lit (.int .u64 100000000), .lit (.int .u64 1000000000), .lit (.int .u64 10000000000), .lit (.int .u64 100000000000), .lit (.int .u64 1000000000000), .lit (.int .u64 10000000000000), .lit (.int .u64 100000000000000), .lit (.int .u64 1000000000000000), .lit (.int .u64 10000000000000000), .lit (.int .u64 100000000000000000), .lit (.int .u64 1000000000000000000), .lit (.int .u64 10000000000000000000)]
def laid_unicode_utf8_acceptRanges {H : Type} : DataW H := .agg [.agg [.lit (.int .u8 128), .lit (.int .u8 191)], .agg [.lit (.int .u8 160), .lit (.int .u8 191)], .agg [.lit (.int .u8 128), .lit (.int .u8 159)], .agg [.lit (.int .u8 144), .lit (.int .u8 191)], .agg [.lit (.int .u8 128), .lit (.int .u8 143)], .agg [.lit (.int .u8 0), .lit (.int .u8 0)], .agg [.lit (.int .u8 0), .lit (.int .u8 0)], .agg [.lit (.int .u8 0), .lit (.int .u8 0)], .agg [.lit (.int .u8 0), .lit (.int .u8 0)], .agg [.lit (.int .u8 0), .lit (.int .u8 0)], .agg [.lit (.int .u8 0), .lit (.int .u8 0)], .agg [.lit (.int .u8 0), .lit (.int .u8 0)], .agg [.lit (.int .u8 0), .lit (.int .u8 0)], .agg [.lit (.int .u8 0), .lit (.int .u8 0)], .agg [.lit (.int .u8 0), .lit (.int .u8 0)], .agg [.lit (.int .u8 0), .lit (.int .u8 0)]]
def laid_strconv_ErrRange {H : Type} : DataW H := .iface "*errors.errorString" (.ptr (.agg [.lit (.string [118, 97, 108, 117, 101, 32, 111, 117, 116, 32, 111, 102, 32, 114, 97, 110, 103, 101])]))
def laid_strconv_ErrSyntax {H : Type} : DataW H := .iface "*errors.errorString" (.ptr (.agg [.lit (.string [105, 110, 118, 97, 108, 105, 100, 32, 115, 121, 110, 116, 97, 120])]))
/-- One of Go's own tables, pinned by name: the form's constant. -/
def laid_unicode_utf8_first : DataW Unit := Go.Pinned.utf8First
def laid_chancery_chanceryref3_sines {H : Type} : DataW H := .agg [.lit (.int .i64 0), .lit (.int .i64 1144), .lit (.int .i64 2287), .lit (.int .i64 3430), .lit (.int .i64 4572), .lit (.int .i64 5712), .lit (.int .i64 6850), .lit (.int .i64 7987), .lit (.int .i64 9121), .lit (.int .i64 10252), .lit (.int .i64 11380), .lit (.int .i64 12505), .lit (.int .i64 13626), .lit (.int .i64 14742), .lit (.int .i64 15855), .lit (.int .i64 16962), .lit (.int .i64 18064), .lit (.int .i64 19161), .lit (.int .i64 20252), .lit (.int .i64 21336), .lit (.int .i64 22415), .lit (.int .i64 23486), .lit (.int .i64 24550), .lit (.int .i64 25607), .lit (.int .i64 26656), .lit (.int .i64 27697), .lit (.int .i64 28729), .lit (.int .i64 29753), .lit (.int .i64 30767), .lit (.int .i64 31772), .lit (.int .i64 32768), .lit (.int .i64 33754), .lit (.int .i64 34729), .lit (.int .i64 35693), .lit (.int .i64 36647), .lit (.int .i64 37590), .lit (.int .i64 38521), .lit (.int .i64 39441), .lit (.int .i64 40348), .lit (.int .i64 41243), .lit (.int .i64 42126), .lit (.int .i64 42995), .lit (.int .i64 43852), .lit (.int .i64 44695), .lit (.int .i64 45525), .lit (.int .i64 46341), .lit (.int .i64 47143), .lit (.int .i64 47930), .lit (.int .i64 48703), .lit (.int .i64 49461), .lit (.int .i64 50203), .lit (.int .i64 50931), .lit (.int .i64 51643), .lit (.int .i64 52339), .lit (.int .i64 53020), .lit (.int .i64 53684), .lit (.int .i64 54332), .lit (.int .i64 54963), .lit (.int .i64 55578), .lit (.int .i64 56175), .lit (.int .i64 56756), .lit (.int .i64 57319), .lit (.int .i64 57865), .lit (.int .i64 58393), .lit (.int .i64 58903), .lit (.int .i64 59396), .lit (.int .i64 59870), .lit (.int .i64 60326), .lit (.int .i64 60764), .lit (.int .i64 61183), .lit (.int .i64 61584), .lit (.int .i64 61966), .lit (.int .i64 62328), .lit (.int .i64 62672), .lit (.int .i64 62997), .lit (.int .i64 63303), .lit (.int .i64 63589), .lit (.int .i64 63856), .lit (.int .i64 64104), .lit (.int .i64 64332), .lit (.int .i64 64540), .lit (.int .i64 64729), .lit (.int .i64 64898), .lit (.int .i64 65048), .lit (.int .i64 65177), .lit (.int .i64 65287), .lit (.int .i64 65376), .lit (.int .i64 65446), .lit (.int .i64 65496), .lit (.int .i64 65526), .lit (.int .i64 65536)]
def laid_chancery_shape_quarter {H : Type} : DataW H := .agg [.lit (.int .i64 0), .lit (.int .i64 1144), .lit (.int .i64 2287), .lit (.int .i64 3430), .lit (.int .i64 4572), .lit (.int .i64 5712), .lit (.int .i64 6850), .lit (.int .i64 7987), .lit (.int .i64 9121), .lit (.int .i64 10252), .lit (.int .i64 11380), .lit (.int .i64 12505), .lit (.int .i64 13626), .lit (.int .i64 14742), .lit (.int .i64 15855), .lit (.int .i64 16962), .lit (.int .i64 18064), .lit (.int .i64 19161), .lit (.int .i64 20252), .lit (.int .i64 21336), .lit (.int .i64 22415), .lit (.int .i64 23486), .lit (.int .i64 24550), .lit (.int .i64 25607), .lit (.int .i64 26656), .lit (.int .i64 27697), .lit (.int .i64 28729), .lit (.int .i64 29753), .lit (.int .i64 30767), .lit (.int .i64 31772), .lit (.int .i64 32768), .lit (.int .i64 33754), .lit (.int .i64 34729), .lit (.int .i64 35693), .lit (.int .i64 36647), .lit (.int .i64 37590), .lit (.int .i64 38521), .lit (.int .i64 39441), .lit (.int .i64 40348), .lit (.int .i64 41243), .lit (.int .i64 42126), .lit (.int .i64 42995), .lit (.int .i64 43852), .lit (.int .i64 44695), .lit (.int .i64 45525), .lit (.int .i64 46341), .lit (.int .i64 47143), .lit (.int .i64 47930), .lit (.int .i64 48703), .lit (.int .i64 49461), .lit (.int .i64 50203), .lit (.int .i64 50931), .lit (.int .i64 51643), .lit (.int .i64 52339), .lit (.int .i64 53020), .lit (.int .i64 53684), .lit (.int .i64 54332), .lit (.int .i64 54963), .lit (.int .i64 55578), .lit (.int .i64 56175), .lit (.int .i64 56756), .lit (.int .i64 57319), .lit (.int .i64 57865), .lit (.int .i64 58393), .lit (.int .i64 58903), .lit (.int .i64 59396), .lit (.int .i64 59870), .lit (.int .i64 60326), .lit (.int .i64 60764), .lit (.int .i64 61183), .lit (.int .i64 61584), .lit (.int .i64 61966), .lit (.int .i64 62328), .lit (.int .i64 62672), .lit (.int .i64 62997), .lit (.int .i64 63303), .lit (.int .i64 63589), .lit (.int .i64 63856), .lit (.int .i64 64104), .lit (.int .i64 64332), .lit (.int .i64 64540), .lit (.int .i64 64729), .lit (.int .i64 64898), .lit (.int .i64 65048), .lit (.int .i64 65177), .lit (.int .i64 65287), .lit (.int .i64 65376), .lit (.int .i64 65446), .lit (.int .i64 65496), .lit (.int .i64 65526), .lit (.int .i64 65536)]

/-- 'chancerylaw3.PrintingRanges': WHATEVER THE INPUT: true; the input reads as it did. -/
def printingRangesSpec : ChangeSpec := { name := "printingRanges", fn := fun _ => fun
  | [d1, d2] => { results := [.lit (.bool true)], args := [d1, d2] }
  | _ => none }
def printingRangesRow : OpenClaim := { program := "ytabnohphgegflaadoor", sum := "4bfa789abcb101e81e227a6346cb8abddf828e4608778d2b468c35c87b533bc7", func := "chancery/chancerylaw3.PrintingRanges", spec := "printingRanges", inPlace := ["internal/bytealg.CountString", "internal/bytealg.IndexByteString", "internal/bytealg.IndexString"], named := ["unicode/utf8.first", "unicode/utf8.acceptRanges", "internal/bytealg.MaxLen", "strconv.ErrSyntax", "strconv.ErrRange", "internal/strconv.uint64pow10", "math/bits.deBruijn32tab", "math/bits.deBruijn64tab"], apart := false, laid := [("math/bits.deBruijn32tab", laid_math_bits_deBruijn32tab), ("math/bits.deBruijn64tab", laid_math_bits_deBruijn64tab), ("internal/strconv.uint64pow10", laid_internal_strconv_uint64pow10), ("unicode/utf8.acceptRanges", laid_unicode_utf8_acceptRanges), ("strconv.ErrRange", laid_strconv_ErrRange), ("strconv.ErrSyntax", laid_strconv_ErrSyntax), ("unicode/utf8.first", laid_unicode_utf8_first)] }
def PrintingRangesSaid : Prop := printingRangesRow.holds Tryd.pinned (OpenSpec.ofChange printingRangesSpec)

/-- ITS FALSE NEIGHBOUR: 'it returns false'. Refute it at one input. -/
def printingRangesWrong : ChangeSpec := { name := "printingRanges", fn := fun _ => fun
  | [d1, d2] => { results := [.lit (.bool false)], args := [d1, d2] }
  | _ => none }
def PrintingRangesWrongFalsely : Prop := printingRangesRow.holds Tryd.pinned (OpenSpec.ofChange printingRangesWrong)

/-- 'chancerylaw3.ShapeAligned': WHATEVER THE INPUT: true; the input reads as it did. -/
def shapeAlignedSpec : ChangeSpec := { name := "shapeAligned", fn := fun _ => fun
  | [d1, d2, d3, d4] => { results := [.lit (.bool true)], args := [d1, d2, d3, d4] }
  | _ => none }
def shapeAlignedRow : OpenClaim := { program := "ytabnohphgegflaadoor", sum := "4bfa789abcb101e81e227a6346cb8abddf828e4608778d2b468c35c87b533bc7", func := "chancery/chancerylaw3.ShapeAligned", spec := "shapeAligned", unfollowed := true, recurses := true, named := ["chancery/shape.quarter", "chancery/chanceryref3.sines"], apart := false, laid := [("chancery/chanceryref3.sines", laid_chancery_chanceryref3_sines), ("chancery/shape.quarter", laid_chancery_shape_quarter)] }
def ShapeAlignedSaid : Prop := shapeAlignedRow.holds Tryd.pinned (OpenSpec.ofChange shapeAlignedSpec)

/-- ITS FALSE NEIGHBOUR: 'it returns false'. Refute it at one input. -/
def shapeAlignedWrong : ChangeSpec := { name := "shapeAligned", fn := fun _ => fun
  | [d1, d2, d3, d4] => { results := [.lit (.bool false)], args := [d1, d2, d3, d4] }
  | _ => none }
def ShapeAlignedWrongFalsely : Prop := shapeAlignedRow.holds Tryd.pinned (OpenSpec.ofChange shapeAlignedWrong)

/- THE SECOND FORM. 'bulk': how many values and letters a reading holds, each counted each time it is reached (what is shared counts as often as it is met; a slice's spare places count too). A statement '..UptoSaid' is the law's where the arguments, and the package variables that the reading takes, are together of bulk at most 1048576: NARROWER than '..Said'. Prove '..Said' where nothing that the law and all that it calls make is longer than what came in: it says more and counts as full. Else prove '..UptoSaid'. A law counts once. -/
mutual
def uptoBulk {H : Type} : DataW H → Nat
  | .lit (.string bytes) => bytes.length + 1
  | .lit _ => 1
  | .nil => 1
  | .ptr d => uptoBulk d + 1
  | .slice elems spare => uptoBulkAll elems + uptoBulkAll spare + 1
  | .agg parts => uptoBulkAll parts + 1
  | .iface _ d => uptoBulk d + 1
  | .map entries => uptoBulkEntries entries + 1
  | .held _ => 1
def uptoBulkAll {H : Type} : List (DataW H) → Nat
  | [] => 0
  | d :: r => uptoBulk d + uptoBulkAll r
def uptoBulkEntries {H : Type} : List (Lit × DataW H) → Nat
  | [] => 0
  | x :: r => uptoBulkEntry x + uptoBulkEntries r
def uptoBulkEntry {H : Type} : Lit × DataW H → Nat
  | (.string bytes, d) => bytes.length + uptoBulk d + 1
  | (_, d) => uptoBulk d + 1
 end
def uptoSmall : (H : Type) → List (DataW H) → Bool := fun _ ds => decide (uptoBulkAll ds ≤ 1048576)
def OpenSpec.upto (s : _root_.Go.ChangeSpec) : _root_.Go.OpenSpec := { _root_.Go.OpenSpec.ofChange s with cond := some uptoSmall }

/-- 'chancerylaw3.PrintingRanges', WHERE WHAT IT READS IS OF BULK AT MOST 1048576: true; the input reads as it did. -/
def printingRangesUptoRow : OpenClaim := { program := "ytabnohphgegflaadoor", sum := "4bfa789abcb101e81e227a6346cb8abddf828e4608778d2b468c35c87b533bc7", func := "chancery/chancerylaw3.PrintingRanges", spec := "printingRanges", inPlace := ["internal/bytealg.CountString", "internal/bytealg.IndexByteString", "internal/bytealg.IndexString"], named := ["unicode/utf8.first", "unicode/utf8.acceptRanges", "internal/bytealg.MaxLen", "strconv.ErrSyntax", "strconv.ErrRange", "internal/strconv.uint64pow10", "math/bits.deBruijn32tab", "math/bits.deBruijn64tab"], apart := false, laid := [("math/bits.deBruijn32tab", laid_math_bits_deBruijn32tab), ("math/bits.deBruijn64tab", laid_math_bits_deBruijn64tab), ("internal/strconv.uint64pow10", laid_internal_strconv_uint64pow10), ("unicode/utf8.acceptRanges", laid_unicode_utf8_acceptRanges), ("strconv.ErrRange", laid_strconv_ErrRange), ("strconv.ErrSyntax", laid_strconv_ErrSyntax), ("unicode/utf8.first", laid_unicode_utf8_first)], narrowed := true }
def PrintingRangesUptoSaid : Prop := printingRangesUptoRow.holds Tryd.pinned (OpenSpec.upto printingRangesSpec)

/-- 'chancerylaw3.ShapeAligned', WHERE WHAT IT READS IS OF BULK AT MOST 1048576: true; the input reads as it did. -/
def shapeAlignedUptoRow : OpenClaim := { program := "ytabnohphgegflaadoor", sum := "4bfa789abcb101e81e227a6346cb8abddf828e4608778d2b468c35c87b533bc7", func := "chancery/chancerylaw3.ShapeAligned", spec := "shapeAligned", unfollowed := true, recurses := true, named := ["chancery/shape.quarter", "chancery/chanceryref3.sines"], apart := false, laid := [("chancery/chanceryref3.sines", laid_chancery_chanceryref3_sines), ("chancery/shape.quarter", laid_chancery_shape_quarter)], narrowed := true }
def ShapeAlignedUptoSaid : Prop := shapeAlignedUptoRow.holds Tryd.pinned (OpenSpec.upto shapeAlignedSpec)

end Rows
end Go.Proofs.YtabnohphgegflaaDoor
