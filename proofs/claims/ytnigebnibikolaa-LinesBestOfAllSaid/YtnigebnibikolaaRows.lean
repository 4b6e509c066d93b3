/-
  No cell of these rows narrows 'for every input' (looked for: loops, veiled, ifaces, maps, wideKeys, modest, calm, conditions, laid).
  DERIVED. THE GIVEN ROWS OF THIS SEAT. 6 by the template 'for every input the law returns true; each argument reads behind the call as it read before'; 0 by the template 'total and deterministic' (their statements: YtnigebnibikolaaTotals.lean).
  GIVEN WITH THE SEED: the statements are not yours to turn. If you find one false, say at which input.
  Laid BY PROGRAM, IN A SANDBOX (cutbox-rows.mjs): the forced cells as the released guide's own fill.sh prints them over the translation 89760a453d4865fe… (all of the seat's roots in one cut). By AI agents, Wed Nov 11 2026. No macro, syntax, notation, axiom, sorry.
-/
import Derived.Test.YtnigebnibikolaaChecked
import GoSem.Claim
import GoSem.ClaimJoined
import GoSem.ClaimMapViews
import Derived.JoinedTies
import Derived.KernelRfl
namespace Go.Proofs.Ytnigebnibikolaa
/- THE CELL 'sum', in the pinned program and in every row, IS THE sha256 OF THE DUMP (.gsa) THAT YtnigebnibikolaaProg.lean LOADS. Nothing in Lean hashes anything: it is a label: what it is worth is what the hold of that sum in a sandbox is worth. -/
noncomputable def Try.pinned : Pinned := { name := "ytnigebnibikolaa", sum := "89760a453d4865fe2df17a7237f2b842a9f967a4a05935f6583a5d8aaf1102f5", checked := Try.checked }
namespace Rows
def none {H : Type} : Left H := { results := [], args := [] }

/-- 'chancerylaw3.ChartBarsInProportion': WHATEVER THE INPUT: true; the input reads as it did. -/
def chartBarsInProportionSpec : ChangeSpec := { name := "chartBarsInProportion", fn := fun _ => fun
  | [d1, d2, d3, d4] => { results := [.lit (.bool true)], args := [d1, d2, d3, d4] }
  | _ => none }
def chartBarsInProportionRow : OpenClaim := { program := "ytnigebnibikolaa", sum := "89760a453d4865fe2df17a7237f2b842a9f967a4a05935f6583a5d8aaf1102f5", func := "chancery/chancerylaw3.ChartBarsInProportion", spec := "chartBarsInProportion", unfollowed := true, recurses := true, apart := false }
def ChartBarsInProportionSaid : Prop := chartBarsInProportionRow.holds Try.pinned (OpenSpec.ofChange chartBarsInProportionSpec)

/-- ITS FALSE NEIGHBOUR: 'it returns false'. Refute it at one input. -/
def chartBarsInProportionWrong : ChangeSpec := { name := "chartBarsInProportion", fn := fun _ => fun
  | [d1, d2, d3, d4] => { results := [.lit (.bool false)], args := [d1, d2, d3, d4] }
  | _ => none }
def ChartBarsInProportionWrongFalsely : Prop := chartBarsInProportionRow.holds Try.pinned (OpenSpec.ofChange chartBarsInProportionWrong)

/-- 'chancerylaw3.TablesCuts': WHATEVER THE INPUT: true; the input reads as it did. -/
def tablesCutsSpec : ChangeSpec := { name := "tablesCuts", fn := fun _ => fun
  | [d] => { results := [.lit (.bool true)], args := [d] }
  | _ => none }
def tablesCutsRow : OpenClaim := { program := "ytnigebnibikolaa", sum := "89760a453d4865fe2df17a7237f2b842a9f967a4a05935f6583a5d8aaf1102f5", func := "chancery/chancerylaw3.TablesCuts", spec := "tablesCuts", apart := false }
def TablesCutsSaid : Prop := tablesCutsRow.holds Try.pinned (OpenSpec.ofChange tablesCutsSpec)

/-- ITS FALSE NEIGHBOUR: 'it returns false'. Refute it at one input. -/
def tablesCutsWrong : ChangeSpec := { name := "tablesCuts", fn := fun _ => fun
  | [d] => { results := [.lit (.bool false)], args := [d] }
  | _ => none }
def TablesCutsWrongFalsely : Prop := tablesCutsRow.holds Try.pinned (OpenSpec.ofChange tablesCutsWrong)

/-- 'chancerylaw3.LinesBestOfAll': WHATEVER THE INPUT: true; the input reads as it did. -/
def linesBestOfAllSpec : ChangeSpec := { name := "linesBestOfAll", fn := fun _ => fun
  | [d1, d2] => { results := [.lit (.bool true)], args := [d1, d2] }
  | _ => none }
def linesBestOfAllRow : OpenClaim := { program := "ytnigebnibikolaa", sum := "89760a453d4865fe2df17a7237f2b842a9f967a4a05935f6583a5d8aaf1102f5", func := "chancery/chancerylaw3.LinesBestOfAll", spec := "linesBestOfAll", recurses := true, apart := false }
def LinesBestOfAllSaid : Prop := linesBestOfAllRow.holds Try.pinned (OpenSpec.ofChange linesBestOfAllSpec)

/-- ITS FALSE NEIGHBOUR: 'it returns false'. Refute it at one input. -/
def linesBestOfAllWrong : ChangeSpec := { name := "linesBestOfAll", fn := fun _ => fun
  | [d1, d2] => { results := [.lit (.bool false)], args := [d1, d2] }
  | _ => none }
def LinesBestOfAllWrongFalsely : Prop := linesBestOfAllRow.holds Try.pinned (OpenSpec.ofChange linesBestOfAllWrong)

/-- 'chancerylaw3.LinesGreedyIsLate': WHATEVER THE INPUT: true; the input reads as it did. -/
def linesGreedyIsLateSpec : ChangeSpec := { name := "linesGreedyIsLate", fn := fun _ => fun
  | [d1, d2] => { results := [.lit (.bool true)], args := [d1, d2] }
  | _ => none }
def linesGreedyIsLateRow : OpenClaim := { program := "ytnigebnibikolaa", sum := "89760a453d4865fe2df17a7237f2b842a9f967a4a05935f6583a5d8aaf1102f5", func := "chancery/chancerylaw3.LinesGreedyIsLate", spec := "linesGreedyIsLate", recurses := true, apart := false }
def LinesGreedyIsLateSaid : Prop := linesGreedyIsLateRow.holds Try.pinned (OpenSpec.ofChange linesGreedyIsLateSpec)

/-- ITS FALSE NEIGHBOUR: 'it returns false'. Refute it at one input. -/
def linesGreedyIsLateWrong : ChangeSpec := { name := "linesGreedyIsLate", fn := fun _ => fun
  | [d1, d2] => { results := [.lit (.bool false)], args := [d1, d2] }
  | _ => none }
def LinesGreedyIsLateWrongFalsely : Prop := linesGreedyIsLateRow.holds Try.pinned (OpenSpec.ofChange linesGreedyIsLateWrong)

/-- 'chancerylaw3.LinesFillGlue': WHATEVER THE INPUT: true; the input reads as it did. -/
def linesFillGlueSpec : ChangeSpec := { name := "linesFillGlue", fn := fun _ => fun
  | [d1, d2, d3] => { results := [.lit (.bool true)], args := [d1, d2, d3] }
  | _ => none }
def linesFillGlueRow : OpenClaim := { program := "ytnigebnibikolaa", sum := "89760a453d4865fe2df17a7237f2b842a9f967a4a05935f6583a5d8aaf1102f5", func := "chancery/chancerylaw3.LinesFillGlue", spec := "linesFillGlue", recurses := true, apart := false }
def LinesFillGlueSaid : Prop := linesFillGlueRow.holds Try.pinned (OpenSpec.ofChange linesFillGlueSpec)

/-- ITS FALSE NEIGHBOUR: 'it returns false'. Refute it at one input. -/
def linesFillGlueWrong : ChangeSpec := { name := "linesFillGlue", fn := fun _ => fun
  | [d1, d2, d3] => { results := [.lit (.bool false)], args := [d1, d2, d3] }
  | _ => none }
def LinesFillGlueWrongFalsely : Prop := linesFillGlueRow.holds Try.pinned (OpenSpec.ofChange linesFillGlueWrong)

/-- 'chancerylaw3.MasterShows': WHATEVER THE INPUT: true; the input reads as it did. -/
def masterShowsSpec : ChangeSpec := { name := "masterShows", fn := fun _ => fun
  | [d1, d2] => { results := [.lit (.bool true)], args := [d1, d2] }
  | _ => none }
def masterShowsRow : OpenClaim := { program := "ytnigebnibikolaa", sum := "89760a453d4865fe2df17a7237f2b842a9f967a4a05935f6583a5d8aaf1102f5", func := "chancery/chancerylaw3.MasterShows", spec := "masterShows", unfollowed := true, recurses := true, apart := false }
def MasterShowsSaid : Prop := masterShowsRow.holds Try.pinned (OpenSpec.ofChange masterShowsSpec)

/-- ITS FALSE NEIGHBOUR: 'it returns false'. Refute it at one input. -/
def masterShowsWrong : ChangeSpec := { name := "masterShows", fn := fun _ => fun
  | [d1, d2] => { results := [.lit (.bool false)], args := [d1, d2] }
  | _ => none }
def MasterShowsWrongFalsely : Prop := masterShowsRow.holds Try.pinned (OpenSpec.ofChange masterShowsWrong)

/- THE SECOND FORM. 'bulk': how many values and letters a reading holds, each counted each time it is reached (what is shared counts as often as it is met; a slice's spare places count too). A statement '..UptoSaid' is the law's where the arguments, and the package variables that the reading takes, are together of bulk at most 1048576: NARROWER than '..Said'. Prove '..Said' where nothing that the law and all that it calls make is longer than what came in: it says more and counts as full. Else prove '..UptoSaid'. A law counts once. -/
mutual
def uptoBulk {H : Type} : DataW H → Nat
  | .lit (.string bytes) => bytes.length + 1
  | .lit _ => 1
  | .nil => 1
  | .ptr d => uptoBulk d + 1
  | .slice elems spare => uptoBulkAll elems + uptoBulkAll spare + 1
  | .agg parts => uptoBulkAll parts + 1
  | .iface _ d => uptoBulk d + 1
  | .map entries => uptoBulkEntries entries + 1
  | .held _ => 1
def uptoBulkAll {H : Type} : List (DataW H) → Nat
  | [] => 0
  | d :: r => uptoBulk d + uptoBulkAll r
def uptoBulkEntries {H : Type} : List (Lit × DataW H) → Nat
  | [] => 0
  | x :: r => uptoBulkEntry x + uptoBulkEntries r
def uptoBulkEntry {H : Type} : Lit × DataW H → Nat
  | (.string bytes, d) => bytes.length + uptoBulk d + 1
  | (_, d) => uptoBulk d + 1
 end
def uptoSmall : (H : Type) → List (DataW H) → Bool := fun _ ds => decide (uptoBulkAll ds ≤ 1048576)
def OpenSpec.upto (s : _root_.Go.ChangeSpec) : _root_.Go.OpenSpec := { _root_.Go.OpenSpec.ofChange s with cond := some uptoSmall }

/-- 'chancerylaw3.ChartBarsInProportion', WHERE WHAT IT READS IS OF BULK AT MOST 1048576: true; the input reads as it did. -/
def chartBarsInProportionUptoRow : OpenClaim := { program := "ytnigebnibikolaa", sum := "89760a453d4865fe2df17a7237f2b842a9f967a4a05935f6583a5d8aaf1102f5", func := "chancery/chancerylaw3.ChartBarsInProportion", spec := "chartBarsInProportion", unfollowed := true, recurses := true, apart := false, narrowed := true }
def ChartBarsInProportionUptoSaid : Prop := chartBarsInProportionUptoRow.holds Try.pinned (OpenSpec.upto chartBarsInProportionSpec)

/-- 'chancerylaw3.TablesCuts', WHERE WHAT IT READS IS OF BULK AT MOST 1048576: true; the input reads as it did. -/
def tablesCutsUptoRow : OpenClaim := { program := "ytnigebnibikolaa", sum := "89760a453d4865fe2df17a7237f2b842a9f967a4a05935f6583a5d8aaf1102f5", func := "chancery/chancerylaw3.TablesCuts", spec := "tablesCuts", apart := false, narrowed := true }
def TablesCutsUptoSaid : Prop := tablesCutsUptoRow.holds Try.pinned (OpenSpec.upto tablesCutsSpec)

/-- 'chancerylaw3.LinesBestOfAll', WHERE WHAT IT READS IS OF BULK AT MOST 1048576: true; the input reads as it did. -/
def linesBestOfAllUptoRow : OpenClaim := { program := "ytnigebnibikolaa", sum := "89760a453d4865fe2df17a7237f2b842a9f967a4a05935f6583a5d8aaf1102f5", func := "chancery/chancerylaw3.LinesBestOfAll", spec := "linesBestOfAll", recurses := true, apart := false, narrowed := true }
def LinesBestOfAllUptoSaid : Prop := linesBestOfAllUptoRow.holds Try.pinned (OpenSpec.upto linesBestOfAllSpec)

/-- 'chancerylaw3.LinesGreedyIsLate', WHERE WHAT IT READS IS OF BULK AT MOST 1048576: true; the input reads as it did. -/
def linesGreedyIsLateUptoRow : OpenClaim := { program := "ytnigebnibikolaa", sum := "89760a453d4865fe2df17a7237f2b842a9f967a4a05935f6583a5d8aaf1102f5", func := "chancery/chancerylaw3.LinesGreedyIsLate", spec := "linesGreedyIsLate", recurses := true, apart := false, narrowed := true }
def LinesGreedyIsLateUptoSaid : Prop := linesGreedyIsLateUptoRow.holds Try.pinned (OpenSpec.upto linesGreedyIsLateSpec)

/-- 'chancerylaw3.LinesFillGlue', WHERE WHAT IT READS IS OF BULK AT MOST 1048576: true; the input reads as it did. -/
def linesFillGlueUptoRow : OpenClaim := { program := "ytnigebnibikolaa", sum := "89760a453d4865fe2df17a7237f2b842a9f967a4a05935f6583a5d8aaf1102f5", func := "chancery/chancerylaw3.LinesFillGlue", spec := "linesFillGlue", recurses := true, apart := false, narrowed := true }
def LinesFillGlueUptoSaid : Prop := linesFillGlueUptoRow.holds Try.pinned (OpenSpec.upto linesFillGlueSpec)

/-- 'chancerylaw3.MasterShows', WHERE WHAT IT READS IS OF BULK AT MOST 1048576: true; the input reads as it did. -/
def masterShowsUptoRow : OpenClaim := { program := "ytnigebnibikolaa", sum := "89760a453d4865fe2df17a7237f2b842a9f967a4a05935f6583a5d8aaf1102f5", func := "chancery/chancerylaw3.MasterShows", spec := "masterShows", unfollowed := true, recurses := true, apart := false, narrowed := true }
def MasterShowsUptoSaid : Prop := masterShowsUptoRow.holds Try.pinned (OpenSpec.upto masterShowsSpec)

end Rows
end Go.Proofs.Ytnigebnibikolaa
