/-
  No cell of these rows narrows 'for every input' (looked for: loops, veiled, ifaces, maps, wideKeys, modest, calm, conditions, laid).
  DERIVED. THE GIVEN ROWS OF THIS SEAT. 10 by the template 'for every input the law returns true; each argument reads behind the call as it read before'; 0 by the template 'total and deterministic' (their statements: YtpbnkkeplhgepaaTotals.lean).
  GIVEN WITH THE SEED: the statements are not yours to turn. If you find one false, say at which input.
  Laid BY PROGRAM, IN A SANDBOX (cutbox-rows.mjs): the forced cells as the released guide's own fill.sh prints them over the translation d02f9b999527ea9b… (all of the seat's roots in one cut). By AI agents, Wed Nov 11 2026. No macro, syntax, notation, axiom, sorry.
-/
import Derived.Test.YtpbnkkeplhgepaaChecked
import GoSem.Claim
import GoSem.ClaimJoined
import GoSem.ClaimMapViews
import Derived.JoinedTies
import Derived.KernelRfl
namespace Go.Proofs.Ytpbnkkeplhgepaa
/- THE CELL 'sum', in the pinned program and in every row, IS THE sha256 OF THE DUMP (.gsa) THAT YtpbnkkeplhgepaaProg.lean LOADS. Nothing in Lean hashes anything: it is a label: what it is worth is what the hold of that sum in a sandbox is worth. -/
noncomputable def Try.pinned : Pinned := { name := "ytpbnkkeplhgepaa", sum := "d02f9b999527ea9bc5c9e395042d191d167e4cd0e17aa2a74fdcbef9b5a3aafe", checked := Try.checked }
namespace Rows
def none {H : Type} : Left H := { results := [], args := [] }

/-- 'chancerylaw3.PrintingPlaces': WHATEVER THE INPUT: true; the input reads as it did. -/
def printingPlacesSpec : ChangeSpec := { name := "printingPlaces", fn := fun _ => fun
  | [d1, d2, d3] => { results := [.lit (.bool true)], args := [d1, d2, d3] }
  | _ => none }
def printingPlacesRow : OpenClaim := { program := "ytpbnkkeplhgepaa", sum := "d02f9b999527ea9bc5c9e395042d191d167e4cd0e17aa2a74fdcbef9b5a3aafe", func := "chancery/chancerylaw3.PrintingPlaces", spec := "printingPlaces", apart := false }
def PrintingPlacesSaid : Prop := printingPlacesRow.holds Try.pinned (OpenSpec.ofChange printingPlacesSpec)

/-- ITS FALSE NEIGHBOUR: 'it returns false'. Refute it at one input. -/
def printingPlacesWrong : ChangeSpec := { name := "printingPlaces", fn := fun _ => fun
  | [d1, d2, d3] => { results := [.lit (.bool false)], args := [d1, d2, d3] }
  | _ => none }
def PrintingPlacesWrongFalsely : Prop := printingPlacesRow.holds Try.pinned (OpenSpec.ofChange printingPlacesWrong)

/-- 'chancerylaw3.ScaleFindsLeastStep': WHATEVER THE INPUT: true; the input reads as it did. -/
def scaleFindsLeastStepSpec : ChangeSpec := { name := "scaleFindsLeastStep", fn := fun _ => fun
  | [d1, d2, d3] => { results := [.lit (.bool true)], args := [d1, d2, d3] }
  | _ => none }
def scaleFindsLeastStepRow : OpenClaim := { program := "ytpbnkkeplhgepaa", sum := "d02f9b999527ea9bc5c9e395042d191d167e4cd0e17aa2a74fdcbef9b5a3aafe", func := "chancery/chancerylaw3.ScaleFindsLeastStep", spec := "scaleFindsLeastStep", apart := false }
def ScaleFindsLeastStepSaid : Prop := scaleFindsLeastStepRow.holds Try.pinned (OpenSpec.ofChange scaleFindsLeastStepSpec)

/-- ITS FALSE NEIGHBOUR: 'it returns false'. Refute it at one input. -/
def scaleFindsLeastStepWrong : ChangeSpec := { name := "scaleFindsLeastStep", fn := fun _ => fun
  | [d1, d2, d3] => { results := [.lit (.bool false)], args := [d1, d2, d3] }
  | _ => none }
def ScaleFindsLeastStepWrongFalsely : Prop := scaleFindsLeastStepRow.holds Try.pinned (OpenSpec.ofChange scaleFindsLeastStepWrong)

/-- 'chancerylaw3.BidiOrderReverses': WHATEVER THE INPUT: true; the input reads as it did. -/
def bidiOrderReversesSpec : ChangeSpec := { name := "bidiOrderReverses", fn := fun _ => fun
  | [d] => { results := [.lit (.bool true)], args := [d] }
  | _ => none }
def bidiOrderReversesRow : OpenClaim := { program := "ytpbnkkeplhgepaa", sum := "d02f9b999527ea9bc5c9e395042d191d167e4cd0e17aa2a74fdcbef9b5a3aafe", func := "chancery/chancerylaw3.BidiOrderReverses", spec := "bidiOrderReverses", apart := false }
def BidiOrderReversesSaid : Prop := bidiOrderReversesRow.holds Try.pinned (OpenSpec.ofChange bidiOrderReversesSpec)

/-- ITS FALSE NEIGHBOUR: 'it returns false'. Refute it at one input. -/
def bidiOrderReversesWrong : ChangeSpec := { name := "bidiOrderReverses", fn := fun _ => fun
  | [d] => { results := [.lit (.bool false)], args := [d] }
  | _ => none }
def BidiOrderReversesWrongFalsely : Prop := bidiOrderReversesRow.holds Try.pinned (OpenSpec.ofChange bidiOrderReversesWrong)

/-- 'chancerylaw3.ScalePlaces': WHATEVER THE INPUT: true; the input reads as it did. -/
def scalePlacesSpec : ChangeSpec := { name := "scalePlaces", fn := fun _ => fun
  | [d1, d2, d3] => { results := [.lit (.bool true)], args := [d1, d2, d3] }
  | _ => none }
def scalePlacesRow : OpenClaim := { program := "ytpbnkkeplhgepaa", sum := "d02f9b999527ea9bc5c9e395042d191d167e4cd0e17aa2a74fdcbef9b5a3aafe", func := "chancery/chancerylaw3.ScalePlaces", spec := "scalePlaces", apart := false }
def ScalePlacesSaid : Prop := scalePlacesRow.holds Try.pinned (OpenSpec.ofChange scalePlacesSpec)

/-- ITS FALSE NEIGHBOUR: 'it returns false'. Refute it at one input. -/
def scalePlacesWrong : ChangeSpec := { name := "scalePlaces", fn := fun _ => fun
  | [d1, d2, d3] => { results := [.lit (.bool false)], args := [d1, d2, d3] }
  | _ => none }
def ScalePlacesWrongFalsely : Prop := scalePlacesRow.holds Try.pinned (OpenSpec.ofChange scalePlacesWrong)

/-- 'chancerylaw3.PrintingOrders': WHATEVER THE INPUT: true; the input reads as it did. -/
def printingOrdersSpec : ChangeSpec := { name := "printingOrders", fn := fun _ => fun
  | [d1, d2, d3, d4, d5, d6, d7] => { results := [.lit (.bool true)], args := [d1, d2, d3, d4, d5, d6, d7] }
  | _ => none }
def printingOrdersRow : OpenClaim := { program := "ytpbnkkeplhgepaa", sum := "d02f9b999527ea9bc5c9e395042d191d167e4cd0e17aa2a74fdcbef9b5a3aafe", func := "chancery/chancerylaw3.PrintingOrders", spec := "printingOrders", apart := false }
def PrintingOrdersSaid : Prop := printingOrdersRow.holds Try.pinned (OpenSpec.ofChange printingOrdersSpec)

/-- ITS FALSE NEIGHBOUR: 'it returns false'. Refute it at one input. -/
def printingOrdersWrong : ChangeSpec := { name := "printingOrders", fn := fun _ => fun
  | [d1, d2, d3, d4, d5, d6, d7] => { results := [.lit (.bool false)], args := [d1, d2, d3, d4, d5, d6, d7] }
  | _ => none }
def PrintingOrdersWrongFalsely : Prop := printingOrdersRow.holds Try.pinned (OpenSpec.ofChange printingOrdersWrong)

/-- 'chancerylaw3.ChartSectorsAndShares': WHATEVER THE INPUT: true; the input reads as it did. -/
def chartSectorsAndSharesSpec : ChangeSpec := { name := "chartSectorsAndShares", fn := fun _ => fun
  | [d1, d2] => { results := [.lit (.bool true)], args := [d1, d2] }
  | _ => none }
def chartSectorsAndSharesRow : OpenClaim := { program := "ytpbnkkeplhgepaa", sum := "d02f9b999527ea9bc5c9e395042d191d167e4cd0e17aa2a74fdcbef9b5a3aafe", func := "chancery/chancerylaw3.ChartSectorsAndShares", spec := "chartSectorsAndShares", apart := false }
def ChartSectorsAndSharesSaid : Prop := chartSectorsAndSharesRow.holds Try.pinned (OpenSpec.ofChange chartSectorsAndSharesSpec)

/-- ITS FALSE NEIGHBOUR: 'it returns false'. Refute it at one input. -/
def chartSectorsAndSharesWrong : ChangeSpec := { name := "chartSectorsAndShares", fn := fun _ => fun
  | [d1, d2] => { results := [.lit (.bool false)], args := [d1, d2] }
  | _ => none }
def ChartSectorsAndSharesWrongFalsely : Prop := chartSectorsAndSharesRow.holds Try.pinned (OpenSpec.ofChange chartSectorsAndSharesWrong)

/-- 'chancerylaw3.ClockReports': WHATEVER THE INPUT: true; the input reads as it did. -/
def clockReportsSpec : ChangeSpec := { name := "clockReports", fn := fun _ => fun
  | [d1, d2] => { results := [.lit (.bool true)], args := [d1, d2] }
  | _ => none }
def clockReportsRow : OpenClaim := { program := "ytpbnkkeplhgepaa", sum := "d02f9b999527ea9bc5c9e395042d191d167e4cd0e17aa2a74fdcbef9b5a3aafe", func := "chancery/chancerylaw3.ClockReports", spec := "clockReports", apart := false }
def ClockReportsSaid : Prop := clockReportsRow.holds Try.pinned (OpenSpec.ofChange clockReportsSpec)

/-- ITS FALSE NEIGHBOUR: 'it returns false'. Refute it at one input. -/
def clockReportsWrong : ChangeSpec := { name := "clockReports", fn := fun _ => fun
  | [d1, d2] => { results := [.lit (.bool false)], args := [d1, d2] }
  | _ => none }
def ClockReportsWrongFalsely : Prop := clockReportsRow.holds Try.pinned (OpenSpec.ofChange clockReportsWrong)

/-- 'chancerylaw3.ClockLeft': WHATEVER THE INPUT: true; the input reads as it did. -/
def clockLeftSpec : ChangeSpec := { name := "clockLeft", fn := fun _ => fun
  | [d1, d2, d3] => { results := [.lit (.bool true)], args := [d1, d2, d3] }
  | _ => none }
def clockLeftRow : OpenClaim := { program := "ytpbnkkeplhgepaa", sum := "d02f9b999527ea9bc5c9e395042d191d167e4cd0e17aa2a74fdcbef9b5a3aafe", func := "chancery/chancerylaw3.ClockLeft", spec := "clockLeft", apart := false }
def ClockLeftSaid : Prop := clockLeftRow.holds Try.pinned (OpenSpec.ofChange clockLeftSpec)

/-- ITS FALSE NEIGHBOUR: 'it returns false'. Refute it at one input. -/
def clockLeftWrong : ChangeSpec := { name := "clockLeft", fn := fun _ => fun
  | [d1, d2, d3] => { results := [.lit (.bool false)], args := [d1, d2, d3] }
  | _ => none }
def ClockLeftWrongFalsely : Prop := clockLeftRow.holds Try.pinned (OpenSpec.ofChange clockLeftWrong)

/-- 'chancerylaw3.BalanceNeeds': WHATEVER THE INPUT: true; the input reads as it did. -/
def balanceNeedsSpec : ChangeSpec := { name := "balanceNeeds", fn := fun _ => fun
  | [d1, d2] => { results := [.lit (.bool true)], args := [d1, d2] }
  | _ => none }
def balanceNeedsRow : OpenClaim := { program := "ytpbnkkeplhgepaa", sum := "d02f9b999527ea9bc5c9e395042d191d167e4cd0e17aa2a74fdcbef9b5a3aafe", func := "chancery/chancerylaw3.BalanceNeeds", spec := "balanceNeeds", unfollowed := true, recurses := true, apart := false }
def BalanceNeedsSaid : Prop := balanceNeedsRow.holds Try.pinned (OpenSpec.ofChange balanceNeedsSpec)

/-- ITS FALSE NEIGHBOUR: 'it returns false'. Refute it at one input. -/
def balanceNeedsWrong : ChangeSpec := { name := "balanceNeeds", fn := fun _ => fun
  | [d1, d2] => { results := [.lit (.bool false)], args := [d1, d2] }
  | _ => none }
def BalanceNeedsWrongFalsely : Prop := balanceNeedsRow.holds Try.pinned (OpenSpec.ofChange balanceNeedsWrong)

/-- 'chancerylaw3.BalanceWidths': WHATEVER THE INPUT: true; the input reads as it did. -/
def balanceWidthsSpec : ChangeSpec := { name := "balanceWidths", fn := fun _ => fun
  | [d1, d2, d3] => { results := [.lit (.bool true)], args := [d1, d2, d3] }
  | _ => none }
def balanceWidthsRow : OpenClaim := { program := "ytpbnkkeplhgepaa", sum := "d02f9b999527ea9bc5c9e395042d191d167e4cd0e17aa2a74fdcbef9b5a3aafe", func := "chancery/chancerylaw3.BalanceWidths", spec := "balanceWidths", unfollowed := true, recurses := true, apart := false }
def BalanceWidthsSaid : Prop := balanceWidthsRow.holds Try.pinned (OpenSpec.ofChange balanceWidthsSpec)

/-- ITS FALSE NEIGHBOUR: 'it returns false'. Refute it at one input. -/
def balanceWidthsWrong : ChangeSpec := { name := "balanceWidths", fn := fun _ => fun
  | [d1, d2, d3] => { results := [.lit (.bool false)], args := [d1, d2, d3] }
  | _ => none }
def BalanceWidthsWrongFalsely : Prop := balanceWidthsRow.holds Try.pinned (OpenSpec.ofChange balanceWidthsWrong)

/- THE SECOND FORM. 'bulk': how many values and letters a reading holds, each counted each time it is reached (what is shared counts as often as it is met; a slice's spare places count too). A statement '..UptoSaid' is the law's where the arguments, and the package variables that the reading takes, are together of bulk at most 1048576: NARROWER than '..Said'. Prove '..Said' where nothing that the law and all that it calls make is longer than what came in: it says more and counts as full. Else prove '..UptoSaid'. A law counts once. -/
mutual
def uptoBulk {H : Type} : DataW H → Nat
  | .lit (.string bytes) => bytes.length + 1
  | .lit _ => 1
  | .nil => 1
  | .ptr d => uptoBulk d + 1
  | .slice elems spare => uptoBulkAll elems + uptoBulkAll spare + 1
  | .agg parts => uptoBulkAll parts + 1
  | .iface _ d => uptoBulk d + 1
  | .map entries => uptoBulkEntries entries + 1
  | .held _ => 1
def uptoBulkAll {H : Type} : List (DataW H) → Nat
  | [] => 0
  | d :: r => uptoBulk d + uptoBulkAll r
def uptoBulkEntries {H : Type} : List (Lit × DataW H) → Nat
  | [] => 0
  | x :: r => uptoBulkEntry x + uptoBulkEntries r
def uptoBulkEntry {H : Type} : Lit × DataW H → Nat
  | (.string bytes, d) => bytes.length + uptoBulk d + 1
  | (_, d) => uptoBulk d + 1
 end
def uptoSmall : (H : Type) → List (DataW H) → Bool := fun _ ds => decide (uptoBulkAll ds ≤ 1048576)
def OpenSpec.upto (s : _root_.Go.ChangeSpec) : _root_.Go.OpenSpec := { _root_.Go.OpenSpec.ofChange s with cond := some uptoSmall }

/-- 'chancerylaw3.PrintingPlaces', WHERE WHAT IT READS IS OF BULK AT MOST 1048576: true; the input reads as it did. -/
def printingPlacesUptoRow : OpenClaim := { program := "ytpbnkkeplhgepaa", sum := "d02f9b999527ea9bc5c9e395042d191d167e4cd0e17aa2a74fdcbef9b5a3aafe", func := "chancery/chancerylaw3.PrintingPlaces", spec := "printingPlaces", apart := false, narrowed := true }
def PrintingPlacesUptoSaid : Prop := printingPlacesUptoRow.holds Try.pinned (OpenSpec.upto printingPlacesSpec)

/-- 'chancerylaw3.ScaleFindsLeastStep', WHERE WHAT IT READS IS OF BULK AT MOST 1048576: true; the input reads as it did. -/
def scaleFindsLeastStepUptoRow : OpenClaim := { program := "ytpbnkkeplhgepaa", sum := "d02f9b999527ea9bc5c9e395042d191d167e4cd0e17aa2a74fdcbef9b5a3aafe", func := "chancery/chancerylaw3.ScaleFindsLeastStep", spec := "scaleFindsLeastStep", apart := false, narrowed := true }
def ScaleFindsLeastStepUptoSaid : Prop := scaleFindsLeastStepUptoRow.holds Try.pinned (OpenSpec.upto scaleFindsLeastStepSpec)

/-- 'chancerylaw3.BidiOrderReverses', WHERE WHAT IT READS IS OF BULK AT MOST 1048576: true; the input reads as it did. -/
def bidiOrderReversesUptoRow : OpenClaim := { program := "ytpbnkkeplhgepaa", sum := "d02f9b999527ea9bc5c9e395042d191d167e4cd0e17aa2a74fdcbef9b5a3aafe", func := "chancery/chancerylaw3.BidiOrderReverses", spec := "bidiOrderReverses", apart := false, narrowed := true }
def BidiOrderReversesUptoSaid : Prop := bidiOrderReversesUptoRow.holds Try.pinned (OpenSpec.upto bidiOrderReversesSpec)

/-- 'chancerylaw3.ScalePlaces', WHERE WHAT IT READS IS OF BULK AT MOST 1048576: true; the input reads as it did. -/
def scalePlacesUptoRow : OpenClaim := { program := "ytpbnkkeplhgepaa", sum := "d02f9b999527ea9bc5c9e395042d191d167e4cd0e17aa2a74fdcbef9b5a3aafe", func := "chancery/chancerylaw3.ScalePlaces", spec := "scalePlaces", apart := false, narrowed := true }
def ScalePlacesUptoSaid : Prop := scalePlacesUptoRow.holds Try.pinned (OpenSpec.upto scalePlacesSpec)

/-- 'chancerylaw3.PrintingOrders', WHERE WHAT IT READS IS OF BULK AT MOST 1048576: true; the input reads as it did. -/
def printingOrdersUptoRow : OpenClaim := { program := "ytpbnkkeplhgepaa", sum := "d02f9b999527ea9bc5c9e395042d191d167e4cd0e17aa2a74fdcbef9b5a3aafe", func := "chancery/chancerylaw3.PrintingOrders", spec := "printingOrders", apart := false, narrowed := true }
def PrintingOrdersUptoSaid : Prop := printingOrdersUptoRow.holds Try.pinned (OpenSpec.upto printingOrdersSpec)

/-- 'chancerylaw3.ChartSectorsAndShares', WHERE WHAT IT READS IS OF BULK AT MOST 1048576: true; the input reads as it did. -/
def chartSectorsAndSharesUptoRow : OpenClaim := { program := "ytpbnkkeplhgepaa", sum := "d02f9b999527ea9bc5c9e395042d191d167e4cd0e17aa2a74fdcbef9b5a3aafe", func := "chancery/chancerylaw3.ChartSectorsAndShares", spec := "chartSectorsAndShares", apart := false, narrowed := true }
def ChartSectorsAndSharesUptoSaid : Prop := chartSectorsAndSharesUptoRow.holds Try.pinned (OpenSpec.upto chartSectorsAndSharesSpec)

/-- 'chancerylaw3.ClockReports', WHERE WHAT IT READS IS OF BULK AT MOST 1048576: true; the input reads as it did. -/
def clockReportsUptoRow : OpenClaim := { program := "ytpbnkkeplhgepaa", sum := "d02f9b999527ea9bc5c9e395042d191d167e4cd0e17aa2a74fdcbef9b5a3aafe", func := "chancery/chancerylaw3.ClockReports", spec := "clockReports", apart := false, narrowed := true }
def ClockReportsUptoSaid : Prop := clockReportsUptoRow.holds Try.pinned (OpenSpec.upto clockReportsSpec)

/-- 'chancerylaw3.ClockLeft', WHERE WHAT IT READS IS OF BULK AT MOST 1048576: true; the input reads as it did. -/
def clockLeftUptoRow : OpenClaim := { program := "ytpbnkkeplhgepaa", sum := "d02f9b999527ea9bc5c9e395042d191d167e4cd0e17aa2a74fdcbef9b5a3aafe", func := "chancery/chancerylaw3.ClockLeft", spec := "clockLeft", apart := false, narrowed := true }
def ClockLeftUptoSaid : Prop := clockLeftUptoRow.holds Try.pinned (OpenSpec.upto clockLeftSpec)

/-- 'chancerylaw3.BalanceNeeds', WHERE WHAT IT READS IS OF BULK AT MOST 1048576: true; the input reads as it did. -/
def balanceNeedsUptoRow : OpenClaim := { program := "ytpbnkkeplhgepaa", sum := "d02f9b999527ea9bc5c9e395042d191d167e4cd0e17aa2a74fdcbef9b5a3aafe", func := "chancery/chancerylaw3.BalanceNeeds", spec := "balanceNeeds", unfollowed := true, recurses := true, apart := false, narrowed := true }
def BalanceNeedsUptoSaid : Prop := balanceNeedsUptoRow.holds Try.pinned (OpenSpec.upto balanceNeedsSpec)

/-- 'chancerylaw3.BalanceWidths', WHERE WHAT IT READS IS OF BULK AT MOST 1048576: true; the input reads as it did. -/
def balanceWidthsUptoRow : OpenClaim := { program := "ytpbnkkeplhgepaa", sum := "d02f9b999527ea9bc5c9e395042d191d167e4cd0e17aa2a74fdcbef9b5a3aafe", func := "chancery/chancerylaw3.BalanceWidths", spec := "balanceWidths", unfollowed := true, recurses := true, apart := false, narrowed := true }
def BalanceWidthsUptoSaid : Prop := balanceWidthsUptoRow.holds Try.pinned (OpenSpec.upto balanceWidthsSpec)

end Rows
end Go.Proofs.Ytpbnkkeplhgepaa
