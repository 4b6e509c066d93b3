/-
  How a block of a function's code is named, so that a loop can be walked in a theorem of its own.
-/
import Derived.Says
import Derived.Deep.CutBlock
namespace Go.Law
/-- the block of a number in a code -/
def blkOf (n : Nat) : Code → Option Code
  | .block k c => match Nat.beq k n with
    | true => some (.block k c)
    | false => blkOf n c
  | .loop c => blkOf n c
  | .scope c => blkOf n c
  | .seq a b => match blkOf n a with
    | some c => some c
    | none => blkOf n b
  | .cond _ a b => match blkOf n a with
    | some c => some c
    | none => blkOf n b
  | _ => none
noncomputable def theBlk (f : Func) (n : Nat) : Code := (f.body.bind (blkOf n)).getD .skip
end Go.Law
