/-
  The reference's In.
-/
import Derived.Test.YtghbicajcffjhaaDoorProg
import Derived.Test.YtghbicajcffjhaaDoorCommon
import Derived.WalkLawsBesides
namespace Go.Proofs.YtghbicajcffjhaaDoor.Ref
open Go.RowKit Go.Law
def inB (n lo hi : Int) : Bool := decide (lo ≤ n ∧ n ≤ hi)
theorem inB_true {n lo hi : Int} : inB n lo hi = true ↔ lo ≤ n ∧ n ≤ hi := by simp [inB]
theorem inB_false {n lo hi : Int} : inB n lo hi = false ↔ ¬ (lo ≤ n ∧ n ≤ hi) := by simp only [inB, decide_eq_false_iff_not]
theorem in_any (n lo hi : Int) (w : World) : Calls Tryd.prog 49 #[.int .i64 n, .int .i64 lo, .int .i64 hi] w fun e w' => e = .returned (.bool (inB n lo hi)) ∧ w = w' := by
  go_enter Tryd.func49, Tryd.ntmps49
  go_wp2
  all_goals
    go_ret
    refine ⟨?_, rfl⟩
    simp [inB, *]
  omega
end Go.Proofs.YtghbicajcffjhaaDoor.Ref
