/-
  Fill, whole.
-/
import Derived.Test.YtnigebnibikolaaLnFill2
namespace Go.Proofs.Ytnigebnibikolaa.LN
open Go.RowKit Go.Law Go.Law.Ln
theorem fill_any (n : Nat) (L : Nat → Part) (aP : Option Addr) (cP a z : Nat) (N0 S0 R0 X : Int) (just : Bool) (w : World) (mP : CellsF w aP n 6 (fun i => (L i).V)) (hcP : n ≤ cP) (hcM : cP ≤ 1000000000000000) (haz : a ≤ z) (hz : z ≤ n) (hX : 1 ≤ X ∧ X ≤ 100000) (hE : partsE n L = 0) :
    Calls Try.prog 34 #[.slice aP n cP, .agg #[.int .i64 a, .int .i64 z, .int .i64 N0, .int .i64 S0, .int .i64 R0, .int .i64 X], .bool just] w (FlPost w (fillF n L X a z just)) := by
  by_cases h : a < z
  · exact fill_some n L aP cP a z N0 S0 R0 X just w mP hcP hcM h hz hX hE
  · obtain rfl : z = a := by omega
    exact fill_none n L aP cP z N0 S0 R0 X just w mP hcP hcM hz hX hE
end Go.Proofs.Ytnigebnibikolaa.LN
