

/-
  corners: what they are; indexes into a row of pairs.
-/
import Derived.Test.YtabnohphgegflaaDoorShOutPlain
import Derived.Test.YtabnohphgegflaaDoorShTurn
namespace Go.Law.Sh
open Go.RowKit
def cornX (e : Nat → Int) : Nat → Int
  | 0 => e 3
  | 1 => e 3 + e 5
  | 2 => e 3 + e 5
  | _ => e 3
def cornY (e : Nat → Int) : Nat → Int
  | 0 => e 4
  | 1 => e 4
  | 2 => e 4 + e 6
  | _ => e 4 + e 6
/-- a corner of a shape in the drawing -/
def cornP (n : Nat) (E : Nat → Nat → Int) (k i : Nat) : Int × Int :=
  outP n E n (E k 1) (turnX (cornX (E k) i) (cornY (E k) i) (2 * E k 3 + E k 5) (2 * E k 4 + E k 6) (E k 7)) (turnY (cornX (E k) i) (cornY (E k) i) (2 * E k 3 + E k 5) (2 * E k 4 + E k 6) (E k 7))
/-- the corners that are there after i steps -/
def cornC (P : Nat → Int × Int) (i : Nat) : Array Value :=
  #[.int .i64 (if 0 < i then (P 0).1 else 0), .int .i64 (if 0 < i then (P 0).2 else 0), .int .i64 (if 1 < i then (P 1).1 else 0), .int .i64 (if 1 < i then (P 1).2 else 0), .int .i64 (if 2 < i then (P 2).1 else 0), .int .i64 (if 2 < i then (P 2).2 else 0), .int .i64 (if 3 < i then (P 3).1 else 0), .int .i64 (if 3 < i then (P 3).2 else 0)]
end Go.Law.Sh
namespace Go.Proofs.YtabnohphgegflaaDoor.ShT
open Go.RowKit Go.Law Go.Law.Sh
set_option linter.unusedVariables false
set_option linter.unusedSimpArgs false
set_option maxRecDepth 100000
theorem idx (cs : Array Value) (i : Nat) (hi : i < 4) (w : World) : (Instr.index 82 (.agg cs) (.int .i64 i)).run Tryd.prog w = .ok (.agg (cs.extract (i * 2) (i * 2 + 2))) w := by
  have h : (0 : Int) ≤ (i : Int) ∧ (i : Int) < ((4 : Nat) : Int) := by omega
  have e1 : (Instr.index 82 (.agg cs) (.int .i64 i)).run Tryd.prog w = (part 41 cs (i * 2)).run Tryd.prog w := by
    simp [Instr.index, run_underlying Tryd.underlying82, asIntOf, h, go_sem]
    intro h4; omega
  rw [e1]
  simp [part, isAgg, run_underlying Tryd.underlying41, go_sem]
theorem idx0 (v0 v1 v2 v3 v4 v5 v6 v7 : Value) (w : World) : (Instr.index 82 (.agg #[v0, v1, v2, v3, v4, v5, v6, v7]) (.int .i64 0)).run Tryd.prog w = .ok (.agg #[v0, v1]) w := by
  have h := idx #[v0, v1, v2, v3, v4, v5, v6, v7] 0 (by omega) w
  exact h
theorem idx1 (v0 v1 v2 v3 v4 v5 v6 v7 : Value) (w : World) : (Instr.index 82 (.agg #[v0, v1, v2, v3, v4, v5, v6, v7]) (.int .i64 1)).run Tryd.prog w = .ok (.agg #[v2, v3]) w := by
  have h := idx #[v0, v1, v2, v3, v4, v5, v6, v7] 1 (by omega) w
  exact h
theorem idx2 (v0 v1 v2 v3 v4 v5 v6 v7 : Value) (w : World) : (Instr.index 82 (.agg #[v0, v1, v2, v3, v4, v5, v6, v7]) (.int .i64 2)).run Tryd.prog w = .ok (.agg #[v4, v5]) w := by
  have h := idx #[v0, v1, v2, v3, v4, v5, v6, v7] 2 (by omega) w
  exact h
theorem idx3 (v0 v1 v2 v3 v4 v5 v6 v7 : Value) (w : World) : (Instr.index 82 (.agg #[v0, v1, v2, v3, v4, v5, v6, v7]) (.int .i64 3)).run Tryd.prog w = .ok (.agg #[v6, v7]) w := by
  have h := idx #[v0, v1, v2, v3, v4, v5, v6, v7] 3 (by omega) w
  exact h
end Go.Proofs.YtabnohphgegflaaDoor.ShT
