/-
  Frames of turned shapes: what they are.
-/
import Derived.Test.YtabnohphgegflaaDoorShCornP
import Derived.Test.YtabnohphgegflaaDoorShErrPlain
namespace Go.Law.Sh
open Go.RowKit
/-- a corner, turned -/
def tcX (e : Nat → Int) (i : Nat) : Int := turnX (cornX e i) (cornY e i) (2 * e 3 + e 5) (2 * e 4 + e 6) (e 7)
def tcY (e : Nat → Int) (i : Nat) : Int := turnY (cornX e i) (cornY e i) (2 * e 3 + e 5) (2 * e 4 + e 6) (e 7)
/-- the least and the greatest of the first i + 1 values -/
def mnF (f : Nat → Int) : Nat → Int
  | 0 => f 0
  | i + 1 => min (mnF f i) (f (i + 1))
def mxF (f : Nat → Int) : Nat → Int
  | 0 => f 0
  | i + 1 => max (mxF f i) (f (i + 1))
/-- the frame that stands after i steps -/
def frC (X Y : Nat → Int) : Nat → Array Value
  | 0 => #[.int .i64 0, .int .i64 0, .int .i64 0, .int .i64 0]
  | i + 1 => #[.int .i64 (mnF X i), .int .i64 (mnF Y i), .int .i64 (mxF X i), .int .i64 (mxF Y i)]
/-- the frame of a shape in its group -/
def frA (e : Nat → Int) : Array Value := frC (tcX e) (tcY e) 4
/-- the ends of a frame along an axis -/
def extA (e : Nat → Int) (ax : Int) : Int := if ax = 0 then mnF (tcX e) 3 else mnF (tcY e) 3
def extB (e : Nat → Int) (ax : Int) : Int := if ax = 0 then mxF (tcX e) 3 else mxF (tcY e) 3
theorem rnd_bound (a : Int) : -35184372088832 ≤ rnd a 131072 ∧ rnd a 131072 ≤ 35184372088832 := by
  unfold rnd
  have := wrap_range (wrap64 (2 * a) + 131072)
  omega
theorem mnF_bound {f : Nat → Int} (h : ∀ i, -35184372088832 ≤ f i ∧ f i ≤ 35184372088832) (i : Nat) : -35184372088832 ≤ mnF f i ∧ mnF f i ≤ 35184372088832 := by
  induction i with
  | zero => exact h 0
  | succ i ih => have := h (i + 1); unfold mnF; omega
theorem mxF_bound {f : Nat → Int} (h : ∀ i, -35184372088832 ≤ f i ∧ f i ≤ 35184372088832) (i : Nat) : -35184372088832 ≤ mxF f i ∧ mxF f i ≤ 35184372088832 := by
  induction i with
  | zero => exact h 0
  | succ i ih => have := h (i + 1); unfold mxF; omega
theorem tcX_bound (e : Nat → Int) (i : Nat) : -35184372088832 ≤ tcX e i ∧ tcX e i ≤ 35184372088832 := rnd_bound _
theorem tcY_bound (e : Nat → Int) (i : Nat) : -35184372088832 ≤ tcY e i ∧ tcY e i ≤ 35184372088832 := rnd_bound _
theorem extA_bound (e : Nat → Int) (ax : Int) : -35184372088832 ≤ extA e ax ∧ extA e ax ≤ 35184372088832 := by
  unfold extA
  split
  · exact mnF_bound (tcX_bound e) 3
  · exact mnF_bound (tcY_bound e) 3
theorem extB_bound (e : Nat → Int) (ax : Int) : -35184372088832 ≤ extB e ax ∧ extB e ax ≤ 35184372088832 := by
  unfold extB
  split
  · exact mxF_bound (tcX_bound e) 3
  · exact mxF_bound (tcY_bound e) 3
end Go.Law.Sh
