/-
  Points in the coordinates of a group; which shape a point hits.
-/
import Derived.Test.YtnigebnibikolaaDoorShOutPlain
namespace Go.Law.Sh
open Go.RowKit
/-- a point turned back around the middle of a shape -/
def turnBk (e : Nat → Int) (p : Int × Int) : Int × Int :=
  (turnX p.1 p.2 (wrap64 (wrap64 (2 * e 3) + e 5)) (wrap64 (wrap64 (2 * e 4) + e 6)) (-(e 7)), turnY p.1 p.2 (wrap64 (wrap64 (2 * e 3) + e 5)) (wrap64 (wrap64 (2 * e 4) + e 6)) (-(e 7)))
/-- a point of the coordinates around a group in those of the group -/
def stepIn (e : Nat → Int) (p : Int × Int) : Int × Int := (wrap64 ((turnBk e p).1 - e 3), wrap64 ((turnBk e p).2 - e 4))
def inG (n : Nat) (E : Nat → Nat → Int) (p : Int × Int) : Nat → Int → Int × Int
  | 0, _ => p
  | f + 1, g => if g = 0 then p else stepIn (E (findV n E g).toNat) (inG n E p f (E (findV n E g).toNat 1))
theorem inG_zero (n : Nat) (E : Nat → Nat → Int) (p : Int × Int) (f : Nat) : inG n E p f 0 = p := by cases f <;> rfl
theorem inG_step {n k f : Nat} {E : Nat → Nat → Int} {p : Int × Int} {g : Int} (hg : g ≠ 0) (hk : findV n E g = k) : inG n E p (f + 1) g = stepIn (E k) (inG n E p f (E k 1)) := by
  rw [inG, if_neg hg, hk]; rfl
theorem meas_zero {n : Nat} {E : Nat → Nat → Int} {g : Int} (h : meas n E g = 0) : g = 0 := by
  unfold meas at h
  split at h
  · assumption
  · omega
def locP (n : Nat) (E : Nat → Nat → Int) (k : Nat) (p : Int × Int) : Int × Int := turnBk (E k) (inG n E p n (E k 1))
def ovU (x e3 e5 : Int) : Int := rnd (1024 * (2 * x - 2 * e3 - e5)) e5
def boxB (e : Nat → Int) (x y : Int) : Prop := (e 3 ≤ x ∧ x ≤ e 3 + e 5) ∧ (e 4 ≤ y ∧ y ≤ e 4 + e 6)
def ovalB (e : Nat → Int) : Prop := e 2 = 1 ∧ 0 < e 5 ∧ 0 < e 6
instance (e : Nat → Int) (x y : Int) : Decidable (boxB e x y) := by unfold boxB; infer_instance
instance (e : Nat → Int) : Decidable (ovalB e) := by unfold ovalB; infer_instance
/-- whether a point is in a shape that is not turned -/
def insB (e : Nat → Int) (p : Int × Int) : Bool :=
  if ¬ boxB e p.1 p.2 then false else if ¬ ovalB e then true else
    decide (wrap64 (wrap64 (ovU p.1 (e 3) (e 5) * ovU p.1 (e 3) (e 5)) + wrap64 (ovU p.2 (e 4) (e 6) * ovU p.2 (e 4) (e 6))) ≤ 1048576)
theorem insB_out {e : Nat → Int} {p : Int × Int} (h : ¬ boxB e p.1 p.2) : insB e p = false := by unfold insB; rw [if_pos h]
theorem insB_box {e : Nat → Int} {p : Int × Int} (h : boxB e p.1 p.2) (h2 : ¬ ovalB e) : insB e p = true := by unfold insB; rw [if_neg (by simpa using h), if_pos h2]
theorem insB_oval {e : Nat → Int} {p : Int × Int} (h : boxB e p.1 p.2) (h2 : ovalB e) :
    insB e p = decide (wrap64 (wrap64 (ovU p.1 (e 3) (e 5) * ovU p.1 (e 3) (e 5)) + wrap64 (ovU p.2 (e 4) (e 6) * ovU p.2 (e 4) (e 6))) ≤ 1048576) := by
  unfold insB; rw [if_neg (by simpa using h), if_neg (by simpa using h2)]
/-- a shape that can be hit, and is -/
def hits (n : Nat) (E : Nat → Nat → Int) (p : Int × Int) (k : Nat) : Bool := if E k 2 = 5 ∨ E k 2 = 6 then false else insB (E k) (locP n E k p)
theorem hits_kind {n k : Nat} {E : Nat → Nat → Int} {p : Int × Int} (h : E k 2 = 5 ∨ E k 2 = 6) : hits n E p k = false := by unfold hits; rw [if_pos h]
theorem hits_other {n k : Nat} {E : Nat → Nat → Int} {p : Int × Int} (h : ¬ (E k 2 = 5 ∨ E k 2 = 6)) : hits n E p k = insB (E k) (locP n E k p) := by unfold hits; rw [if_neg h]
/-- the last of the first m shapes that is hit -/
def hitV (n : Nat) (E : Nat → Nat → Int) (p : Int × Int) : Nat → Int
  | 0 => 0
  | m + 1 => if hits n E p m = true then E m 0 else hitV n E p m
theorem hitV_yes {n m : Nat} {E : Nat → Nat → Int} {p : Int × Int} (h : hits n E p m = true) : hitV n E p (m + 1) = E m 0 := by rw [hitV, if_pos h]
theorem hitV_no {n m : Nat} {E : Nat → Nat → Int} {p : Int × Int} (h : hits n E p m = false) : hitV n E p (m + 1) = hitV n E p m := by rw [hitV, if_neg (by simp [h])]
end Go.Law.Sh
