/-
  Points of groups in the coordinates of the drawing.
-/
import Derived.Test.YtabnohphgegflaaDoorShErrPlain
namespace Go.Law.Sh
open Go.RowKit
theorem findV_more {i n k : Nat} {E : Nat → Nat → Int} {g : Int} (h : findV i E g = k) (hi : i ≤ n) : findV n E g = k := by
  rcases findV_cases i E g with ⟨h1, _⟩ | ⟨j, hj, h1, h2, h3⟩
  · omega
  · obtain rfl : j = k := by omega
    exact findV_some (by omega) h3 h2
/-- a shape that is right -/
def Right (E : Nat → Nat → Int) (i : Nat) : Prop := kindS (E i) ∧ numS (E i) ∧ boxS (E i) ∧ endS (E i) ∧ findV i E (E i 0) < 0 ∧ parE i E 19 (E i 1) = 0
theorem right_of {E : Nat → Nat → Int} {i : Nat} (h : errAt E i = 0) : Right E i := by
  unfold errAt at h
  by_cases h1 : kindS (E i)
  · rw [if_neg (by simpa using h1)] at h
    by_cases h2 : numS (E i)
    · rw [if_neg (by simpa using h2)] at h
      by_cases h3 : boxS (E i)
      · rw [if_neg (by simpa using h3)] at h
        by_cases h4 : endS (E i)
        · rw [if_neg (by simpa using h4)] at h
          by_cases h5 : 0 ≤ findV i E (E i 0)
          · rw [if_pos h5] at h; omega
          · rw [if_neg h5] at h
            exact ⟨h1, h2, h3, h4, by omega, h⟩
        · rw [if_pos h4] at h; omega
      · rw [if_pos h3] at h; omega
    · rw [if_pos h2] at h; omega
  · rw [if_pos h1] at h; omega
/-- the group of a right shape lies before it -/
theorem Right.up {n i : Nat} {E : Nat → Nat → Int} (h : Right E i) (hi : i < n) : E i 1 = 0 ∨ ∃ k, k < i ∧ findV n E (E i 1) = k ∧ E k 2 = 5 := by
  obtain ⟨_, _, _, _, _, h⟩ := h
  by_cases hg : E i 1 = 0
  · exact .inl hg
  · refine .inr ?_
    rcases findV_cases i E (E i 1) with ⟨h1, _⟩ | ⟨k, hk, h1, _, _⟩
    · rw [parE_none hg (by omega)] at h; omega
    · by_cases h5 : E k 2 = 5
      · exact ⟨k, hk, findV_more h1 (by omega), h5⟩
      · rw [parE_kind hg h1 h5] at h; omega
/-- how far a group's chain may reach -/
def meas (n : Nat) (E : Nat → Nat → Int) (g : Int) : Nat := if g = 0 then 0 else (findV n E g).toNat + 1
/-- a point in the coordinates of a group in those of the group around it -/
def upX (e : Nat → Int) (x y : Int) : Int := turnX (wrap64 (x + e 3)) (wrap64 (y + e 4)) (wrap64 (wrap64 (2 * e 3) + e 5)) (wrap64 (wrap64 (2 * e 4) + e 6)) (e 7)
def upY (e : Nat → Int) (x y : Int) : Int := turnY (wrap64 (x + e 3)) (wrap64 (y + e 4)) (wrap64 (wrap64 (2 * e 3) + e 5)) (wrap64 (wrap64 (2 * e 4) + e 6)) (e 7)
def outP (n : Nat) (E : Nat → Nat → Int) : Nat → Int → Int → Int → Int × Int
  | 0, _, x, y => (x, y)
  | f + 1, g, x, y => if g = 0 then (x, y) else outP n E f (E (findV n E g).toNat 1) (upX (E (findV n E g).toNat) x y) (upY (E (findV n E g).toNat) x y)
theorem outP_zero (n : Nat) (E : Nat → Nat → Int) (f : Nat) (x y : Int) : outP n E f 0 x y = (x, y) := by cases f <;> rfl
theorem outP_step {n k f : Nat} {E : Nat → Nat → Int} {g x y : Int} (hg : g ≠ 0) (hk : findV n E g = k) : outP n E (f + 1) g x y = outP n E f (E k 1) (upX (E k) x y) (upY (E k) x y) := by
  rw [outP, if_neg hg, hk]; rfl
/-- a reference to a group, or to none -/
def Par (n : Nat) (E : Nat → Nat → Int) (g : Int) : Prop := g = 0 ∨ ∃ k, k < n ∧ findV n E g = k
theorem Par.next {n k : Nat} {E : Nat → Nat → Int} (hall : ∀ j, j < n → Right E j) (hk : k < n) : Par n E (E k 1) ∧ meas n E (E k 1) ≤ k := by
  unfold meas
  rcases (hall k hk).up hk with h | ⟨j, hj, h, _⟩
  · exact ⟨.inl h, by rw [if_pos h]; omega⟩
  · refine ⟨.inr ⟨j, by omega, h⟩, ?_⟩
    split
    · omega
    · rw [h]; omega
end Go.Law.Sh
