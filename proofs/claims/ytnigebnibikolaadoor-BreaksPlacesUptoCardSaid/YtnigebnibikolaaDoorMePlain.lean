/-
  Widths of characters and texts in plain Lean.
-/
import Derived.Test.YtnigebnibikolaaDoorMeTabs
namespace Go.Law.Me
open Go.Law
theorem lookC_bd {c d lo hi : Int} : ∀ {T : List (List (Int × Int) × Int)}, (T.all fun x => decide (lo ≤ x.2 ∧ x.2 ≤ hi)) = true → (lo ≤ d ∧ d ≤ hi) → lo ≤ lookC c T d ∧ lookC c T d ≤ hi
  | [], _, hd => hd
  | (rs, v) :: t, h, hd => by
    rw [List.all_cons, Bool.and_eq_true] at h
    cases h1 : anyR c rs
    · rw [lookC_no h1]; exact lookC_bd h.2 hd
    · rw [lookC_yes h1]; simpa using h.1
theorem em_bd (c : Int) : 0 ≤ emC c ∧ emC c ≤ 1000 := lookC_bd (by decide +kernel) (by omega)
/-- the width of a character with a look, in thousandths -/
def advE (e : Int) (bold fixed : Bool) : Int := if e = 0 then 0 else if fixed = true then (if e = 1000 then 1200 else 600) else if bold = true then e + 40 else e
theorem advE_bd {e : Int} (h : 0 ≤ e ∧ e ≤ 1000) (bold fixed : Bool) : 0 ≤ advE e bold fixed ∧ advE e bold fixed ≤ 1200 := by
  unfold advE; (repeat' split) <;> omega
/-- a look: its size, bold, fixed -/
structure Look where
  size : Int
  bold : Bool
  fixed : Bool
def Look.ok (k : Look) : Prop := 40 ≤ k.size ∧ k.size ≤ 4000
def half (a : Int) : Int := (2 * a + 1000) / 2000
def adv (c : Int) (k : Look) : Int := half (advE (emC c) k.bold k.fixed * k.size)
theorem mul_bd {e s : Int} (h : 0 ≤ e ∧ e ≤ 1200) (hs : 40 ≤ s ∧ s ≤ 4000) : 0 ≤ e * s ∧ e * s ≤ 4800000 := by
  refine ⟨Int.mul_nonneg h.1 (by omega), ?_⟩
  have := Int.mul_le_mul h.2 hs.2 (by omega) (by omega)
  omega
theorem half_bd {a : Int} (h : 0 ≤ a ∧ a ≤ 4800000) : 0 ≤ half a ∧ half a ≤ 4800 := by unfold half; omega
theorem adv_bd (c : Int) {k : Look} (hk : k.ok) : 0 ≤ adv c k ∧ adv c k ≤ 4800 := half_bd (mul_bd (advE_bd (em_bd c) _ _) hk)
def leanR : List (Int × Int) := [one 84, one 86, one 87, one 89]
def lean (c : Int) : Bool := anyR c leanR
/-- how much nearer two characters stand, in thousandths -/
def pair (a b : Int) : Int := if (lean a = true ∧ b = 65) ∨ (a = 65 ∧ lean b = true) then 70 else if (lean a = true ∨ a = 80) ∧ (b = 46 ∨ b = 44) then 90 else 0
theorem pair_bd (a b : Int) : 0 ≤ pair a b ∧ pair a b ≤ 90 := by unfold pair; (repeat' split) <;> omega
def nearer (a b : Int) (k : Look) : Int := if k.fixed = true then 0 else half (pair a b * k.size)
theorem nearer_bd (a b : Int) {k : Look} (hk : k.ok) : 0 ≤ nearer a b k ∧ nearer a b k ≤ 4800 := by
  unfold nearer
  split
  · omega
  · exact half_bd (mul_bd (by have := pair_bd a b; omega) hk)
/-- the width of the first characters -/
def wid (t : Nat → Int) (k : Look) : Nat → Int
  | 0 => 0
  | n + 1 => wid t k n + adv (t n) k - (if 0 < n then nearer (t (n - 1)) (t n) k else 0)
/-- likewise, but each with its nearness to the next one -/
def widT (t : Nat → Int) (k : Look) (m : Nat) : Nat → Int
  | 0 => 0
  | n + 1 => widT t k m n + adv (t n) k - (if n + 1 < m then nearer (t n) (t (n + 1)) k else 0)
theorem widT_lt {t : Nat → Int} {k : Look} {m : Nat} : ∀ n : Nat, n < m → widT t k m n = wid t k n - (if 0 < n then nearer (t (n - 1)) (t n) k else 0)
  | 0, _ => rfl
  | n + 1, h => by
    have ih := widT_lt (t := t) (k := k) (m := m) n (show n < m by omega)
    simp only [widT, wid]
    rw [ih, if_pos h, if_pos (show 0 < n + 1 by omega), Nat.add_sub_cancel]
    omega
theorem widT_all {t : Nat → Int} {k : Look} : ∀ m : Nat, widT t k m m = wid t k m
  | 0 => rfl
  | m + 1 => by
    have h := widT_lt (t := t) (k := k) (m := m + 1) m (by omega)
    simp only [widT, wid]
    rw [h, if_neg (show ¬ m + 1 < m + 1 by omega)]
    omega
theorem wid_bd {t : Nat → Int} {k : Look} (hk : k.ok) : ∀ n : Nat, -4800 * (n : Int) ≤ wid t k n ∧ wid t k n ≤ 4800 * (n : Int)
  | 0 => by simp [wid]
  | n + 1 => by
    have ih := wid_bd (t := t) hk n
    have h1 := adv_bd (t n) hk
    have h2 := nearer_bd (t (n - 1)) (t n) hk
    simp only [wid]
    split <;> omega
theorem widT_bd {t : Nat → Int} {k : Look} {m : Nat} (hk : k.ok) : ∀ n : Nat, -4800 * (n : Int) ≤ widT t k m n ∧ widT t k m n ≤ 4800 * (n : Int)
  | 0 => by simp [widT]
  | n + 1 => by
    have ih := widT_bd (t := t) (m := m) hk n
    have h1 := adv_bd (t n) hk
    have h2 := nearer_bd (t n) (t (n + 1)) hk
    simp only [widT]
    split <;> omega
end Go.Law.Me
