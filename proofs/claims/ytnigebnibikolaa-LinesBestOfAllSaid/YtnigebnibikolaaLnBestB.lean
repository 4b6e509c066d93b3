/-
  The best way: bounds.
-/
import Derived.Test.YtnigebnibikolaaLnBestP
namespace Go.Law.Ln
open Go.Law
set_option linter.unusedVariables false
theorem badF_bound (d c : Int) (hd : 0 ≤ d) (hc : 0 ≤ c) : 0 ≤ badF d c ∧ badF d c ≤ 10000 := by
  unfold badF
  split
  · omega
  · split
    · omega
    · have hq0 : 0 ≤ 1000 * d / c := Int.ediv_nonneg (by omega) hc
      have hq1 : 0 ≤ min (1000 * d / c) 5000 := by omega
      have := Int.ediv_nonneg (Int.mul_nonneg (Int.mul_nonneg hq1 hq1) hq1) (show (0 : Int) ≤ 10000000 by omega)
      omega
theorem sq_bound {b : Int} (h : 0 ≤ b ∧ b ≤ 10000) : 0 ≤ (10 + b) * (10 + b) ∧ (10 + b) * (10 + b) ≤ 100200100 :=
  ⟨Int.mul_nonneg (by omega) (by omega), Int.le_trans (Int.mul_le_mul (c := 10010) (d := 10010) (by omega) (by omega) (by omega) (by omega)) (by omega)⟩
/-- what is known of parts and of a shape -/
structure Good (n : Nat) (L : Nat → Part) (nw : Nat) (W : Nat → Int) (D : Int) : Prop where
  parts : ∀ i, i < n → (L i).Ok
  count : n ≤ 8000
  some : 1 ≤ nw ∧ nw ≤ 1000
  wide : ∀ i, i < nw → 1 ≤ W i ∧ W i ≤ 100000
  double : 0 ≤ D ∧ D ≤ 1000000
section
variable {n : Nat} {L : Nat → Part} {nw : Nat} {W : Nat → Int} {D : Int}
theorem penC_bound (h : Good n L nw W D) (z : Nat) : -100000000 ≤ penC n L z ∧ penC n L z ≤ 100000000 := by
  unfold penC
  split
  · rename_i h1
    have hc := (h.parts z h1.1).cost
    have hc2 : 0 ≤ (L z).cost * (L z).cost ∧ (L z).cost * (L z).cost ≤ 100000000 := by
      rcases Int.le_total 0 (L z).cost with h2 | h2
      · exact ⟨Int.mul_nonneg h2 h2, Int.le_trans (Int.mul_le_mul (c := 10000) (d := 10000) (by omega) (by omega) (by omega) (by omega)) (by omega)⟩
      · have e : (L z).cost * (L z).cost = (-(L z).cost) * (-(L z).cost) := by rw [Int.neg_mul_neg]
        rw [e]
        exact ⟨Int.mul_nonneg (by omega) (by omega), Int.le_trans (Int.mul_le_mul (c := 10000) (d := 10000) (by omega) (by omega) (by omega) (by omega)) (by omega)⟩
    split <;> omega
  · omega
theorem lineW (h : Good n L nw W D) (a z num : Nat) : 1 ≤ (lineF n L nw W a z num).wid ∧ (lineF n L nw W a z num).wid ≤ 100000 :=
  h.wide _ (by have := h.some; omega)
theorem costF_bound (h : Good n L nw W D) {a z num : Nat} (ha : a ≤ z) (hz : z ≤ n) : -100000000 ≤ costF n L (lineF n L nw W a z num) ∧ costF n L (lineF n L nw W a z num) ≤ 2500000000000 := by
  have h1 := line_bd (nw := nw) (W := W) (num := num) h.count h.parts ha hz
  have h2 := lineW h a z num
  have h3 := penC_bound h z
  unfold costF bareC
  rw [show (lineF n L nw W a z num).z = z from rfl]
  generalize lineF n L nw W a z num = x at *
  obtain ⟨k1, k2, k3⟩ := h1
  split
  · omega
  · split
    · have := sq_bound (badF_bound (-(x.wid - x.nat)) x.shr (by omega) k3.1)
      omega
    · split
      · omega
      · have := sq_bound (badF_bound (x.wid - x.nat) x.str (by omega) k2.1)
        omega
theorem dblF_bound (h : Good n L nw W D) (flag : Bool) (z : Nat) : 0 ≤ dblF n L D flag z ∧ dblF n L D flag z ≤ 1000000 := by
  unfold dblF
  have := h.double
  split <;> omega
def In3 (n a : Nat) (p : Pl) : Prop := (a ≤ p.1 ∧ p.1 ≤ n) ∧ (-(3000000000000 * ((n + 1 - a : Nat) : Int)) ≤ p.2.1 ∧ p.2.1 ≤ 3000000000000 * ((n + 1 - a : Nat) : Int)) ∧ 1 ≤ p.2.2 ∧ p.2.2 ≤ n + 1 - a
theorem way_in3 (h : Good n L nw W D) {rec : Nat → Nat → Bool → Pl} {a num : Nat} {flag : Bool} {x : Line} (hx : x = lineF n L nw W a x.z num ∧ a ≤ x.z ∧ x.z ≤ n) (hr : lastB n L x.z = false → In3 n (aftF n L x.z) (rec (aftF n L x.z) (num + 1) (flgB n L x.z))) :
    In3 n a (x.z, (wayC n L D rec num flag x).1, (wayC n L D rec num flag x).2) := by
  have h1 := costF_bound h hx.2.1 hx.2.2 (num := num)
  rw [← hx.1] at h1
  have h2 := dblF_bound h flag x.z
  unfold wayC
  cases hl : lastB n L x.z
  · have h3 := hr hl
    have h4 := aftF_gt hx.2.2 hl
    simp only [Bool.false_eq_true, if_false]
    unfold In3 at h3 ⊢
    simp only
    omega
  · simp only [if_true]
    unfold In3
    simp only
    omega
theorem best_in3 (h : Good n L nw W D) : ∀ (f a num : Nat) (flag : Bool), a ≤ n → n + 1 - a ≤ f → In3 n a (bestF n L nw W D a num flag) := by
  intro f
  induction f with
  | zero => intro a num flag ha h1; omega
  | succ f ih =>
    intro a num flag ha h1
    rw [bestF_eq ha]
    obtain ⟨p, hp⟩ := fold_some (n := n) (L := L) (D := D) (rec := bestF n L nw W D) (num := num) (flag := flag) (endF n L nw W a num) none (.inr (endF_some ha))
    rw [hp]
    refine fold_all (endF n L nw W a num) none (fun p hp => by cases hp) (fun x hx => way_in3 h (endF_mem ha hx) (fun hl => ?_)) p hp
    obtain ⟨_, hx1, hx2⟩ := endF_mem ha hx
    have := aftF_gt hx2 hl
    exact ih _ _ _ (by omega) (by omega)
end
end Go.Law.Ln
