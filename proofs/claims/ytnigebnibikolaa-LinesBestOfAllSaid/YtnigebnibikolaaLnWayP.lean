/-
  The best way as the reference keeps it: plain laws.
-/
import Derived.Test.YtnigebnibikolaaLnPath
namespace Go.Law.Ln
set_option linter.unusedVariables false
open Go.RowKit Go.Law
section
variable (n : Nat) (L : Nat → Part) (nw : Nat) (W : Nat → Int) (D : Int)
/-- a line and the best lines behind it -/
def wayL (num : Nat) (x : Line) : List Line := x :: (if lastB n L x.z = true then [] else pathF n L nw W D (aftF n L x.z) (num + 1) (flgB n L x.z))
/-- the lines that a plan stands for -/
def accL (a num : Nat) : Option Pl → List Line
  | none => []
  | some p => wayL n L nw W D num (lineF n L nw W a p.1 num)
def accN : Option Pl → Int
  | none => 0
  | some p => p.2.1
end
section
variable {n : Nat} {L : Nat → Part} {nw : Nat} {W : Nat → Int} {D : Int}
theorem pathF_way (h : Good n L nw W D) {a num : Nat} {flag : Bool} (ha : a ≤ n) : pathF n L nw W D a num flag = wayL n L nw W D num (lineF n L nw W a (bestF n L nw W D a num flag).1 num) := by
  unfold wayL
  cases hl : lastB n L (bestF n L nw W D a num flag).1
  · rw [pathF_next h ha hl, if_neg (by simp only [lineF]; rw [hl]; decide)]; rfl
  · rw [pathF_last h ha hl, if_pos (by simp only [lineF]; exact hl)]
theorem path_len (h : Good n L nw W D) : ∀ (f a num : Nat) (flag : Bool), a ≤ n → n + 1 - a ≤ f → (pathF n L nw W D a num flag).length = (bestF n L nw W D a num flag).2.2 := by
  intro f
  induction f with
  | zero => intro a num flag ha hf; omega
  | succ f ih =>
    intro a num flag ha hf
    rw [pathF_way h ha]
    have hall := fold_all (n := n) (L := L) (D := D) (P := fun p => p.2.2 = (wayL n L nw W D num (lineF n L nw W a p.1 num)).length) (rec := bestF n L nw W D) (num := num) (flag := flag) (endF n L nw W a num) none (fun p hp => by cases hp) (fun x hx => ?_) _ (fold_best (flag := flag) ha)
    · exact hall.symm
    · obtain ⟨hxe, h1, h2⟩ := endF_mem ha hx
      simp only
      rw [← hxe]
      unfold wayC wayL
      cases hl : lastB n L x.z
      · rw [if_neg (by decide), if_neg (by decide)]
        have := aftF_gt h2 hl
        simp only [List.length_cons]
        rw [ih _ _ _ (by omega) (by omega)]
        omega
      · rfl
theorem way_len (h : Good n L nw W D) {a num : Nat} {flag : Bool} (ha : a ≤ n) {x : Line} (hx : x ∈ endF n L nw W a num) : (wayC n L D (bestF n L nw W D) num flag x).2 = (wayL n L nw W D num x).length := by
  obtain ⟨hxe, h1, h2⟩ := endF_mem ha hx
  unfold wayC wayL
  cases hl : lastB n L x.z
  · rw [if_neg (by decide), if_neg (by decide)]
    have := aftF_gt h2 hl
    simp only [List.length_cons]
    rw [path_len h _ _ _ _ (by omega) (Nat.le_refl _)]
    omega
  · rfl
/-- a step of the fold, as the reference takes it -/
theorem step_way (h : Good n L nw W D) {a num : Nat} {flag : Bool} (ha : a ≤ n) {acc : Option Pl} {x : Line} (hx : x ∈ endF n L nw W a num) (hk : ∀ p, acc = some p → p.2.2 = (accL n L nw W D a num acc).length) :
    (acc = none ∨ (wayC n L D (bestF n L nw W D) num flag x).1 < accN acc ∨ ((wayC n L D (bestF n L nw W D) num flag x).1 = accN acc ∧ (wayL n L nw W D num x).length ≤ (accL n L nw W D a num acc).length) →
      stepB n L D (bestF n L nw W D) num flag acc x = some (x.z, (wayC n L D (bestF n L nw W D) num flag x).1, (wayL n L nw W D num x).length)) ∧
    (¬ (acc = none ∨ (wayC n L D (bestF n L nw W D) num flag x).1 < accN acc ∨ ((wayC n L D (bestF n L nw W D) num flag x).1 = accN acc ∧ (wayL n L nw W D num x).length ≤ (accL n L nw W D a num acc).length)) →
      stepB n L D (bestF n L nw W D) num flag acc x = acc) := by
  have hlen := way_len h (flag := flag) ha hx
  unfold stepB
  rw [hlen]
  cases acc with
  | none => exact ⟨fun _ => rfl, fun hn => absurd (.inl rfl) hn⟩
  | some p =>
    have hp := hk p rfl
    rw [← hp]
    simp only [accN, better]
    refine ⟨fun hh => ?_, fun hh => ?_⟩
    · rw [if_pos (by rcases hh with h0 | h0; · cases h0
                     · exact h0)]
    · rw [if_neg (fun h0 => hh (.inr h0))]
end
end Go.Law.Ln
