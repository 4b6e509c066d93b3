/-
  Lines that end as late as they can: plain laws.
-/
import Derived.Test.YtnigebnibikolaaLnBestI
namespace Go.Law.Ln
set_option linter.unusedVariables false
open Go.RowKit Go.Law
section
variable (n : Nat) (L : Nat → Part) (nw : Nat) (W : Nat → Int) (D : Int)
def lastE (a num : Nat) : Line := ((endF n L nw W a num)[(endF n L nw W a num).length - 1]?).getD ⟨0, 0, 0, 0, 0, 0⟩
def lateG : Nat → Nat → Nat → Bool → List Line × Int
  | 0, _, _, _ => ([], 0)
  | f + 1, a, num, flag =>
    if lastB n L (lastE n L nw W a num).z = true then ([lastE n L nw W a num], costF n L (lastE n L nw W a num) + dblF n L D flag (lastE n L nw W a num).z)
    else (lastE n L nw W a num :: (lateG f (aftF n L (lastE n L nw W a num).z) (num + 1) (flgB n L (lastE n L nw W a num).z)).1,
      costF n L (lastE n L nw W a num) + dblF n L D flag (lastE n L nw W a num).z + (lateG f (aftF n L (lastE n L nw W a num).z) (num + 1) (flgB n L (lastE n L nw W a num).z)).2)
def lateF (a num : Nat) (flag : Bool) : List Line × Int := lateG n L nw W D (n + 1 - a) a num flag
end
section
variable {n : Nat} {L : Nat → Part} {nw : Nat} {W : Nat → Int} {D : Int}
theorem endF_pos {a num : Nat} (ha : a ≤ n) : 0 < (endF n L nw W a num).length := List.length_pos_iff.2 (endF_some ha)
theorem lastE_get {a num : Nat} (ha : a ≤ n) : (endF n L nw W a num)[(endF n L nw W a num).length - 1]? = some (lastE n L nw W a num) := by
  have h := endF_pos (L := L) (nw := nw) (W := W) (num := num) ha
  unfold lastE
  rw [List.getElem?_eq_getElem (by omega)]
  rfl
theorem lastE_mem {a num : Nat} (ha : a ≤ n) : lastE n L nw W a num = lineF n L nw W a (lastE n L nw W a num).z num ∧ a ≤ (lastE n L nw W a num).z ∧ (lastE n L nw W a num).z ≤ n :=
  endF_mem ha (List.mem_of_getElem? (lastE_get ha))
theorem lateG_fuel : ∀ (f g a num : Nat) (flag : Bool), a ≤ n → n + 1 - a ≤ f → n + 1 - a ≤ g → lateG n L nw W D f a num flag = lateG n L nw W D g a num flag := by
  intro f
  induction f with
  | zero => intro g a num flag ha h1 h2; omega
  | succ f ih =>
    intro g a num flag ha h1 h2
    obtain ⟨g', rfl⟩ : ∃ g', g = g' + 1 := ⟨g - 1, by omega⟩
    simp only [lateG]
    have hb := lastE_mem (L := L) (nw := nw) (W := W) (num := num) ha
    cases hl : lastB n L (lastE n L nw W a num).z
    · have := aftF_gt hb.2.2 hl
      rw [ih g' _ _ _ (by omega) (by omega) (by omega)]
    · rfl
theorem lateF_last {a num : Nat} {flag : Bool} (ha : a ≤ n) (hl : lastB n L (lastE n L nw W a num).z = true) : lateF n L nw W D a num flag = ([lastE n L nw W a num], costF n L (lastE n L nw W a num) + dblF n L D flag (lastE n L nw W a num).z) := by
  unfold lateF
  obtain ⟨f, hf⟩ : ∃ f, n + 1 - a = f + 1 := ⟨n - a, by omega⟩
  rw [hf, lateG, if_pos hl]
theorem lateF_next {a num : Nat} {flag : Bool} (ha : a ≤ n) (hl : lastB n L (lastE n L nw W a num).z = false) :
    lateF n L nw W D a num flag = (lastE n L nw W a num :: (lateF n L nw W D (aftF n L (lastE n L nw W a num).z) (num + 1) (flgB n L (lastE n L nw W a num).z)).1,
      costF n L (lastE n L nw W a num) + dblF n L D flag (lastE n L nw W a num).z + (lateF n L nw W D (aftF n L (lastE n L nw W a num).z) (num + 1) (flgB n L (lastE n L nw W a num).z)).2) := by
  unfold lateF
  obtain ⟨f, hf⟩ : ∃ f, n + 1 - a = f + 1 := ⟨n - a, by omega⟩
  rw [hf, lateG, if_neg (by rw [hl]; decide)]
  have hb := lastE_mem (L := L) (nw := nw) (W := W) (num := num) ha
  have := aftF_gt hb.2.2 hl
  rw [lateG_fuel f _ _ _ _ (by omega) (by omega) (Nat.le_refl _)]
end
end Go.Law.Ln
