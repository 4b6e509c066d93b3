/-
  Spread: what it gives. (Plain.)
-/
import Derived.Test.YtabnohphgegflaaDoorSaAlignP
namespace Go.Law.Sh
open Go.RowKit Go.Law
set_option linter.unusedVariables false
section
variable (E : Nat → Nat → Int) (S : Nat → Int) (ax : Int) (c : Nat)
def sA (j : Nat) : Int := extA (E (S j).toNat) ax
def sB (j : Nat) : Int := extB (E (S j).toNat) ax
/-- the room between the shapes after j of them -/
def roomR : Nat → Int
  | 0 => wrap64 (sA E S ax (c - 1) - sB E S ax 0)
  | j + 1 => wrap64 (roomR j - wrap64 (sB E S ax (j + 1) - sA E S ax (j + 1)))
def usedR : Nat → Int
  | 0 => 0
  | j + 1 => wrap64 (usedR j + wrap64 (sB E S ax (j + 1) - sA E S ax (j + 1)))
def byS (j : Nat) : Int := wrap64 (wrap64 (wrap64 (sB E S ax 0 + usedR E S ax j) + wrap64 (roomR E S ax c (c - 2) * ((j : Int) + 1)) / ((c : Int) - 1)) - sA E S ax (j + 1))
def byT (j : Nat) : Int := wrap64 (wrap64 (wrap64 (sB E S ax 0 + wrap64 (((j : Int) + 1) * roomR E S ax c (c - 2)) / ((c : Int) - 1)) + usedR E S ax j) - sA E S ax (j + 1))
def sprE : Nat → Nat → Int := mvR E (fun j => S (j + 1)) ax (byS E S ax c) (c - 2)
def sprT : Nat → Nat → Int := mvR E (fun j => S (j + 1)) ax (byT E S ax c) (c - 2)
end
theorem wrap_add (a b : Int) : wrap64 (wrap64 a + b) = wrap64 (a + b) := by
  unfold wrap64; omega
theorem byT_eq (E : Nat → Nat → Int) (S : Nat → Int) (ax : Int) (c j : Nat) : byT E S ax c j = byS E S ax c j := by
  unfold byT byS
  rw [Int.mul_comm ((j : Int) + 1)]
  obtain ⟨q, hq⟩ : ∃ q, q = wrap64 (roomR E S ax c (c - 2) * ((j : Int) + 1)) / ((c : Int) - 1) := ⟨_, rfl⟩
  rw [← hq]
  rw [show wrap64 (wrap64 (sB E S ax 0 + q) + usedR E S ax j) = wrap64 (wrap64 (sB E S ax 0 + usedR E S ax j) + q) by
    rw [wrap_add, wrap_add, Int.add_right_comm]]
theorem sprT_eq (E : Nat → Nat → Int) (S : Nat → Int) (ax : Int) (c : Nat) : sprT E S ax c = sprE E S ax c := by
  unfold sprT sprE
  exact mvR_congr _ (fun j _ => ⟨rfl, byT_eq E S ax c j⟩)
/-- two orders that agree give the same -/
theorem sprE_congr {E : Nat → Nat → Int} {S T : Nat → Int} {ax : Int} {c : Nat} (hc : 3 ≤ c) (h : ∀ i, i < c → S i = T i) : sprE E S ax c = sprE E T ax c := by
  have hA : ∀ i, i < c → sA E S ax i = sA E T ax i := fun i hi => by unfold sA; rw [h i hi]
  have hB : ∀ i, i < c → sB E S ax i = sB E T ax i := fun i hi => by unfold sB; rw [h i hi]
  have hR : ∀ j, j + 1 < c → roomR E S ax c j = roomR E T ax c j := by
    intro j
    induction j with
    | zero => intro _; unfold roomR; rw [hA (c - 1) (by omega), hB 0 (by omega)]
    | succ j ih => intro hj; unfold roomR; rw [ih (by omega), hA (j + 1) (by omega), hB (j + 1) (by omega)]
  have hU : ∀ j, j < c → usedR E S ax j = usedR E T ax j := by
    intro j
    induction j with
    | zero => intro _; rfl
    | succ j ih => intro hj; unfold usedR; rw [ih (by omega), hA (j + 1) (by omega), hB (j + 1) (by omega)]
  unfold sprE
  refine mvR_congr _ (fun j hj => ⟨h (j + 1) (by omega), ?_⟩)
  unfold byS
  rw [hB 0 (by omega), hU j (by omega), hR (c - 2) (by omega), hA (j + 1) (by omega)]
end Go.Law.Sh
