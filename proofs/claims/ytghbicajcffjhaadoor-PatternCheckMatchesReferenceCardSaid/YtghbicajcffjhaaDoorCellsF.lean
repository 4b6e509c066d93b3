/-
  Rows of structs whose cells are told by a function.
-/
import Derived.Laws.AppendOwn
import Derived.Test.YtghbicajcffjhaaDoorReads
namespace Go.Law
open Go.RowKit
/-- n structs of s cells at an address -/
def CellsF (w : World) (a : Option Addr) (n s : Nat) (V : Nat → Nat → Value) : Prop :=
  0 < n → ∃ b off, a = some ⟨b, off, none⟩ ∧ ∀ i, i < n → ∀ j, j < s → w.cell? ⟨b, off + i * s + j, none⟩ = some (V i j)
theorem CellsF.below {W w : World} {B : Nat} {a : Option Addr} {n s : Nat} {V : Nat → Nat → Value} (h : CellsF W a n s V) (hB : W.heap.size ≤ B) (hb : Below B W w) : CellsF w a n s V := by
  intro hn
  obtain ⟨b, off, rfl, hh⟩ := h hn
  refine ⟨b, off, rfl, fun i hi j hj => ?_⟩
  have h1 := hh i hi j hj
  have hlt : b < W.heap.size := lt_of_cell h1
  rw [hb.cell (show b < B by omega)]
  exact h1
theorem CellsF.take {w : World} {a : Option Addr} {n m s : Nat} {V : Nat → Nat → Value} (h : CellsF w a n s V) (hm : m ≤ n) : CellsF w a m s V := by
  intro h0
  obtain ⟨b, off, rfl, hc⟩ := h (by omega)
  exact ⟨b, off, rfl, fun i hi j hj => hc i (by omega) j hj⟩
theorem CellsF.of_elems {α : Type} {R : Rd α} {s : Nat} {w : World} {a : Option Addr} {xs : List α} {g : α → Nat → Value} (h : Elems R s w a xs) (d : α) (hR : ∀ cs x, R w cs x → ∀ j, j < s → cs[j]? = some (g x j)) :
    CellsF w a xs.length s (fun i j => g (xs.getD i d) j) := by
  intro hn
  obtain ⟨b, off, rfl, hh⟩ := h (by rintro rfl; simp at hn)
  refine ⟨b, off, rfl, fun i hi j hj => ?_⟩
  have hx := List.getElem?_eq_getElem hi
  obtain ⟨cs, hl, hc, hr⟩ := hh i _ hx
  have := hc j _ (hR cs _ hr j hj)
  rw [this]
  simp [List.getD, hx]
end Go.Law
