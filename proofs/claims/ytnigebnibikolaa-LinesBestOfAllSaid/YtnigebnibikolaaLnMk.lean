/-
  What a maker of lines holds in memory.
-/
import Derived.Test.YtnigebnibikolaaLnSpec
import Derived.Test.YtnigebnibikolaaOwn
import Derived.Test.YtnigebnibikolaaCellsF
namespace Go.Law.Ln
open Go.RowKit Go.Law
/-- a maker at block m: its parts, its shape, its sums, its beginnings -/
def MkAt (w : World) (m n : Nat) (L : Nat → Part) (nw : Nat) (W : Nat → Int) (D : Int) (aP : Option Addr) (cP : Nat) (aW : Option Addr) (cW gw gg gy gb : Nat) : Prop :=
  (w.cell? ⟨m, 0, none⟩ = some (.slice aP n cP) ∧ w.cell? ⟨m, 1, none⟩ = some (.slice aW nw cW) ∧ w.cell? ⟨m, 2, none⟩ = some (.int .i64 D) ∧
    w.cell? ⟨m, 3, none⟩ = some (.slice (some ⟨gw, 0, none⟩) (n + 1) (n + 1)) ∧ w.cell? ⟨m, 4, none⟩ = some (.slice (some ⟨gg, 0, none⟩) (n + 1) (n + 1)) ∧ w.cell? ⟨m, 5, none⟩ = some (.slice (some ⟨gy, 0, none⟩) (n + 1) (n + 1)) ∧ w.cell? ⟨m, 6, none⟩ = some (.slice (some ⟨gb, 0, none⟩) (n + 2) (n + 2))) ∧
  CellsF w aP n 6 (fun i => (L i).V) ∧ IntsF w aW nw W ∧
  (∀ i, i ≤ n → w.cell? ⟨gw, i, none⟩ = some (.int .i64 (wdF L i))) ∧ (∀ i, i ≤ n → w.cell? ⟨gg, i, none⟩ = some (.int .i64 (grF L i))) ∧ (∀ i, i ≤ n → w.cell? ⟨gy, i, none⟩ = some (.int .i64 (ylF L i))) ∧
  (∀ i, i ≤ n → w.cell? ⟨gb, i, none⟩ = some (.int .i64 (begF n L i)))
theorem cell_below {W w : World} {B : Nat} {p : Addr} {v : Value} (h : W.cell? p = some v) (hB : W.heap.size ≤ B) (hb : Below B W w) : w.cell? p = some v := by
  have := lt_of_cell h
  rw [hb.cell (show p.block < B by omega)]
  exact h
theorem MkAt.below {W w : World} {B m n : Nat} {L : Nat → Part} {nw : Nat} {Wd : Nat → Int} {D : Int} {aP : Option Addr} {cP : Nat} {aW : Option Addr} {cW gw gg gy gb : Nat}
    (h : MkAt W m n L nw Wd D aP cP aW cW gw gg gy gb) (hB : W.heap.size ≤ B) (hb : Below B W w) : MkAt w m n L nw Wd D aP cP aW cW gw gg gy gb := by
  obtain ⟨⟨h0, h1, h2, h3, h4, h5, h6⟩, k1, k2, k3, k4, k5, k6⟩ := h
  exact ⟨⟨cell_below h0 hB hb, cell_below h1 hB hb, cell_below h2 hB hb, cell_below h3 hB hb, cell_below h4 hB hb, cell_below h5 hB hb, cell_below h6 hB hb⟩, k1.below hB hb, k2.below hB hb,
    fun i hi => cell_below (k3 i hi) hB hb, fun i hi => cell_below (k4 i hi) hB hb, fun i hi => cell_below (k5 i hi) hB hb, fun i hi => cell_below (k6 i hi) hB hb⟩
def Mk (w : World) (m n : Nat) (L : Nat → Part) (nw : Nat) (W : Nat → Int) (D : Int) : Prop := ∃ aP cP aW cW gw gg gy gb, MkAt w m n L nw W D aP cP aW cW gw gg gy gb
theorem Mk.below {W w : World} {B m n : Nat} {L : Nat → Part} {nw : Nat} {Wd : Nat → Int} {D : Int} (h : Mk W m n L nw Wd D) (hB : W.heap.size ≤ B) (hb : Below B W w) : Mk w m n L nw Wd D := by
  obtain ⟨aP, cP, aW, cW, gw, gg, gy, gb, h⟩ := h
  exact ⟨aP, cP, aW, cW, gw, gg, gy, gb, h.below hB hb⟩
theorem part_step {L : Nat → Part} {i : Nat} (h : (L i).Ok) : ∃ x s r : Int, (wdF L (i + 1) = wdF L i + x ∧ grF L (i + 1) = grF L i + s ∧ ylF L (i + 1) = ylF L i + r) ∧ (0 ≤ x ∧ x ≤ 100000) ∧ (0 ≤ s ∧ s ≤ 100000) ∧ 0 ≤ r ∧ r ≤ x := by
  have hk := h.kind
  have hw := h.width
  have hs := h.stretch
  have hr := h.shrink
  have hf := h.form.1
  refine ⟨_, _, _, ⟨rfl, rfl, rfl⟩, ?_⟩
  by_cases hk2 : (L i).kind = 2
  · have h4 := hf (by omega)
    rw [if_neg (by simpa using hk2)]
    omega
  · rw [if_pos hk2]
    omega
/-- sums stay small -/
theorem sums {n : Nat} {L : Nat → Part} (hok : ∀ i, i < n → (L i).Ok) (i : Nat) (hi : i ≤ n) : (0 ≤ wdF L i ∧ wdF L i ≤ 100000 * i) ∧ (0 ≤ grF L i ∧ grF L i ≤ 100000 * i) ∧ (0 ≤ ylF L i ∧ ylF L i ≤ wdF L i) := by
  induction i with
  | zero => simp [wdF, grF, ylF]
  | succ i ih =>
    have h1 := ih (by omega)
    obtain ⟨x, s, r, ⟨e1, e2, e3⟩, h2, h3, h4⟩ := part_step (hok i (by omega))
    rw [e1, e2, e3]
    omega
theorem sums_mono {n : Nat} {L : Nat → Part} (hok : ∀ i, i < n → (L i).Ok) (i k : Nat) (hi : i + k ≤ n) : wdF L i ≤ wdF L (i + k) ∧ grF L i ≤ grF L (i + k) ∧ ylF L i ≤ ylF L (i + k) ∧ wdF L i - ylF L i ≤ wdF L (i + k) - ylF L (i + k) := by
  induction k with
  | zero => simp
  | succ k ih =>
    have h1 := ih (by omega)
    obtain ⟨x, s, r, ⟨e1, e2, e3⟩, h2, h3, h4⟩ := part_step (hok (i + k) (by omega))
    rw [← Nat.add_assoc, e1, e2, e3]
    omega
theorem mono {n : Nat} {L : Nat → Part} (hok : ∀ i, i < n → (L i).Ok) {a z : Nat} (h : a ≤ z) (hz : z ≤ n) : wdF L a ≤ wdF L z ∧ grF L a ≤ grF L z ∧ ylF L a ≤ ylF L z ∧ wdF L a - ylF L a ≤ wdF L z - ylF L z := by
  have := sums_mono hok a (z - a) (by omega)
  rwa [show a + (z - a) = z by omega] at this
end Go.Law.Ln
