

/-
  timed: State at one effect.
-/
import Derived.Test.YthddbinbeinafaaTlState
namespace Go.Proofs.Ythddbinbeinafaa.TL
open Go.RowKit Go.Law Go.Law.Tl Ref
set_option linter.unusedVariables false
set_option linter.unusedSimpArgs false
set_option maxRecDepth 100000
def oneL : Nat → Eff := fun _ => ⟨4, 0, 0, 0, 200, 0, 0⟩
theorem oneL_ok : effsE 1 oneL = 0 := by decide
theorem oneL_its : itsF oneL 1 = [4] := by decide
theorem oneL_sta : seenF (staF oneL 1 50 4 1) = 250 ∧ (staF oneL 1 50 4 1).x = 0 ∧ (staF oneL 1 50 4 1).y = 0 := by decide
set_option maxHeartbeats 4000000 in
theorem timed_any (w : World) (hC : SortC Try.prog 20 21) :
    Calls Try.prog 5 #[] w fun e w' => e = .returned (.bool true) ∧ Below w.heap.size w w' := by
  go_enter Try.func5, Try.ntmps5
  go_wp2_with fail
  have ha : CellsF (w.alloc (Obj.cells #[.int .i64 4, .int .i64 0, .int .i64 0, .int .i64 0, .int .i64 200, .int .i64 0, .int .i64 0] 36)) (some ⟨w.heap.size, 0, none⟩) 1 7 (fun i => (oneL i).V) := by
    have hb := Blk.new w #[.int .i64 4, .int .i64 0, .int .i64 0, .int .i64 0, .int .i64 200, .int .i64 0, .int .i64 0] 36
    intro _
    refine ⟨w.heap.size, 0, rfl, fun i hi j hj => ?_⟩
    obtain rfl : i = 0 := by omega
    rw [Nat.zero_mul, Nat.zero_add]
    match j, hj with
    | 0, _ => exact hb.cell (i := 0) rfl
    | 1, _ => exact hb.cell (i := 1) rfl
    | 2, _ => exact hb.cell (i := 2) rfl
    | 3, _ => exact hb.cell (i := 3) rfl
    | 4, _ => exact hb.cell (i := 4) rfl
    | 5, _ => exact hb.cell (i := 5) rfl
    | 6, _ => exact hb.cell (i := 6) rfl
  refine (state_ok 1 oneL _ 1 1 50 _ ha hC oneL_ok (by omega) (by omega)).mono ?_
  rintro e w2 ⟨l', a, c, rfl, h1, h2, h3, h4⟩
  rw [oneL_its] at h1
  obtain rfl := List.perm_singleton.1 h1
  obtain ⟨b, off, rfl, hc⟩ := h3 (by simp)
  obtain ⟨k1, k2, k3⟩ := oneL_sta
  have c0 : w2.cell? ⟨b, off, none⟩ = some (.int .i64 4) := hc 0 (by simp) 0 (by omega)
  have c1 : w2.cell? ⟨b, off + 1, none⟩ = some (.int .i64 250) := by
    have h : w2.cell? ⟨b, off + 1, none⟩ = some (.int .i64 (seenF (staF oneL 1 50 4 1))) := hc 0 (by simp) 1 (by omega)
    rw [h, k1]
  have c2 : w2.cell? ⟨b, off + 2, none⟩ = some (.int .i64 0) := by
    have h : w2.cell? ⟨b, off + 2, none⟩ = some (.int .i64 (staF oneL 1 50 4 1).x) := hc 0 (by simp) 2 (by omega)
    rw [h, k2]
  have c3 : w2.cell? ⟨b, off + 3, none⟩ = some (.int .i64 0) := by
    have h : w2.cell? ⟨b, off + 3, none⟩ = some (.int .i64 (staF oneL 1 50 4 1).y) := hc 0 (by simp) 3 (by omega)
    rw [h, k3]
  have HB := Lib.hid (((Below.refl w.heap.size w).alloc (Nat.le_refl _) _).trans (h4.mono (by simp)))
  clear ha h1 h2 h3 h4 hc k1 k2 k3 hC
  simp only [List.length_cons, List.length_nil, Nat.zero_add]
  go_wp2_with fail
  go_ret
  exact ⟨rfl, HB.out⟩
end Go.Proofs.Ythddbinbeinafaa.TL
