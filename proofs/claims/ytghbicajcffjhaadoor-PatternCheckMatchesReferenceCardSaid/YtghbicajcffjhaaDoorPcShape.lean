
/-
  The fields of a node are checked.
-/
import Derived.Test.YtghbicajcffjhaaDoorPcSet
namespace Go.Proofs.YtghbicajcffjhaaDoor.PC
open Go.RowKit Go.Law Go.Law.Pn
set_option linter.unusedVariables false
set_option linter.unusedSimpArgs false
set_option maxRecDepth 100000
set_option maxHeartbeats 8000000 in
theorem shape_any (h : PH) (w : World) (hs : SetOk w h.sa h.sn h.sf) : Calls Tryd.prog 55 #[.agg h.cells.toArray] w fun e w' => e = .returned (.int .i64 (shpE h)) ∧ Below w.heap.size w w' := by
  obtain ⟨kind, nt, lz, lo, hi, sn, sa, sc, sf, kn, ka, kc⟩ := h
  obtain ⟨V, hV⟩ : ∃ V, V = shpE ⟨kind, nt, lz, lo, hi, sn, sa, sc, sf, kn, ka, kc⟩ := ⟨_, rfl⟩
  rw [← hV]
  have HV := Lib.hid hV
  have HS := Lib.hid hs
  unfold PH.cells
  clear hV hs
  by_cases hk : kind < 0 ∨ 7 < kind
  · have HE := Lib.hid (show V = 8 by rw [HV.out]; unfold shpE; rw [if_pos hk])
    go_enter Tryd.func55, Tryd.ntmps55
    rcases hk with hk | hk
    · go_wp2_with fail
      go_ret
      exact ⟨by rw [HE.out]; rfl, (Below.refl _ _).alloc (Nat.le_refl _) _⟩
    · have hk2 : ¬ kind < 0 := by omega
      go_wp2_with fail
      go_ret
      exact ⟨by rw [HE.out]; rfl, (Below.refl _ _).alloc (Nat.le_refl _) _⟩
  obtain rfl | rfl | rfl | rfl | rfl | rfl | rfl | rfl : kind = 0 ∨ kind = 1 ∨ kind = 2 ∨ kind = 3 ∨ kind = 4 ∨ kind = 5 ∨ kind = 6 ∨ kind = 7 := by omega
  all_goals
    clear hk
    go_enter Tryd.func55, Tryd.ntmps55
  · go_wp2_with (go_at_call 83; refine (set_any sa sn sc sf _ (CellsF.below HS.out (Nat.le_refl _) ((Below.refl _ _).alloc (Nat.le_refl _) _))).mono ?_; rintro e w' ⟨rfl, hb2⟩)
    all_goals
      go_ret
      refine ⟨?_, by first | exact (Below.refl _ _).alloc (Nat.le_refl _) _ | exact ((Below.refl _ _).alloc (Nat.le_refl _) _).trans (hb2.mono (by simp))⟩
      rw [HV.out]
      (try clear hb2)
      clear HV HS
      (try have f1 : hi ≠ 0 := by simpa using ‹(hi != 0) = true›)
      (try have f1 : hi = 0 := by simpa using ‹(hi != 0) = false›)
      (try have f2 : kn = 1 := by (have := ‹((kn : Int) != 1) = false›; simp at this; omega))
      (try have f2 : ¬ kn = 1 := by (have := ‹((kn : Int) != 1) = true›; simp at this; omega))
      (try have f2 : ¬ kn = 1 := by (have := ‹((kn : Int) == 1) = false›; simp at this; omega))
      simp [shpE, frmBad, repBad, Array.getD, *]
      try omega
      (try (repeat' split) <;> omega)
  all_goals
    clear HS
    go_wp2_with fail
    all_goals
      go_ret
      refine ⟨?_, (Below.refl _ _).alloc (Nat.le_refl _) _⟩
      rw [HV.out]
      clear HV
      (try have f1 : hi ≠ 0 := by simpa using ‹(hi != 0) = true›)
      (try have f1 : hi = 0 := by simpa using ‹(hi != 0) = false›)
      (try have f2 : kn = 1 := by (have := ‹((kn : Int) != 1) = false›; simp at this; omega))
      (try have f2 : ¬ kn = 1 := by (have := ‹((kn : Int) != 1) = true›; simp at this; omega))
      (try have f2 : ¬ kn = 1 := by (have := ‹((kn : Int) == 1) = false›; simp at this; omega))
      simp [shpE, frmBad, repBad, Array.getD, *]
      try omega
      (try (repeat' split) <;> omega)
end Go.Proofs.YtghbicajcffjhaaDoor.PC
