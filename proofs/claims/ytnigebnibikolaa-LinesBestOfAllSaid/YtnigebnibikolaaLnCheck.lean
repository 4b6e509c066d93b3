
/-
  lines.Check and the reference's PartsError.
-/
import Derived.Test.YtnigebnibikolaaProg
import Derived.Test.YtnigebnibikolaaLnPlain
import Derived.Test.YtnigebnibikolaaIn
import Derived.Test.YtnigebnibikolaaCommon
import Derived.WalkLawsBesides
import Derived.Lib.Hide
namespace Go.Proofs.Ytnigebnibikolaa.LN
open Go.RowKit Go.Law Go.Law.Ln Ref
set_option linter.unusedVariables false
set_option linter.unusedSimpArgs false
set_option maxRecDepth 100000
set_option maxHeartbeats 8000000 in
theorem check_any (n : Nat) (L : Nat → Part) (a : Option Addr) (c : Nat) (w : World) (ha : CellsF w a n 6 (fun i => (L i).V)) (hn : n ≤ 1000000000000000000) :
    Calls Try.prog 29 #[.slice a n c] w fun e w' => e = .returned (.int .i64 (partsE n L)) ∧ Below w.heap.size w w' := by
  by_cases hn2 : 8000 < n
  · have HB := Lib.hid (partsE_large (L := L) hn2)
    clear ha
    go_enter Try.func29, Try.ntmps29
    go_wp2_with fail
    go_ret
    exact ⟨by rw [HB.out]; rfl, Below.refl _ _⟩
  · have HA := Lib.hid ha
    clear ha
    go_enter Try.func29, Try.ntmps29
    go_wp2_with fail
    go_loopw [10] (fun ix wr => ∃ k : Nat, ix = .int .i64 k ∧ k ≤ n ∧ (∀ i, i < k → partE (L i) = 0) ∧ Below w.heap.size w wr) (fun ix _ => n - (intOf ix).toNat)
    case atStart => exact ⟨0, rfl, by omega, fun i hi => by omega, Below.refl _ _⟩
    case round =>
      obtain ⟨k, rfl, hk, hall, hbel⟩ := hrel
      have HZ := Lib.hid hall
      clear hall
      have hsz := hbel.size
      by_cases hkn : k < n
      · obtain ⟨b, off, rfl, hcell⟩ := HA.out.below (Nat.le_refl _) hbel (by omega)
        have d0 : wr.cell? ⟨b, off + k * 6 + 0, none⟩ = some ((L k).V 0) := hcell k hkn 0 (by omega)
        have d1 : wr.cell? ⟨b, off + k * 6 + 1, none⟩ = some ((L k).V 1) := hcell k hkn 1 (by omega)
        have d2 : wr.cell? ⟨b, off + k * 6 + 2, none⟩ = some ((L k).V 2) := hcell k hkn 2 (by omega)
        have d3 : wr.cell? ⟨b, off + k * 6 + 3, none⟩ = some ((L k).V 3) := hcell k hkn 3 (by omega)
        have d4 : wr.cell? ⟨b, off + k * 6 + 4, none⟩ = some ((L k).V 4) := hcell k hkn 4 (by omega)
        have d5 : wr.cell? ⟨b, off + k * 6 + 5, none⟩ = some ((L k).V 5) := hcell k hkn 5 (by omega)
        obtain ⟨p, hp⟩ : ∃ p, p = L k := ⟨_, rfl⟩
        rw [← hp] at d0 d1 d2 d3 d4 d5
        have HP := Lib.hid hp
        clear hp hcell
        obtain ⟨K, W, S, R, C, F⟩ := p
        simp only [Part.V] at d0 d1 d2 d3 d4 d5
        rw [Nat.add_zero] at d0
        by_cases k0 : K < 0
        · have HB := Lib.hid (show partsE n L = 8 by
            have h1 : partE (L k) = 8 := by rw [← HP.out]; unfold partE; simp_all; try omega
            rw [partsE_small hn2, firstP_at hkn HZ.out (by rw [h1]; decide), h1])
          go_wp2_with fail
          go_ret
          refine ⟨by rw [HB.out]; rfl, ?_⟩
          repeat' (with_reducible first | exact Below.refl _ _ | assumption | refine Below.setCell ?_ ?_ _ | refine Below.alloc ?_ ?_ _ | refine below_drewN ?_ _ | refine Below.drew ?_)
          all_goals first | omega | (simp; done) | (simp; omega)
        by_cases k2 : 2 < K
        · have HB := Lib.hid (show partsE n L = 8 by
            have h1 : partE (L k) = 8 := by rw [← HP.out]; unfold partE; simp_all; try omega
            rw [partsE_small hn2, firstP_at hkn HZ.out (by rw [h1]; decide), h1])
          go_wp2_with fail
          go_ret
          refine ⟨by rw [HB.out]; rfl, ?_⟩
          repeat' (with_reducible first | exact Below.refl _ _ | assumption | refine Below.setCell ?_ ?_ _ | refine Below.alloc ?_ ?_ _ | refine below_drewN ?_ _ | refine Below.drew ?_)
          all_goals first | omega | (simp; done) | (simp; omega)
        have hk3 : K = 0 ∨ K = 1 ∨ K = 2 := by omega
        clear k0 k2
        rcases hk3 with rfl | rfl | rfl
        · by_cases f1 : S = 0
          · subst f1
            by_cases f2 : R = 0
            · subst f2
              by_cases f3 : C = 0
              · subst f3
                cases F
                · by_cases q1 : W < 0
                  · have HB := Lib.hid (show partsE n L = 2 by
                      have h1 : partE (L k) = 2 := by rw [← HP.out]; unfold partE; simp_all; try omega
                      rw [partsE_small hn2, firstP_at hkn HZ.out (by rw [h1]; decide), h1])
                    go_wp2_with fail
                    go_ret
                    refine ⟨by rw [HB.out]; rfl, ?_⟩
                    repeat' (with_reducible first | exact Below.refl _ _ | assumption | refine Below.setCell ?_ ?_ _ | refine Below.alloc ?_ ?_ _ | refine below_drewN ?_ _ | refine Below.drew ?_)
                    all_goals first | omega | (simp; done) | (simp; omega)
                  by_cases q2 : 100000 < W
                  · have HB := Lib.hid (show partsE n L = 2 by
                      have h1 : partE (L k) = 2 := by rw [← HP.out]; unfold partE; simp_all; try omega
                      rw [partsE_small hn2, firstP_at hkn HZ.out (by rw [h1]; decide), h1])
                    go_wp2_with fail
                    go_ret
                    refine ⟨by rw [HB.out]; rfl, ?_⟩
                    repeat' (with_reducible first | exact Below.refl _ _ | assumption | refine Below.setCell ?_ ?_ _ | refine Below.alloc ?_ ?_ _ | refine below_drewN ?_ _ | refine Below.drew ?_)
                    all_goals first | omega | (simp; done) | (simp; omega)
                  have HOK := Lib.hid (show partE (L k) = 0 by rw [← HP.out]; unfold partE; simp_all; try omega)
                  go_wp2_with fail
                  go_roundw
                  case rel =>
                    refine ⟨k + 1, by go_num, by omega, fun i hi => by rcases Nat.lt_or_ge i k with h | h; exact HZ.out i h; rw [show i = k by omega]; exact HOK.out, ?_⟩
                    repeat' (with_reducible first | exact Below.refl _ _ | assumption | refine Below.setCell ?_ ?_ _ | refine Below.alloc ?_ ?_ _ | refine below_drewN ?_ _ | refine Below.drew ?_)
                    all_goals first | omega | (simp; done) | (simp; omega)
                  case measure => simp [intOf]; omega
                · have HB := Lib.hid (show partsE n L = 4 by
                    have h1 : partE (L k) = 4 := by rw [← HP.out]; unfold partE; simp_all; try omega
                    rw [partsE_small hn2, firstP_at hkn HZ.out (by rw [h1]; decide), h1])
                  go_wp2_with fail
                  go_ret
                  refine ⟨by rw [HB.out]; rfl, ?_⟩
                  repeat' (with_reducible first | exact Below.refl _ _ | assumption | refine Below.setCell ?_ ?_ _ | refine Below.alloc ?_ ?_ _ | refine below_drewN ?_ _ | refine Below.drew ?_)
                  all_goals first | omega | (simp; done) | (simp; omega)
              · have f3' : (C != 0) = true := by simpa using f3
                have HB := Lib.hid (show partsE n L = 4 by
                  have h1 : partE (L k) = 4 := by rw [← HP.out]; unfold partE; simp_all; try omega
                  rw [partsE_small hn2, firstP_at hkn HZ.out (by rw [h1]; decide), h1])
                go_wp2_with fail
                go_ret
                refine ⟨by rw [HB.out]; rfl, ?_⟩
                repeat' (with_reducible first | exact Below.refl _ _ | assumption | refine Below.setCell ?_ ?_ _ | refine Below.alloc ?_ ?_ _ | refine below_drewN ?_ _ | refine Below.drew ?_)
                all_goals first | omega | (simp; done) | (simp; omega)
            · have f2' : (R != 0) = true := by simpa using f2
              have HB := Lib.hid (show partsE n L = 4 by
                have h1 : partE (L k) = 4 := by rw [← HP.out]; unfold partE; simp_all; try omega
                rw [partsE_small hn2, firstP_at hkn HZ.out (by rw [h1]; decide), h1])
              go_wp2_with fail
              go_ret
              refine ⟨by rw [HB.out]; rfl, ?_⟩
              repeat' (with_reducible first | exact Below.refl _ _ | assumption | refine Below.setCell ?_ ?_ _ | refine Below.alloc ?_ ?_ _ | refine below_drewN ?_ _ | refine Below.drew ?_)
              all_goals first | omega | (simp; done) | (simp; omega)
          · have f1' : (S != 0) = true := by simpa using f1
            have HB := Lib.hid (show partsE n L = 4 by
              have h1 : partE (L k) = 4 := by rw [← HP.out]; unfold partE; simp_all; try omega
              rw [partsE_small hn2, firstP_at hkn HZ.out (by rw [h1]; decide), h1])
            go_wp2_with fail
            go_ret
            refine ⟨by rw [HB.out]; rfl, ?_⟩
            repeat' (with_reducible first | exact Below.refl _ _ | assumption | refine Below.setCell ?_ ?_ _ | refine Below.alloc ?_ ?_ _ | refine below_drewN ?_ _ | refine Below.drew ?_)
            all_goals first | omega | (simp; done) | (simp; omega)
        · by_cases f3 : C = 0
          · subst f3
            cases F
            · by_cases q1 : W < 0
              · have HB := Lib.hid (show partsE n L = 2 by
                  have h1 : partE (L k) = 2 := by rw [← HP.out]; unfold partE; simp_all; try omega
                  rw [partsE_small hn2, firstP_at hkn HZ.out (by rw [h1]; decide), h1])
                go_wp2_with fail
                go_ret
                refine ⟨by rw [HB.out]; rfl, ?_⟩
                repeat' (with_reducible first | exact Below.refl _ _ | assumption | refine Below.setCell ?_ ?_ _ | refine Below.alloc ?_ ?_ _ | refine below_drewN ?_ _ | refine Below.drew ?_)
                all_goals first | omega | (simp; done) | (simp; omega)
              by_cases q2 : 100000 < W
              · have HB := Lib.hid (show partsE n L = 2 by
                  have h1 : partE (L k) = 2 := by rw [← HP.out]; unfold partE; simp_all; try omega
                  rw [partsE_small hn2, firstP_at hkn HZ.out (by rw [h1]; decide), h1])
                go_wp2_with fail
                go_ret
                refine ⟨by rw [HB.out]; rfl, ?_⟩
                repeat' (with_reducible first | exact Below.refl _ _ | assumption | refine Below.setCell ?_ ?_ _ | refine Below.alloc ?_ ?_ _ | refine below_drewN ?_ _ | refine Below.drew ?_)
                all_goals first | omega | (simp; done) | (simp; omega)
              by_cases q3 : S < 0
              · have HB := Lib.hid (show partsE n L = 2 by
                  have h1 : partE (L k) = 2 := by rw [← HP.out]; unfold partE; simp_all; try omega
                  rw [partsE_small hn2, firstP_at hkn HZ.out (by rw [h1]; decide), h1])
                go_wp2_with fail
                go_ret
                refine ⟨by rw [HB.out]; rfl, ?_⟩
                repeat' (with_reducible first | exact Below.refl _ _ | assumption | refine Below.setCell ?_ ?_ _ | refine Below.alloc ?_ ?_ _ | refine below_drewN ?_ _ | refine Below.drew ?_)
                all_goals first | omega | (simp; done) | (simp; omega)
              by_cases q4 : 100000 < S
              · have HB := Lib.hid (show partsE n L = 2 by
                  have h1 : partE (L k) = 2 := by rw [← HP.out]; unfold partE; simp_all; try omega
                  rw [partsE_small hn2, firstP_at hkn HZ.out (by rw [h1]; decide), h1])
                go_wp2_with fail
                go_ret
                refine ⟨by rw [HB.out]; rfl, ?_⟩
                repeat' (with_reducible first | exact Below.refl _ _ | assumption | refine Below.setCell ?_ ?_ _ | refine Below.alloc ?_ ?_ _ | refine below_drewN ?_ _ | refine Below.drew ?_)
                all_goals first | omega | (simp; done) | (simp; omega)
              by_cases q5 : R < 0
              · have HB := Lib.hid (show partsE n L = 2 by
                  have h1 : partE (L k) = 2 := by rw [← HP.out]; unfold partE; simp_all; try omega
                  rw [partsE_small hn2, firstP_at hkn HZ.out (by rw [h1]; decide), h1])
                go_wp2_with fail
                go_ret
                refine ⟨by rw [HB.out]; rfl, ?_⟩
                repeat' (with_reducible first | exact Below.refl _ _ | assumption | refine Below.setCell ?_ ?_ _ | refine Below.alloc ?_ ?_ _ | refine below_drewN ?_ _ | refine Below.drew ?_)
                all_goals first | omega | (simp; done) | (simp; omega)
              by_cases q6 : W < R
              · have HB := Lib.hid (show partsE n L = 2 by
                  have h1 : partE (L k) = 2 := by rw [← HP.out]; unfold partE; simp_all; try omega
                  rw [partsE_small hn2, firstP_at hkn HZ.out (by rw [h1]; decide), h1])
                go_wp2_with fail
                go_ret
                refine ⟨by rw [HB.out]; rfl, ?_⟩
                repeat' (with_reducible first | exact Below.refl _ _ | assumption | refine Below.setCell ?_ ?_ _ | refine Below.alloc ?_ ?_ _ | refine below_drewN ?_ _ | refine Below.drew ?_)
                all_goals first | omega | (simp; done) | (simp; omega)
              have HOK := Lib.hid (show partE (L k) = 0 by rw [← HP.out]; unfold partE; simp_all; try omega)
              go_wp2_with fail
              go_roundw
              case rel =>
                refine ⟨k + 1, by go_num, by omega, fun i hi => by rcases Nat.lt_or_ge i k with h | h; exact HZ.out i h; rw [show i = k by omega]; exact HOK.out, ?_⟩
                repeat' (with_reducible first | exact Below.refl _ _ | assumption | refine Below.setCell ?_ ?_ _ | refine Below.alloc ?_ ?_ _ | refine below_drewN ?_ _ | refine Below.drew ?_)
                all_goals first | omega | (simp; done) | (simp; omega)
              case measure => simp [intOf]; omega
            · have HB := Lib.hid (show partsE n L = 4 by
                have h1 : partE (L k) = 4 := by rw [← HP.out]; unfold partE; simp_all; try omega
                rw [partsE_small hn2, firstP_at hkn HZ.out (by rw [h1]; decide), h1])
              go_wp2_with fail
              go_ret
              refine ⟨by rw [HB.out]; rfl, ?_⟩
              repeat' (with_reducible first | exact Below.refl _ _ | assumption | refine Below.setCell ?_ ?_ _ | refine Below.alloc ?_ ?_ _ | refine below_drewN ?_ _ | refine Below.drew ?_)
              all_goals first | omega | (simp; done) | (simp; omega)
          · have f3' : (C != 0) = true := by simpa using f3
            have HB := Lib.hid (show partsE n L = 4 by
              have h1 : partE (L k) = 4 := by rw [← HP.out]; unfold partE; simp_all; try omega
              rw [partsE_small hn2, firstP_at hkn HZ.out (by rw [h1]; decide), h1])
            go_wp2_with fail
            go_ret
            refine ⟨by rw [HB.out]; rfl, ?_⟩
            repeat' (with_reducible first | exact Below.refl _ _ | assumption | refine Below.setCell ?_ ?_ _ | refine Below.alloc ?_ ?_ _ | refine below_drewN ?_ _ | refine Below.drew ?_)
            all_goals first | omega | (simp; done) | (simp; omega)
        · by_cases f1 : S = 0
          · subst f1
            by_cases f2 : R = 0
            · subst f2
              by_cases q1 : W < 0
              · have HB := Lib.hid (show partsE n L = 2 by
                  have h1 : partE (L k) = 2 := by rw [← HP.out]; unfold partE; simp_all; try omega
                  rw [partsE_small hn2, firstP_at hkn HZ.out (by rw [h1]; decide), h1])
                go_wp2_with fail
                go_ret
                refine ⟨by rw [HB.out]; rfl, ?_⟩
                repeat' (with_reducible first | exact Below.refl _ _ | assumption | refine Below.setCell ?_ ?_ _ | refine Below.alloc ?_ ?_ _ | refine below_drewN ?_ _ | refine Below.drew ?_)
                all_goals first | omega | (simp; done) | (simp; omega)
              by_cases q2 : 100000 < W
              · have HB := Lib.hid (show partsE n L = 2 by
                  have h1 : partE (L k) = 2 := by rw [← HP.out]; unfold partE; simp_all; try omega
                  rw [partsE_small hn2, firstP_at hkn HZ.out (by rw [h1]; decide), h1])
                go_wp2_with fail
                go_ret
                refine ⟨by rw [HB.out]; rfl, ?_⟩
                repeat' (with_reducible first | exact Below.refl _ _ | assumption | refine Below.setCell ?_ ?_ _ | refine Below.alloc ?_ ?_ _ | refine below_drewN ?_ _ | refine Below.drew ?_)
                all_goals first | omega | (simp; done) | (simp; omega)
              by_cases q7 : C < -10000
              · have HB := Lib.hid (show partsE n L = 2 by
                  have h1 : partE (L k) = 2 := by rw [← HP.out]; unfold partE; simp_all; try omega
                  rw [partsE_small hn2, firstP_at hkn HZ.out (by rw [h1]; decide), h1])
                go_wp2_with fail
                go_ret
                refine ⟨by rw [HB.out]; rfl, ?_⟩
                repeat' (with_reducible first | exact Below.refl _ _ | assumption | refine Below.setCell ?_ ?_ _ | refine Below.alloc ?_ ?_ _ | refine below_drewN ?_ _ | refine Below.drew ?_)
                all_goals first | omega | (simp; done) | (simp; omega)
              by_cases q8 : 10000 < C
              · have HB := Lib.hid (show partsE n L = 2 by
                  have h1 : partE (L k) = 2 := by rw [← HP.out]; unfold partE; simp_all; try omega
                  rw [partsE_small hn2, firstP_at hkn HZ.out (by rw [h1]; decide), h1])
                go_wp2_with fail
                go_ret
                refine ⟨by rw [HB.out]; rfl, ?_⟩
                repeat' (with_reducible first | exact Below.refl _ _ | assumption | refine Below.setCell ?_ ?_ _ | refine Below.alloc ?_ ?_ _ | refine below_drewN ?_ _ | refine Below.drew ?_)
                all_goals first | omega | (simp; done) | (simp; omega)
              have HOK := Lib.hid (show partE (L k) = 0 by rw [← HP.out]; unfold partE; simp_all; try omega)
              go_wp2_with fail
              go_roundw
              case rel =>
                refine ⟨k + 1, by go_num, by omega, fun i hi => by rcases Nat.lt_or_ge i k with h | h; exact HZ.out i h; rw [show i = k by omega]; exact HOK.out, ?_⟩
                repeat' (with_reducible first | exact Below.refl _ _ | assumption | refine Below.setCell ?_ ?_ _ | refine Below.alloc ?_ ?_ _ | refine below_drewN ?_ _ | refine Below.drew ?_)
                all_goals first | omega | (simp; done) | (simp; omega)
              case measure => simp [intOf]; omega
            · have f2' : (R != 0) = true := by simpa using f2
              have HB := Lib.hid (show partsE n L = 4 by
                have h1 : partE (L k) = 4 := by rw [← HP.out]; unfold partE; simp_all; try omega
                rw [partsE_small hn2, firstP_at hkn HZ.out (by rw [h1]; decide), h1])
              go_wp2_with fail
              go_ret
              refine ⟨by rw [HB.out]; rfl, ?_⟩
              repeat' (with_reducible first | exact Below.refl _ _ | assumption | refine Below.setCell ?_ ?_ _ | refine Below.alloc ?_ ?_ _ | refine below_drewN ?_ _ | refine Below.drew ?_)
              all_goals first | omega | (simp; done) | (simp; omega)
          · have f1' : (S != 0) = true := by simpa using f1
            have HB := Lib.hid (show partsE n L = 4 by
              have h1 : partE (L k) = 4 := by rw [← HP.out]; unfold partE; simp_all; try omega
              rw [partsE_small hn2, firstP_at hkn HZ.out (by rw [h1]; decide), h1])
            go_wp2_with fail
            go_ret
            refine ⟨by rw [HB.out]; rfl, ?_⟩
            repeat' (with_reducible first | exact Below.refl _ _ | assumption | refine Below.setCell ?_ ?_ _ | refine Below.alloc ?_ ?_ _ | refine below_drewN ?_ _ | refine Below.drew ?_)
            all_goals first | omega | (simp; done) | (simp; omega)
      · obtain rfl : n = k := by omega
        have HB := Lib.hid (show partsE n L = 0 by rw [partsE_small hn2]; exact firstP_none HZ.out)
        go_wp2_with fail
        go_ret
        exact ⟨by rw [HB.out]; rfl, hbel⟩
end Go.Proofs.Ytnigebnibikolaa.LN
