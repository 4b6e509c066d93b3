
/-
  clock.Check and the reference's clockError: the same number.
-/
import Derived.Test.YtpbnkkeplhgepaaProg
import Derived.Test.YtpbnkkeplhgepaaOwnR
import Derived.Test.YtpbnkkeplhgepaaClPlain
import Derived.Test.YtpbnkkeplhgepaaIn
import Derived.Test.YtpbnkkeplhgepaaCommon
import Derived.WalkLawsBesides
import Derived.Lib.Hide
namespace Go.Proofs.Ytpbnkkeplhgepaa.CL
open Go.RowKit Go.Law Go.Law.Cl Ref
set_option linter.unusedVariables false
set_option linter.unusedSimpArgs false
set_option maxRecDepth 100000
set_option maxHeartbeats 16000000 in
theorem check_any (n : Nat) (E : Nat → Nat → Int) (a : Option Addr) (c : Nat) (w : World) (ha : StrF w a n 3 E) (hn : n ≤ 1000000000000000000) :
    Calls Try.prog 36 #[.slice a n c] w fun e w' => e = .returned (.int .i64 (clE n E)) ∧ Below w.heap.size w w' := by
  by_cases hn1 : 1000 < n
  · have HV := Lib.hid (show clE n E = 3 by unfold clE; rw [if_pos hn1])
    go_enter Try.func36, Try.ntmps36
    go_wp2_with fail
    go_ret
    exact ⟨by rw [HV.out]; rfl, Below.refl _ _⟩
  · have HA0 := Lib.hid ha
    clear ha
    go_enter Try.func36, Try.ntmps36
    go_wp2_with fail
    go_loopw [3, 4, 5, 13] (fun rv lv sv ix wr => ∃ k : Nat, ix = .int .i64 k ∧ rv = .bool (runs E k) ∧ lv = .int .i64 (lastA E k) ∧ sv = .bool (shut E k) ∧ k ≤ n ∧ firstE (evE E) k = 0 ∧ Below w.heap.size w wr) (fun _ _ _ ix _ => n - (intOf ix).toNat)
    case atStart => exact ⟨0, rfl, rfl, rfl, rfl, by omega, rfl, Below.refl _ _⟩
    case round =>
      obtain ⟨k, rfl, rfl, rfl, rfl, hk, hz, hbel⟩ := hrel
      have HZ := Lib.hid hz
      clear hz
      have hsz := hbel.size
      by_cases hkn : k < n
      · obtain ⟨b, off, rfl, hc⟩ := HA0.out.below (Nat.le_refl _) hbel (by omega)
        have d0 := hc k hkn 0 (by omega)
        have d1 := hc k hkn 1 (by omega)
        have d2 := hc k hkn 2 (by omega)
        clear hc
        obtain ⟨K, hK⟩ : ∃ K, K = E k 0 := ⟨_, rfl⟩
        obtain ⟨A, hA⟩ : ∃ A, A = E k 1 := ⟨_, rfl⟩
        obtain ⟨X, hX⟩ : ∃ X, X = E k 2 := ⟨_, rfl⟩
        obtain ⟨L, hL⟩ : ∃ L, L = lastA E k := ⟨_, rfl⟩
        obtain ⟨S, hS⟩ : ∃ S, S = shut E k := ⟨_, rfl⟩
        obtain ⟨R, hR⟩ : ∃ R, R = runs E k := ⟨_, rfl⟩
        rw [← hK] at d0
        rw [← hA] at d1
        rw [← hX] at d2
        rw [← hL, ← hS, ← hR]
        have HK := Lib.hid hK
        have HA := Lib.hid hA
        have HX := Lib.hid hX
        have HL := Lib.hid hL
        have HS := Lib.hid hS
        have HR := Lib.hid hR
        clear hK hA hX hL hS hR
        replace d0 : wr.cell? ⟨b, off + k * 3, none⟩ = some (.int .i64 K) := d0
        by_cases c1 : K < 0
        · have HV := Lib.hid (show clE n E = 8 by
            have hev : evE E k = 8 := by unfold evE; rw [← HK.out, ← HA.out, ← HX.out, ← HL.out, ← HS.out, ← HR.out]; exact evV_kind (by omega)
            unfold clE; rw [if_neg (by omega), firstE_at hkn HZ.out (by rw [hev]; decide), hev])
          go_wp2_with fail
          go_ret
          refine ⟨by rw [HV.out]; rfl, ?_⟩
          repeat' (with_reducible first | exact Below.refl _ _ | assumption | refine Below.setCell ?_ ?_ _ | refine Below.alloc ?_ ?_ _ | refine below_drewN ?_ _ | refine Below.drew ?_)
          all_goals first | omega | (simp; done) | (simp; omega)
        by_cases c1' : 3 < K
        · have HV := Lib.hid (show clE n E = 8 by
            have hev : evE E k = 8 := by unfold evE; rw [← HK.out, ← HA.out, ← HX.out, ← HL.out, ← HS.out, ← HR.out]; exact evV_kind (by omega)
            unfold clE; rw [if_neg (by omega), firstE_at hkn HZ.out (by rw [hev]; decide), hev])
          go_wp2_with fail
          go_ret
          refine ⟨by rw [HV.out]; rfl, ?_⟩
          repeat' (with_reducible first | exact Below.refl _ _ | assumption | refine Below.setCell ?_ ?_ _ | refine Below.alloc ?_ ?_ _ | refine below_drewN ?_ _ | refine Below.drew ?_)
          all_goals first | omega | (simp; done) | (simp; omega)
        by_cases c2 : A < 0
        · have HV := Lib.hid (show clE n E = 2 by
            have hev : evE E k = 2 := by unfold evE; rw [← HK.out, ← HA.out, ← HX.out, ← HL.out, ← HS.out, ← HR.out]; exact evV_range (by omega) (by omega)
            unfold clE; rw [if_neg (by omega), firstE_at hkn HZ.out (by rw [hev]; decide), hev])
          go_wp2_with fail
          go_ret
          refine ⟨by rw [HV.out]; rfl, ?_⟩
          repeat' (with_reducible first | exact Below.refl _ _ | assumption | refine Below.setCell ?_ ?_ _ | refine Below.alloc ?_ ?_ _ | refine below_drewN ?_ _ | refine Below.drew ?_)
          all_goals first | omega | (simp; done) | (simp; omega)
        by_cases c2' : 10000000 < A
        · have HV := Lib.hid (show clE n E = 2 by
            have hev : evE E k = 2 := by unfold evE; rw [← HK.out, ← HA.out, ← HX.out, ← HL.out, ← HS.out, ← HR.out]; exact evV_range (by omega) (by omega)
            unfold clE; rw [if_neg (by omega), firstE_at hkn HZ.out (by rw [hev]; decide), hev])
          go_wp2_with fail
          go_ret
          refine ⟨by rw [HV.out]; rfl, ?_⟩
          repeat' (with_reducible first | exact Below.refl _ _ | assumption | refine Below.setCell ?_ ?_ _ | refine Below.alloc ?_ ?_ _ | refine below_drewN ?_ _ | refine Below.drew ?_)
          all_goals first | omega | (simp; done) | (simp; omega)
        by_cases c3 : X < 0
        · have HV := Lib.hid (show clE n E = 2 by
            have hev : evE E k = 2 := by unfold evE; rw [← HK.out, ← HA.out, ← HX.out, ← HL.out, ← HS.out, ← HR.out]; exact evV_range (by omega) (by omega)
            unfold clE; rw [if_neg (by omega), firstE_at hkn HZ.out (by rw [hev]; decide), hev])
          go_wp2_with fail
          go_ret
          refine ⟨by rw [HV.out]; rfl, ?_⟩
          repeat' (with_reducible first | exact Below.refl _ _ | assumption | refine Below.setCell ?_ ?_ _ | refine Below.alloc ?_ ?_ _ | refine below_drewN ?_ _ | refine Below.drew ?_)
          all_goals first | omega | (simp; done) | (simp; omega)
        by_cases c3' : 1000 < X
        · have HV := Lib.hid (show clE n E = 2 by
            have hev : evE E k = 2 := by unfold evE; rw [← HK.out, ← HA.out, ← HX.out, ← HL.out, ← HS.out, ← HR.out]; exact evV_range (by omega) (by omega)
            unfold clE; rw [if_neg (by omega), firstE_at hkn HZ.out (by rw [hev]; decide), hev])
          go_wp2_with fail
          go_ret
          refine ⟨by rw [HV.out]; rfl, ?_⟩
          repeat' (with_reducible first | exact Below.refl _ _ | assumption | refine Below.setCell ?_ ?_ _ | refine Below.alloc ?_ ?_ _ | refine below_drewN ?_ _ | refine Below.drew ?_)
          all_goals first | omega | (simp; done) | (simp; omega)
        have hk4 : K = 0 ∨ K = 1 ∨ K = 2 ∨ K = 3 := by omega
        by_cases x0 : 0 < X
        · rcases hk4 with rfl | rfl | rfl | rfl
          · have HV := Lib.hid (show clE n E = 4 by
              have hev : evE E k = 4 := by unfold evE; rw [← HK.out, ← HA.out, ← HX.out, ← HL.out, ← HS.out, ← HR.out]; exact evV_form (by omega) ⟨by omega, by omega⟩ (by omega)
              unfold clE; rw [if_neg (by omega), firstE_at hkn HZ.out (by rw [hev]; decide), hev])
            go_wp2_with fail
            go_ret
            refine ⟨by rw [HV.out]; rfl, ?_⟩
            repeat' (with_reducible first | exact Below.refl _ _ | assumption | refine Below.setCell ?_ ?_ _ | refine Below.alloc ?_ ?_ _ | refine below_drewN ?_ _ | refine Below.drew ?_)
            all_goals first | omega | (simp; done) | (simp; omega)
          · have HV := Lib.hid (show clE n E = 4 by
              have hev : evE E k = 4 := by unfold evE; rw [← HK.out, ← HA.out, ← HX.out, ← HL.out, ← HS.out, ← HR.out]; exact evV_form (by omega) ⟨by omega, by omega⟩ (by omega)
              unfold clE; rw [if_neg (by omega), firstE_at hkn HZ.out (by rw [hev]; decide), hev])
            go_wp2_with fail
            go_ret
            refine ⟨by rw [HV.out]; rfl, ?_⟩
            repeat' (with_reducible first | exact Below.refl _ _ | assumption | refine Below.setCell ?_ ?_ _ | refine Below.alloc ?_ ?_ _ | refine below_drewN ?_ _ | refine Below.drew ?_)
            all_goals first | omega | (simp; done) | (simp; omega)
          · by_cases c4 : A < L
            · have HV := Lib.hid (show clE n E = 5 by
                have hev : evE E k = 5 := by unfold evE; rw [← HK.out, ← HA.out, ← HX.out, ← HL.out, ← HS.out, ← HR.out]; exact evV_order (by omega) ⟨by omega, by omega⟩ (by omega) c4
                unfold clE; rw [if_neg (by omega), firstE_at hkn HZ.out (by rw [hev]; decide), hev])
              go_wp2_with fail
              go_ret
              refine ⟨by rw [HV.out]; rfl, ?_⟩
              repeat' (with_reducible first | exact Below.refl _ _ | assumption | refine Below.setCell ?_ ?_ _ | refine Below.alloc ?_ ?_ _ | refine below_drewN ?_ _ | refine Below.drew ?_)
              all_goals first | omega | (simp; done) | (simp; omega)
            rcases S with _ | _
            · rcases R with _ | _
              · have HEV := Lib.hid (show firstE (evE E) (k + 1) = 0 from firstE_step HZ.out (by
                  unfold evE; rw [← HK.out, ← HA.out, ← HX.out, ← HL.out, ← HS.out, ← HR.out]; exact evV_ok (by omega) ⟨by omega, by omega⟩ (by omega) c4 (by simp)))
                have HRN := Lib.hid (show runs E (k + 1) = false by simp only [runs]; rw [← HK.out, ← HR.out]; rfl)
                have HSN := Lib.hid (show shut E (k + 1) = false by simp only [shut]; rw [← HK.out]; rfl)
                go_wp2_with fail
                go_roundw
                case rel =>
                  refine ⟨k + 1, by go_num, by rw [HRN.out], congrArg _ HA.out, by rw [HSN.out], by omega, HEV.out, ?_⟩
                  repeat' (with_reducible first | exact Below.refl _ _ | assumption | refine Below.setCell ?_ ?_ _ | refine Below.alloc ?_ ?_ _ | refine below_drewN ?_ _ | refine Below.drew ?_)
                  all_goals first | omega | (simp; done) | (simp; omega)
                case measure => simp [intOf]; omega
              · have HEV := Lib.hid (show firstE (evE E) (k + 1) = 0 from firstE_step HZ.out (by
                  unfold evE; rw [← HK.out, ← HA.out, ← HX.out, ← HL.out, ← HS.out, ← HR.out]; exact evV_ok (by omega) ⟨by omega, by omega⟩ (by omega) c4 (by simp)))
                have HRN := Lib.hid (show runs E (k + 1) = true by simp only [runs]; rw [← HK.out, ← HR.out]; rfl)
                have HSN := Lib.hid (show shut E (k + 1) = false by simp only [shut]; rw [← HK.out]; rfl)
                go_wp2_with fail
                go_roundw
                case rel =>
                  refine ⟨k + 1, by go_num, by rw [HRN.out], congrArg _ HA.out, by rw [HSN.out], by omega, HEV.out, ?_⟩
                  repeat' (with_reducible first | exact Below.refl _ _ | assumption | refine Below.setCell ?_ ?_ _ | refine Below.alloc ?_ ?_ _ | refine below_drewN ?_ _ | refine Below.drew ?_)
                  all_goals first | omega | (simp; done) | (simp; omega)
                case measure => simp [intOf]; omega
            · have HV := Lib.hid (show clE n E = 13 by
                have hev : evE E k = 13 := by unfold evE; rw [← HK.out, ← HA.out, ← HX.out, ← HL.out, ← HS.out, ← HR.out]; exact evV_state (by omega) ⟨by omega, by omega⟩ (by omega) c4 (by simp)
                unfold clE; rw [if_neg (by omega), firstE_at hkn HZ.out (by rw [hev]; decide), hev])
              go_wp2_with fail
              go_ret
              refine ⟨by rw [HV.out]; rfl, ?_⟩
              repeat' (with_reducible first | exact Below.refl _ _ | assumption | refine Below.setCell ?_ ?_ _ | refine Below.alloc ?_ ?_ _ | refine below_drewN ?_ _ | refine Below.drew ?_)
              all_goals first | omega | (simp; done) | (simp; omega)
          · have HV := Lib.hid (show clE n E = 4 by
              have hev : evE E k = 4 := by unfold evE; rw [← HK.out, ← HA.out, ← HX.out, ← HL.out, ← HS.out, ← HR.out]; exact evV_form (by omega) ⟨by omega, by omega⟩ (by omega)
              unfold clE; rw [if_neg (by omega), firstE_at hkn HZ.out (by rw [hev]; decide), hev])
            go_wp2_with fail
            go_ret
            refine ⟨by rw [HV.out]; rfl, ?_⟩
            repeat' (with_reducible first | exact Below.refl _ _ | assumption | refine Below.setCell ?_ ?_ _ | refine Below.alloc ?_ ?_ _ | refine below_drewN ?_ _ | refine Below.drew ?_)
            all_goals first | omega | (simp; done) | (simp; omega)
        · rcases hk4 with rfl | rfl | rfl | rfl
          · by_cases c4 : A < L
            · have HV := Lib.hid (show clE n E = 5 by
                have hev : evE E k = 5 := by unfold evE; rw [← HK.out, ← HA.out, ← HX.out, ← HL.out, ← HS.out, ← HR.out]; exact evV_order (by omega) ⟨by omega, by omega⟩ (by omega) c4
                unfold clE; rw [if_neg (by omega), firstE_at hkn HZ.out (by rw [hev]; decide), hev])
              go_wp2_with fail
              go_ret
              refine ⟨by rw [HV.out]; rfl, ?_⟩
              repeat' (with_reducible first | exact Below.refl _ _ | assumption | refine Below.setCell ?_ ?_ _ | refine Below.alloc ?_ ?_ _ | refine below_drewN ?_ _ | refine Below.drew ?_)
              all_goals first | omega | (simp; done) | (simp; omega)
            rcases S with _ | _
            · rcases R with _ | _
              · have HEV := Lib.hid (show firstE (evE E) (k + 1) = 0 from firstE_step HZ.out (by
                  unfold evE; rw [← HK.out, ← HA.out, ← HX.out, ← HL.out, ← HS.out, ← HR.out]; exact evV_ok (by omega) ⟨by omega, by omega⟩ (by omega) c4 (by simp)))
                have HRN := Lib.hid (show runs E (k + 1) = true by simp only [runs]; rw [← HK.out, ← HR.out]; rfl)
                have HSN := Lib.hid (show shut E (k + 1) = false by simp only [shut]; rw [← HK.out]; rfl)
                go_wp2_with fail
                go_roundw
                case rel =>
                  refine ⟨k + 1, by go_num, by rw [HRN.out], congrArg _ HA.out, by rw [HSN.out], by omega, HEV.out, ?_⟩
                  repeat' (with_reducible first | exact Below.refl _ _ | assumption | refine Below.setCell ?_ ?_ _ | refine Below.alloc ?_ ?_ _ | refine below_drewN ?_ _ | refine Below.drew ?_)
                  all_goals first | omega | (simp; done) | (simp; omega)
                case measure => simp [intOf]; omega
              · have HV := Lib.hid (show clE n E = 13 by
                  have hev : evE E k = 13 := by unfold evE; rw [← HK.out, ← HA.out, ← HX.out, ← HL.out, ← HS.out, ← HR.out]; exact evV_state (by omega) ⟨by omega, by omega⟩ (by omega) c4 (by simp)
                  unfold clE; rw [if_neg (by omega), firstE_at hkn HZ.out (by rw [hev]; decide), hev])
                go_wp2_with fail
                go_ret
                refine ⟨by rw [HV.out]; rfl, ?_⟩
                repeat' (with_reducible first | exact Below.refl _ _ | assumption | refine Below.setCell ?_ ?_ _ | refine Below.alloc ?_ ?_ _ | refine below_drewN ?_ _ | refine Below.drew ?_)
                all_goals first | omega | (simp; done) | (simp; omega)
            · have HV := Lib.hid (show clE n E = 13 by
                have hev : evE E k = 13 := by unfold evE; rw [← HK.out, ← HA.out, ← HX.out, ← HL.out, ← HS.out, ← HR.out]; exact evV_state (by omega) ⟨by omega, by omega⟩ (by omega) c4 (by simp)
                unfold clE; rw [if_neg (by omega), firstE_at hkn HZ.out (by rw [hev]; decide), hev])
              go_wp2_with fail
              go_ret
              refine ⟨by rw [HV.out]; rfl, ?_⟩
              repeat' (with_reducible first | exact Below.refl _ _ | assumption | refine Below.setCell ?_ ?_ _ | refine Below.alloc ?_ ?_ _ | refine below_drewN ?_ _ | refine Below.drew ?_)
              all_goals first | omega | (simp; done) | (simp; omega)
          · by_cases c4 : A < L
            · have HV := Lib.hid (show clE n E = 5 by
                have hev : evE E k = 5 := by unfold evE; rw [← HK.out, ← HA.out, ← HX.out, ← HL.out, ← HS.out, ← HR.out]; exact evV_order (by omega) ⟨by omega, by omega⟩ (by omega) c4
                unfold clE; rw [if_neg (by omega), firstE_at hkn HZ.out (by rw [hev]; decide), hev])
              go_wp2_with fail
              go_ret
              refine ⟨by rw [HV.out]; rfl, ?_⟩
              repeat' (with_reducible first | exact Below.refl _ _ | assumption | refine Below.setCell ?_ ?_ _ | refine Below.alloc ?_ ?_ _ | refine below_drewN ?_ _ | refine Below.drew ?_)
              all_goals first | omega | (simp; done) | (simp; omega)
            rcases S with _ | _
            · rcases R with _ | _
              · have HV := Lib.hid (show clE n E = 13 by
                  have hev : evE E k = 13 := by unfold evE; rw [← HK.out, ← HA.out, ← HX.out, ← HL.out, ← HS.out, ← HR.out]; exact evV_state (by omega) ⟨by omega, by omega⟩ (by omega) c4 (by simp)
                  unfold clE; rw [if_neg (by omega), firstE_at hkn HZ.out (by rw [hev]; decide), hev])
                go_wp2_with fail
                go_ret
                refine ⟨by rw [HV.out]; rfl, ?_⟩
                repeat' (with_reducible first | exact Below.refl _ _ | assumption | refine Below.setCell ?_ ?_ _ | refine Below.alloc ?_ ?_ _ | refine below_drewN ?_ _ | refine Below.drew ?_)
                all_goals first | omega | (simp; done) | (simp; omega)
              · have HEV := Lib.hid (show firstE (evE E) (k + 1) = 0 from firstE_step HZ.out (by
                  unfold evE; rw [← HK.out, ← HA.out, ← HX.out, ← HL.out, ← HS.out, ← HR.out]; exact evV_ok (by omega) ⟨by omega, by omega⟩ (by omega) c4 (by simp)))
                have HRN := Lib.hid (show runs E (k + 1) = false by simp only [runs]; rw [← HK.out, ← HR.out]; rfl)
                have HSN := Lib.hid (show shut E (k + 1) = false by simp only [shut]; rw [← HK.out]; rfl)
                go_wp2_with fail
                go_roundw
                case rel =>
                  refine ⟨k + 1, by go_num, by rw [HRN.out], congrArg _ HA.out, by rw [HSN.out], by omega, HEV.out, ?_⟩
                  repeat' (with_reducible first | exact Below.refl _ _ | assumption | refine Below.setCell ?_ ?_ _ | refine Below.alloc ?_ ?_ _ | refine below_drewN ?_ _ | refine Below.drew ?_)
                  all_goals first | omega | (simp; done) | (simp; omega)
                case measure => simp [intOf]; omega
            · have HV := Lib.hid (show clE n E = 13 by
                have hev : evE E k = 13 := by unfold evE; rw [← HK.out, ← HA.out, ← HX.out, ← HL.out, ← HS.out, ← HR.out]; exact evV_state (by omega) ⟨by omega, by omega⟩ (by omega) c4 (by simp)
                unfold clE; rw [if_neg (by omega), firstE_at hkn HZ.out (by rw [hev]; decide), hev])
              go_wp2_with fail
              go_ret
              refine ⟨by rw [HV.out]; rfl, ?_⟩
              repeat' (with_reducible first | exact Below.refl _ _ | assumption | refine Below.setCell ?_ ?_ _ | refine Below.alloc ?_ ?_ _ | refine below_drewN ?_ _ | refine Below.drew ?_)
              all_goals first | omega | (simp; done) | (simp; omega)
          · have HV := Lib.hid (show clE n E = 4 by
              have hev : evE E k = 4 := by unfold evE; rw [← HK.out, ← HA.out, ← HX.out, ← HL.out, ← HS.out, ← HR.out]; exact evV_form (by omega) ⟨by omega, by omega⟩ (by omega)
              unfold clE; rw [if_neg (by omega), firstE_at hkn HZ.out (by rw [hev]; decide), hev])
            go_wp2_with fail
            go_ret
            refine ⟨by rw [HV.out]; rfl, ?_⟩
            repeat' (with_reducible first | exact Below.refl _ _ | assumption | refine Below.setCell ?_ ?_ _ | refine Below.alloc ?_ ?_ _ | refine below_drewN ?_ _ | refine Below.drew ?_)
            all_goals first | omega | (simp; done) | (simp; omega)
          · by_cases c4 : A < L
            · have HV := Lib.hid (show clE n E = 5 by
                have hev : evE E k = 5 := by unfold evE; rw [← HK.out, ← HA.out, ← HX.out, ← HL.out, ← HS.out, ← HR.out]; exact evV_order (by omega) ⟨by omega, by omega⟩ (by omega) c4
                unfold clE; rw [if_neg (by omega), firstE_at hkn HZ.out (by rw [hev]; decide), hev])
              go_wp2_with fail
              go_ret
              refine ⟨by rw [HV.out]; rfl, ?_⟩
              repeat' (with_reducible first | exact Below.refl _ _ | assumption | refine Below.setCell ?_ ?_ _ | refine Below.alloc ?_ ?_ _ | refine below_drewN ?_ _ | refine Below.drew ?_)
              all_goals first | omega | (simp; done) | (simp; omega)
            rcases S with _ | _
            · rcases R with _ | _
              · have HEV := Lib.hid (show firstE (evE E) (k + 1) = 0 from firstE_step HZ.out (by
                  unfold evE; rw [← HK.out, ← HA.out, ← HX.out, ← HL.out, ← HS.out, ← HR.out]; exact evV_ok (by omega) ⟨by omega, by omega⟩ (by omega) c4 (by simp)))
                have HRN := Lib.hid (show runs E (k + 1) = false by simp only [runs]; rw [← HK.out, ← HR.out]; rfl)
                have HSN := Lib.hid (show shut E (k + 1) = true by simp only [shut]; rw [← HK.out]; rfl)
                go_wp2_with fail
                go_roundw
                case rel =>
                  refine ⟨k + 1, by go_num, by rw [HRN.out], congrArg _ HA.out, by rw [HSN.out], by omega, HEV.out, ?_⟩
                  repeat' (with_reducible first | exact Below.refl _ _ | assumption | refine Below.setCell ?_ ?_ _ | refine Below.alloc ?_ ?_ _ | refine below_drewN ?_ _ | refine Below.drew ?_)
                  all_goals first | omega | (simp; done) | (simp; omega)
                case measure => simp [intOf]; omega
              · have HEV := Lib.hid (show firstE (evE E) (k + 1) = 0 from firstE_step HZ.out (by
                  unfold evE; rw [← HK.out, ← HA.out, ← HX.out, ← HL.out, ← HS.out, ← HR.out]; exact evV_ok (by omega) ⟨by omega, by omega⟩ (by omega) c4 (by simp)))
                have HRN := Lib.hid (show runs E (k + 1) = false by simp only [runs]; rw [← HK.out, ← HR.out]; rfl)
                have HSN := Lib.hid (show shut E (k + 1) = true by simp only [shut]; rw [← HK.out]; rfl)
                go_wp2_with fail
                go_roundw
                case rel =>
                  refine ⟨k + 1, by go_num, by rw [HRN.out], congrArg _ HA.out, by rw [HSN.out], by omega, HEV.out, ?_⟩
                  repeat' (with_reducible first | exact Below.refl _ _ | assumption | refine Below.setCell ?_ ?_ _ | refine Below.alloc ?_ ?_ _ | refine below_drewN ?_ _ | refine Below.drew ?_)
                  all_goals first | omega | (simp; done) | (simp; omega)
                case measure => simp [intOf]; omega
            · have HV := Lib.hid (show clE n E = 13 by
                have hev : evE E k = 13 := by unfold evE; rw [← HK.out, ← HA.out, ← HX.out, ← HL.out, ← HS.out, ← HR.out]; exact evV_state (by omega) ⟨by omega, by omega⟩ (by omega) c4 (by simp)
                unfold clE; rw [if_neg (by omega), firstE_at hkn HZ.out (by rw [hev]; decide), hev])
              go_wp2_with fail
              go_ret
              refine ⟨by rw [HV.out]; rfl, ?_⟩
              repeat' (with_reducible first | exact Below.refl _ _ | assumption | refine Below.setCell ?_ ?_ _ | refine Below.alloc ?_ ?_ _ | refine below_drewN ?_ _ | refine Below.drew ?_)
              all_goals first | omega | (simp; done) | (simp; omega)
      · obtain rfl : k = n := by omega
        have HV := Lib.hid (show clE k E = 0 by unfold clE; rw [if_neg (by omega)]; exact HZ.out)
        go_wp2_with fail
        go_ret
        exact ⟨by rw [HV.out]; rfl, hbel⟩
end Go.Proofs.Ytpbnkkeplhgepaa.CL
