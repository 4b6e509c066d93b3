

/-
  The reference's clockError: the same number as clock.Check's.
-/
import Derived.Test.YtpbnkkeplhgepaaClCheck
import Derived.BigQuiet
namespace Go.Proofs.Ytpbnkkeplhgepaa.CL
open Go.RowKit Go.Law Go.Law.Cl Ref
set_option linter.unusedVariables false
set_option linter.unusedSimpArgs false
set_option maxRecDepth 100000
set_option maxHeartbeats 16000000 in
theorem error_any (n : Nat) (E : Nat → Nat → Int) (a : Option Addr) (c : Nat) (w : World) (ha : StrF w a n 3 E) (hn : n ≤ 1000000000000000000) :
    Calls Try.prog 35 #[.slice a n c] w fun e w' => e = .returned (.int .i64 (clE n E)) ∧ Below w.heap.size w w' := by
  by_cases hn1 : 1000 < n
  · have HV := Lib.hid (show clE n E = 3 by unfold clE; rw [if_pos hn1])
    go_enter Try.func35, Try.ntmps35
    go_wp2_with fail
    go_ret
    exact ⟨by rw [HV.out]; rfl, Below.refl _ _⟩
  · have HA0 := Lib.hid ha
    clear ha
    go_enter Try.func35, Try.ntmps35
    go_wp2_with fail
    go_loopw [3, 11] (fun rv ix wr => ∃ k : Nat, ix = .int .i64 k ∧ rv = .bool (runs E k) ∧ k ≤ n ∧ firstE (evE E) k = 0 ∧ Below w.heap.size w wr) (fun _ ix _ => n - (intOf ix).toNat)
    case atStart => exact ⟨0, rfl, rfl, by omega, rfl, Below.refl _ _⟩
    case round =>
      obtain ⟨k, rfl, rfl, hk, hz, hbel⟩ := hrel
      have HZ := Lib.hid hz
      clear hz
      have hsz := hbel.size
      by_cases hkn : k < n
      · obtain ⟨b, off, rfl, hc⟩ := HA0.out.below (Nat.le_refl _) hbel (by omega)
        have d0 := hc k hkn 0 (by omega)
        have d1 := hc k hkn 1 (by omega)
        have d2 := hc k hkn 2 (by omega)
        obtain ⟨K, hK⟩ : ∃ K, K = E k 0 := ⟨_, rfl⟩
        obtain ⟨A, hA⟩ : ∃ A, A = E k 1 := ⟨_, rfl⟩
        obtain ⟨X, hX⟩ : ∃ X, X = E k 2 := ⟨_, rfl⟩
        obtain ⟨R, hR⟩ : ∃ R, R = runs E k := ⟨_, rfl⟩
        rw [← hK] at d0
        rw [← hA] at d1
        rw [← hX] at d2
        rw [← hR]
        have HK := Lib.hid hK
        have HA := Lib.hid hA
        have HX := Lib.hid hX
        have HR := Lib.hid hR
        clear hK hA hX hR
        replace d0 : wr.cell? ⟨b, off + k * 3, none⟩ = some (.int .i64 K) := d0
        rcases Nat.eq_zero_or_pos k with hk0 | hk0
        · obtain ⟨L, hL⟩ : ∃ L, L = lastA E k := ⟨_, rfl⟩
          obtain ⟨S, hS⟩ : ∃ S, S = shut E k := ⟨_, rfl⟩
          have l0 : L = 0 := by rw [hL, hk0]; rfl
          have s0 : S = false := by rw [hS, hk0]; rfl
          subst hk0
          replace d0 : wr.cell? ⟨b, off, none⟩ = some (.int .i64 K) := by simpa using d0
          replace d1 : wr.cell? ⟨b, off + 1, none⟩ = some (.int .i64 A) := by simpa using d1
          replace d2 : wr.cell? ⟨b, off + 2, none⟩ = some (.int .i64 X) := by simpa using d2
          have HL := Lib.hid hL
          have HS := Lib.hid hS
          clear hc hL hS
          subst s0
          have L0 := Lib.hid l0
          cases i1 : inB K 0 3
          · have q1 := inB_false.1 i1
            have HV := Lib.hid (show clE n E = 8 by
              have hev : evE E (0) = 8 := by unfold evE; rw [← HK.out, ← HA.out, ← HX.out, ← HL.out, ← HS.out, ← HR.out]; exact evV_kind (by omega)
              unfold clE; rw [if_neg (by omega), firstE_at hkn HZ.out (by rw [hev]; decide), hev])
            go_wp2_with (go_at_call 14; refine (in_any _ _ _ _).mono ?_; rintro e w9 ⟨rfl, rfl⟩)
            go_ret
            refine ⟨by rw [HV.out]; rfl, ?_⟩
            repeat' (with_reducible first | exact Below.refl _ _ | assumption | refine Below.setCell ?_ ?_ _ | refine Below.alloc ?_ ?_ _ | refine below_drewN ?_ _ | refine Below.drew ?_)
            all_goals first | omega | (simp; done) | (simp; omega)
          have k1 := inB_true.1 i1
          cases i2 : inB A 0 10000000
          · have q2 := inB_false.1 i2
            have HV := Lib.hid (show clE n E = 2 by
              have hev : evE E (0) = 2 := by unfold evE; rw [← HK.out, ← HA.out, ← HX.out, ← HL.out, ← HS.out, ← HR.out]; exact evV_range (by omega) (by omega)
              unfold clE; rw [if_neg (by omega), firstE_at hkn HZ.out (by rw [hev]; decide), hev])
            go_wp2_with (go_at_call 14; refine (in_any _ _ _ _).mono ?_; rintro e w9 ⟨rfl, rfl⟩)
            go_ret
            refine ⟨by rw [HV.out]; rfl, ?_⟩
            repeat' (with_reducible first | exact Below.refl _ _ | assumption | refine Below.setCell ?_ ?_ _ | refine Below.alloc ?_ ?_ _ | refine below_drewN ?_ _ | refine Below.drew ?_)
            all_goals first | omega | (simp; done) | (simp; omega)
          have k2 := inB_true.1 i2
          cases i3 : inB X 0 1000
          · have q3 := inB_false.1 i3
            have HV := Lib.hid (show clE n E = 2 by
              have hev : evE E (0) = 2 := by unfold evE; rw [← HK.out, ← HA.out, ← HX.out, ← HL.out, ← HS.out, ← HR.out]; exact evV_range (by omega) (by omega)
              unfold clE; rw [if_neg (by omega), firstE_at hkn HZ.out (by rw [hev]; decide), hev])
            go_wp2_with (go_at_call 14; refine (in_any _ _ _ _).mono ?_; rintro e w9 ⟨rfl, rfl⟩)
            go_ret
            refine ⟨by rw [HV.out]; rfl, ?_⟩
            repeat' (with_reducible first | exact Below.refl _ _ | assumption | refine Below.setCell ?_ ?_ _ | refine Below.alloc ?_ ?_ _ | refine below_drewN ?_ _ | refine Below.drew ?_)
            all_goals first | omega | (simp; done) | (simp; omega)
          have k3 := inB_true.1 i3
          have hk4 : K = 0 ∨ K = 1 ∨ K = 2 ∨ K = 3 := by omega
          by_cases x0 : X = 0
          · have x1 : (X == 0) = true := by simpa using x0
            rcases hk4 with rfl | rfl | rfl | rfl
            · have c4 : ¬ A < L := by omega
              go_wp2_with (go_at_call 14; refine (in_any _ _ _ _).mono ?_; rintro e w9 ⟨rfl, rfl⟩)
              go_quiet (fail)
              rcases R with _ | _
              · have HEV := Lib.hid (show firstE (evE E) (0 + 1) = 0 from firstE_step HZ.out (by
                  unfold evE; rw [← HK.out, ← HA.out, ← HX.out, ← HL.out, ← HS.out, ← HR.out]; exact evV_ok (by omega) ⟨by omega, by omega⟩ (by omega) (by omega) (by simp)))
                have HRN := Lib.hid (show runs E (0 + 1) = true by rw [show runs E (0 + 1) = (if E (0) 0 = 0 then true else if E (0) 0 = 1 ∨ E (0) 0 = 3 then false else runs E (0)) from rfl, ← HK.out, ← HR.out]; rfl)
                have HSN := Lib.hid (show shut E (0 + 1) = false by simp only [shut]; rw [← HK.out]; rfl)
                go_wp2_with fail
                go_roundw
                case rel =>
                  refine ⟨0 + 1, by go_num, by rw [HRN.out], by omega, HEV.out, ?_⟩
                  repeat' (with_reducible first | exact Below.refl _ _ | assumption | refine Below.setCell ?_ ?_ _ | refine Below.alloc ?_ ?_ _ | refine below_drewN ?_ _ | refine Below.drew ?_)
                  all_goals first | omega | (simp; done) | (simp; omega)
                case measure => simp [intOf]; omega
              · have HV := Lib.hid (show clE n E = 13 by
                  have hev : evE E (0) = 13 := by unfold evE; rw [← HK.out, ← HA.out, ← HX.out, ← HL.out, ← HS.out, ← HR.out]; exact evV_state (by omega) ⟨by omega, by omega⟩ (by omega) (by omega) (by simp)
                  unfold clE; rw [if_neg (by omega), firstE_at hkn HZ.out (by rw [hev]; decide), hev])
                go_wp2_with fail
                go_ret
                refine ⟨by rw [HV.out]; rfl, ?_⟩
                repeat' (with_reducible first | exact Below.refl _ _ | assumption | refine Below.setCell ?_ ?_ _ | refine Below.alloc ?_ ?_ _ | refine below_drewN ?_ _ | refine Below.drew ?_)
                all_goals first | omega | (simp; done) | (simp; omega)
            · have c4 : ¬ A < L := by omega
              go_wp2_with (go_at_call 14; refine (in_any _ _ _ _).mono ?_; rintro e w9 ⟨rfl, rfl⟩)
              go_quiet (fail)
              rcases R with _ | _
              · have HV := Lib.hid (show clE n E = 13 by
                  have hev : evE E (0) = 13 := by unfold evE; rw [← HK.out, ← HA.out, ← HX.out, ← HL.out, ← HS.out, ← HR.out]; exact evV_state (by omega) ⟨by omega, by omega⟩ (by omega) (by omega) (by simp)
                  unfold clE; rw [if_neg (by omega), firstE_at hkn HZ.out (by rw [hev]; decide), hev])
                go_wp2_with fail
                go_ret
                refine ⟨by rw [HV.out]; rfl, ?_⟩
                repeat' (with_reducible first | exact Below.refl _ _ | assumption | refine Below.setCell ?_ ?_ _ | refine Below.alloc ?_ ?_ _ | refine below_drewN ?_ _ | refine Below.drew ?_)
                all_goals first | omega | (simp; done) | (simp; omega)
              · have HEV := Lib.hid (show firstE (evE E) (0 + 1) = 0 from firstE_step HZ.out (by
                  unfold evE; rw [← HK.out, ← HA.out, ← HX.out, ← HL.out, ← HS.out, ← HR.out]; exact evV_ok (by omega) ⟨by omega, by omega⟩ (by omega) (by omega) (by simp)))
                have HRN := Lib.hid (show runs E (0 + 1) = false by rw [show runs E (0 + 1) = (if E (0) 0 = 0 then true else if E (0) 0 = 1 ∨ E (0) 0 = 3 then false else runs E (0)) from rfl, ← HK.out, ← HR.out]; rfl)
                have HSN := Lib.hid (show shut E (0 + 1) = false by simp only [shut]; rw [← HK.out]; rfl)
                go_wp2_with fail
                go_roundw
                case rel =>
                  refine ⟨0 + 1, by go_num, by rw [HRN.out], by omega, HEV.out, ?_⟩
                  repeat' (with_reducible first | exact Below.refl _ _ | assumption | refine Below.setCell ?_ ?_ _ | refine Below.alloc ?_ ?_ _ | refine below_drewN ?_ _ | refine Below.drew ?_)
                  all_goals first | omega | (simp; done) | (simp; omega)
                case measure => simp [intOf]; omega
            · have HV := Lib.hid (show clE n E = 4 by
                have hev : evE E (0) = 4 := by unfold evE; rw [← HK.out, ← HA.out, ← HX.out, ← HL.out, ← HS.out, ← HR.out]; exact evV_form (by omega) ⟨by omega, by omega⟩ (by omega)
                unfold clE; rw [if_neg (by omega), firstE_at hkn HZ.out (by rw [hev]; decide), hev])
              go_wp2_with (go_at_call 14; refine (in_any _ _ _ _).mono ?_; rintro e w9 ⟨rfl, rfl⟩)
              go_ret
              refine ⟨by rw [HV.out]; rfl, ?_⟩
              repeat' (with_reducible first | exact Below.refl _ _ | assumption | refine Below.setCell ?_ ?_ _ | refine Below.alloc ?_ ?_ _ | refine below_drewN ?_ _ | refine Below.drew ?_)
              all_goals first | omega | (simp; done) | (simp; omega)
            · have c4 : ¬ A < L := by omega
              go_wp2_with (go_at_call 14; refine (in_any _ _ _ _).mono ?_; rintro e w9 ⟨rfl, rfl⟩)
              go_quiet (fail)
              rcases R with _ | _
              · have HEV := Lib.hid (show firstE (evE E) (0 + 1) = 0 from firstE_step HZ.out (by
                  unfold evE; rw [← HK.out, ← HA.out, ← HX.out, ← HL.out, ← HS.out, ← HR.out]; exact evV_ok (by omega) ⟨by omega, by omega⟩ (by omega) (by omega) (by simp)))
                have HRN := Lib.hid (show runs E (0 + 1) = false by rw [show runs E (0 + 1) = (if E (0) 0 = 0 then true else if E (0) 0 = 1 ∨ E (0) 0 = 3 then false else runs E (0)) from rfl, ← HK.out, ← HR.out]; rfl)
                have HSN := Lib.hid (show shut E (0 + 1) = true by simp only [shut]; rw [← HK.out]; rfl)
                go_wp2_with fail
                go_roundw
                case rel =>
                  refine ⟨0 + 1, by go_num, by rw [HRN.out], by omega, HEV.out, ?_⟩
                  repeat' (with_reducible first | exact Below.refl _ _ | assumption | refine Below.setCell ?_ ?_ _ | refine Below.alloc ?_ ?_ _ | refine below_drewN ?_ _ | refine Below.drew ?_)
                  all_goals first | omega | (simp; done) | (simp; omega)
                case measure => simp [intOf]; omega
              · have HEV := Lib.hid (show firstE (evE E) (0 + 1) = 0 from firstE_step HZ.out (by
                  unfold evE; rw [← HK.out, ← HA.out, ← HX.out, ← HL.out, ← HS.out, ← HR.out]; exact evV_ok (by omega) ⟨by omega, by omega⟩ (by omega) (by omega) (by simp)))
                have HRN := Lib.hid (show runs E (0 + 1) = false by rw [show runs E (0 + 1) = (if E (0) 0 = 0 then true else if E (0) 0 = 1 ∨ E (0) 0 = 3 then false else runs E (0)) from rfl, ← HK.out, ← HR.out]; rfl)
                have HSN := Lib.hid (show shut E (0 + 1) = true by simp only [shut]; rw [← HK.out]; rfl)
                go_wp2_with fail
                go_roundw
                case rel =>
                  refine ⟨0 + 1, by go_num, by rw [HRN.out], by omega, HEV.out, ?_⟩
                  repeat' (with_reducible first | exact Below.refl _ _ | assumption | refine Below.setCell ?_ ?_ _ | refine Below.alloc ?_ ?_ _ | refine below_drewN ?_ _ | refine Below.drew ?_)
                  all_goals first | omega | (simp; done) | (simp; omega)
                case measure => simp [intOf]; omega
          · have x1 : (X == 0) = false := by simpa using x0
            rcases hk4 with rfl | rfl | rfl | rfl
            · have HV := Lib.hid (show clE n E = 4 by
                have hev : evE E (0) = 4 := by unfold evE; rw [← HK.out, ← HA.out, ← HX.out, ← HL.out, ← HS.out, ← HR.out]; exact evV_form (by omega) ⟨by omega, by omega⟩ (by omega)
                unfold clE; rw [if_neg (by omega), firstE_at hkn HZ.out (by rw [hev]; decide), hev])
              go_wp2_with (go_at_call 14; refine (in_any _ _ _ _).mono ?_; rintro e w9 ⟨rfl, rfl⟩)
              go_ret
              refine ⟨by rw [HV.out]; rfl, ?_⟩
              repeat' (with_reducible first | exact Below.refl _ _ | assumption | refine Below.setCell ?_ ?_ _ | refine Below.alloc ?_ ?_ _ | refine below_drewN ?_ _ | refine Below.drew ?_)
              all_goals first | omega | (simp; done) | (simp; omega)
            · have HV := Lib.hid (show clE n E = 4 by
                have hev : evE E (0) = 4 := by unfold evE; rw [← HK.out, ← HA.out, ← HX.out, ← HL.out, ← HS.out, ← HR.out]; exact evV_form (by omega) ⟨by omega, by omega⟩ (by omega)
                unfold clE; rw [if_neg (by omega), firstE_at hkn HZ.out (by rw [hev]; decide), hev])
              go_wp2_with (go_at_call 14; refine (in_any _ _ _ _).mono ?_; rintro e w9 ⟨rfl, rfl⟩)
              go_ret
              refine ⟨by rw [HV.out]; rfl, ?_⟩
              repeat' (with_reducible first | exact Below.refl _ _ | assumption | refine Below.setCell ?_ ?_ _ | refine Below.alloc ?_ ?_ _ | refine below_drewN ?_ _ | refine Below.drew ?_)
              all_goals first | omega | (simp; done) | (simp; omega)
            · have c4 : ¬ A < L := by omega
              go_wp2_with (go_at_call 14; refine (in_any _ _ _ _).mono ?_; rintro e w9 ⟨rfl, rfl⟩)
              go_quiet (fail)
              rcases R with _ | _
              · have HEV := Lib.hid (show firstE (evE E) (0 + 1) = 0 from firstE_step HZ.out (by
                  unfold evE; rw [← HK.out, ← HA.out, ← HX.out, ← HL.out, ← HS.out, ← HR.out]; exact evV_ok (by omega) ⟨by omega, by omega⟩ (by omega) (by omega) (by simp)))
                have HRN := Lib.hid (show runs E (0 + 1) = false by rw [show runs E (0 + 1) = (if E (0) 0 = 0 then true else if E (0) 0 = 1 ∨ E (0) 0 = 3 then false else runs E (0)) from rfl, ← HK.out, ← HR.out]; rfl)
                have HSN := Lib.hid (show shut E (0 + 1) = false by simp only [shut]; rw [← HK.out]; rfl)
                go_wp2_with fail
                go_roundw
                case rel =>
                  refine ⟨0 + 1, by go_num, by rw [HRN.out], by omega, HEV.out, ?_⟩
                  repeat' (with_reducible first | exact Below.refl _ _ | assumption | refine Below.setCell ?_ ?_ _ | refine Below.alloc ?_ ?_ _ | refine below_drewN ?_ _ | refine Below.drew ?_)
                  all_goals first | omega | (simp; done) | (simp; omega)
                case measure => simp [intOf]; omega
              · have HEV := Lib.hid (show firstE (evE E) (0 + 1) = 0 from firstE_step HZ.out (by
                  unfold evE; rw [← HK.out, ← HA.out, ← HX.out, ← HL.out, ← HS.out, ← HR.out]; exact evV_ok (by omega) ⟨by omega, by omega⟩ (by omega) (by omega) (by simp)))
                have HRN := Lib.hid (show runs E (0 + 1) = true by rw [show runs E (0 + 1) = (if E (0) 0 = 0 then true else if E (0) 0 = 1 ∨ E (0) 0 = 3 then false else runs E (0)) from rfl, ← HK.out, ← HR.out]; rfl)
                have HSN := Lib.hid (show shut E (0 + 1) = false by simp only [shut]; rw [← HK.out]; rfl)
                go_wp2_with fail
                go_roundw
                case rel =>
                  refine ⟨0 + 1, by go_num, by rw [HRN.out], by omega, HEV.out, ?_⟩
                  repeat' (with_reducible first | exact Below.refl _ _ | assumption | refine Below.setCell ?_ ?_ _ | refine Below.alloc ?_ ?_ _ | refine below_drewN ?_ _ | refine Below.drew ?_)
                  all_goals first | omega | (simp; done) | (simp; omega)
                case measure => simp [intOf]; omega
            · have HV := Lib.hid (show clE n E = 4 by
                have hev : evE E (0) = 4 := by unfold evE; rw [← HK.out, ← HA.out, ← HX.out, ← HL.out, ← HS.out, ← HR.out]; exact evV_form (by omega) ⟨by omega, by omega⟩ (by omega)
                unfold clE; rw [if_neg (by omega), firstE_at hkn HZ.out (by rw [hev]; decide), hev])
              go_wp2_with (go_at_call 14; refine (in_any _ _ _ _).mono ?_; rintro e w9 ⟨rfl, rfl⟩)
              go_ret
              refine ⟨by rw [HV.out]; rfl, ?_⟩
              repeat' (with_reducible first | exact Below.refl _ _ | assumption | refine Below.setCell ?_ ?_ _ | refine Below.alloc ?_ ?_ _ | refine below_drewN ?_ _ | refine Below.drew ?_)
              all_goals first | omega | (simp; done) | (simp; omega)
        · obtain ⟨q, rfl⟩ : ∃ q, k = q + 1 := ⟨k - 1, by omega⟩
          clear hk0
          have e0 := hc q (by omega) 0 (by omega)
          have e1 := hc q (by omega) 1 (by omega)
          obtain ⟨L, hL⟩ : ∃ L, L = lastA E (q + 1) := ⟨_, rfl⟩
          obtain ⟨S, hS⟩ : ∃ S, S = shut E (q + 1) := ⟨_, rfl⟩
          obtain ⟨K1, hK1⟩ : ∃ K1, K1 = E q 0 := ⟨_, rfl⟩
          replace e1 : wr.cell? ⟨b, off + q * 3 + 1, none⟩ = some (.int .i64 L) := by rw [hL]; exact e1
          replace e0 : wr.cell? ⟨b, off + q * 3, none⟩ = some (.int .i64 K1) := by rw [hK1]; exact e0
          have hwq : IntKind.i64.wrap ((q : Nat) : Int) = (q : Int) := by rw [IntKind.wrap_i64]; omega
          have hq1 : ((q : Nat) : Int) < (n : Int) := by omega
          have hq0 : (0 : Int) ≤ (q : Int) := by omega
          have hq2 : ¬ ((q : Nat) : Int) < 0 := by omega
          have hq3 : q < n := by omega
          have hbl : b < wr.heap.size := lt_of_cell d1
          have s1 : (K1 == 3) = S := by rw [hS, hK1]; rfl
          have HL := Lib.hid hL
          have HS := Lib.hid hS
          clear hc hL hS hK1
          cases i1 : inB K 0 3
          · have q1 := inB_false.1 i1
            have HV := Lib.hid (show clE n E = 8 by
              have hev : evE E (q + 1) = 8 := by unfold evE; rw [← HK.out, ← HA.out, ← HX.out, ← HL.out, ← HS.out, ← HR.out]; exact evV_kind (by omega)
              unfold clE; rw [if_neg (by omega), firstE_at hkn HZ.out (by rw [hev]; decide), hev])
            go_wp2_with (go_at_call 14; refine (in_any _ _ _ _).mono ?_; rintro e w9 ⟨rfl, rfl⟩)
            go_ret
            refine ⟨by rw [HV.out]; rfl, ?_⟩
            repeat' (with_reducible first | exact Below.refl _ _ | assumption | refine Below.setCell ?_ ?_ _ | refine Below.alloc ?_ ?_ _ | refine below_drewN ?_ _ | refine Below.drew ?_)
            all_goals first | omega | (simp; done) | (simp; omega)
          have k1 := inB_true.1 i1
          cases i2 : inB A 0 10000000
          · have q2 := inB_false.1 i2
            have HV := Lib.hid (show clE n E = 2 by
              have hev : evE E (q + 1) = 2 := by unfold evE; rw [← HK.out, ← HA.out, ← HX.out, ← HL.out, ← HS.out, ← HR.out]; exact evV_range (by omega) (by omega)
              unfold clE; rw [if_neg (by omega), firstE_at hkn HZ.out (by rw [hev]; decide), hev])
            go_wp2_with (go_at_call 14; refine (in_any _ _ _ _).mono ?_; rintro e w9 ⟨rfl, rfl⟩)
            go_ret
            refine ⟨by rw [HV.out]; rfl, ?_⟩
            repeat' (with_reducible first | exact Below.refl _ _ | assumption | refine Below.setCell ?_ ?_ _ | refine Below.alloc ?_ ?_ _ | refine below_drewN ?_ _ | refine Below.drew ?_)
            all_goals first | omega | (simp; done) | (simp; omega)
          have k2 := inB_true.1 i2
          cases i3 : inB X 0 1000
          · have q3 := inB_false.1 i3
            have HV := Lib.hid (show clE n E = 2 by
              have hev : evE E (q + 1) = 2 := by unfold evE; rw [← HK.out, ← HA.out, ← HX.out, ← HL.out, ← HS.out, ← HR.out]; exact evV_range (by omega) (by omega)
              unfold clE; rw [if_neg (by omega), firstE_at hkn HZ.out (by rw [hev]; decide), hev])
            go_wp2_with (go_at_call 14; refine (in_any _ _ _ _).mono ?_; rintro e w9 ⟨rfl, rfl⟩)
            go_ret
            refine ⟨by rw [HV.out]; rfl, ?_⟩
            repeat' (with_reducible first | exact Below.refl _ _ | assumption | refine Below.setCell ?_ ?_ _ | refine Below.alloc ?_ ?_ _ | refine below_drewN ?_ _ | refine Below.drew ?_)
            all_goals first | omega | (simp; done) | (simp; omega)
          have k3 := inB_true.1 i3
          have hk4 : K = 0 ∨ K = 1 ∨ K = 2 ∨ K = 3 := by omega
          by_cases x0 : X = 0
          · have x1 : (X == 0) = true := by simpa using x0
            rcases hk4 with rfl | rfl | rfl | rfl
            · go_wp2_with (go_at_call 14; refine (in_any _ _ _ _).mono ?_; rintro e w9 ⟨rfl, rfl⟩)
              go_quiet (fail)
              by_cases c4 : A < L
              · have HV := Lib.hid (show clE n E = 5 by
                  have hev : evE E (q + 1) = 5 := by unfold evE; rw [← HK.out, ← HA.out, ← HX.out, ← HL.out, ← HS.out, ← HR.out]; exact evV_order (by omega) ⟨by omega, by omega⟩ (by omega) (by omega)
                  unfold clE; rw [if_neg (by omega), firstE_at hkn HZ.out (by rw [hev]; decide), hev])
                go_wp2_with fail
                go_ret
                refine ⟨by rw [HV.out]; rfl, ?_⟩
                repeat' (with_reducible first | exact Below.refl _ _ | assumption | refine Below.setCell ?_ ?_ _ | refine Below.alloc ?_ ?_ _ | refine below_drewN ?_ _ | refine Below.drew ?_)
                all_goals first | omega | (simp; done) | (simp; omega)
              rcases S with _ | _
              · rcases R with _ | _
                · have HEV := Lib.hid (show firstE (evE E) (q + 1 + 1) = 0 from firstE_step HZ.out (by
                    unfold evE; rw [← HK.out, ← HA.out, ← HX.out, ← HL.out, ← HS.out, ← HR.out]; exact evV_ok (by omega) ⟨by omega, by omega⟩ (by omega) (by omega) (by simp)))
                  have HRN := Lib.hid (show runs E (q + 1 + 1) = true by rw [show runs E (q + 1 + 1) = (if E (q + 1) 0 = 0 then true else if E (q + 1) 0 = 1 ∨ E (q + 1) 0 = 3 then false else runs E (q + 1)) from rfl, ← HK.out, ← HR.out]; rfl)
                  have HSN := Lib.hid (show shut E (q + 1 + 1) = false by simp only [shut]; rw [← HK.out]; rfl)
                  go_wp2_with fail
                  go_roundw
                  case rel =>
                    refine ⟨q + 1 + 1, by go_num, by rw [HRN.out], by omega, HEV.out, ?_⟩
                    repeat' (with_reducible first | exact Below.refl _ _ | assumption | refine Below.setCell ?_ ?_ _ | refine Below.alloc ?_ ?_ _ | refine below_drewN ?_ _ | refine Below.drew ?_)
                    all_goals first | omega | (simp; done) | (simp; omega)
                  case measure => simp [intOf]; omega
                · have HV := Lib.hid (show clE n E = 13 by
                    have hev : evE E (q + 1) = 13 := by unfold evE; rw [← HK.out, ← HA.out, ← HX.out, ← HL.out, ← HS.out, ← HR.out]; exact evV_state (by omega) ⟨by omega, by omega⟩ (by omega) (by omega) (by simp)
                    unfold clE; rw [if_neg (by omega), firstE_at hkn HZ.out (by rw [hev]; decide), hev])
                  go_wp2_with fail
                  go_ret
                  refine ⟨by rw [HV.out]; rfl, ?_⟩
                  repeat' (with_reducible first | exact Below.refl _ _ | assumption | refine Below.setCell ?_ ?_ _ | refine Below.alloc ?_ ?_ _ | refine below_drewN ?_ _ | refine Below.drew ?_)
                  all_goals first | omega | (simp; done) | (simp; omega)
              · have HV := Lib.hid (show clE n E = 13 by
                  have hev : evE E (q + 1) = 13 := by unfold evE; rw [← HK.out, ← HA.out, ← HX.out, ← HL.out, ← HS.out, ← HR.out]; exact evV_state (by omega) ⟨by omega, by omega⟩ (by omega) (by omega) (by simp)
                  unfold clE; rw [if_neg (by omega), firstE_at hkn HZ.out (by rw [hev]; decide), hev])
                go_wp2_with fail
                go_ret
                refine ⟨by rw [HV.out]; rfl, ?_⟩
                repeat' (with_reducible first | exact Below.refl _ _ | assumption | refine Below.setCell ?_ ?_ _ | refine Below.alloc ?_ ?_ _ | refine below_drewN ?_ _ | refine Below.drew ?_)
                all_goals first | omega | (simp; done) | (simp; omega)
            · go_wp2_with (go_at_call 14; refine (in_any _ _ _ _).mono ?_; rintro e w9 ⟨rfl, rfl⟩)
              go_quiet (fail)
              by_cases c4 : A < L
              · have HV := Lib.hid (show clE n E = 5 by
                  have hev : evE E (q + 1) = 5 := by unfold evE; rw [← HK.out, ← HA.out, ← HX.out, ← HL.out, ← HS.out, ← HR.out]; exact evV_order (by omega) ⟨by omega, by omega⟩ (by omega) (by omega)
                  unfold clE; rw [if_neg (by omega), firstE_at hkn HZ.out (by rw [hev]; decide), hev])
                go_wp2_with fail
                go_ret
                refine ⟨by rw [HV.out]; rfl, ?_⟩
                repeat' (with_reducible first | exact Below.refl _ _ | assumption | refine Below.setCell ?_ ?_ _ | refine Below.alloc ?_ ?_ _ | refine below_drewN ?_ _ | refine Below.drew ?_)
                all_goals first | omega | (simp; done) | (simp; omega)
              rcases S with _ | _
              · rcases R with _ | _
                · have HV := Lib.hid (show clE n E = 13 by
                    have hev : evE E (q + 1) = 13 := by unfold evE; rw [← HK.out, ← HA.out, ← HX.out, ← HL.out, ← HS.out, ← HR.out]; exact evV_state (by omega) ⟨by omega, by omega⟩ (by omega) (by omega) (by simp)
                    unfold clE; rw [if_neg (by omega), firstE_at hkn HZ.out (by rw [hev]; decide), hev])
                  go_wp2_with fail
                  go_ret
                  refine ⟨by rw [HV.out]; rfl, ?_⟩
                  repeat' (with_reducible first | exact Below.refl _ _ | assumption | refine Below.setCell ?_ ?_ _ | refine Below.alloc ?_ ?_ _ | refine below_drewN ?_ _ | refine Below.drew ?_)
                  all_goals first | omega | (simp; done) | (simp; omega)
                · have HEV := Lib.hid (show firstE (evE E) (q + 1 + 1) = 0 from firstE_step HZ.out (by
                    unfold evE; rw [← HK.out, ← HA.out, ← HX.out, ← HL.out, ← HS.out, ← HR.out]; exact evV_ok (by omega) ⟨by omega, by omega⟩ (by omega) (by omega) (by simp)))
                  have HRN := Lib.hid (show runs E (q + 1 + 1) = false by rw [show runs E (q + 1 + 1) = (if E (q + 1) 0 = 0 then true else if E (q + 1) 0 = 1 ∨ E (q + 1) 0 = 3 then false else runs E (q + 1)) from rfl, ← HK.out, ← HR.out]; rfl)
                  have HSN := Lib.hid (show shut E (q + 1 + 1) = false by simp only [shut]; rw [← HK.out]; rfl)
                  go_wp2_with fail
                  go_roundw
                  case rel =>
                    refine ⟨q + 1 + 1, by go_num, by rw [HRN.out], by omega, HEV.out, ?_⟩
                    repeat' (with_reducible first | exact Below.refl _ _ | assumption | refine Below.setCell ?_ ?_ _ | refine Below.alloc ?_ ?_ _ | refine below_drewN ?_ _ | refine Below.drew ?_)
                    all_goals first | omega | (simp; done) | (simp; omega)
                  case measure => simp [intOf]; omega
              · have HV := Lib.hid (show clE n E = 13 by
                  have hev : evE E (q + 1) = 13 := by unfold evE; rw [← HK.out, ← HA.out, ← HX.out, ← HL.out, ← HS.out, ← HR.out]; exact evV_state (by omega) ⟨by omega, by omega⟩ (by omega) (by omega) (by simp)
                  unfold clE; rw [if_neg (by omega), firstE_at hkn HZ.out (by rw [hev]; decide), hev])
                go_wp2_with fail
                go_ret
                refine ⟨by rw [HV.out]; rfl, ?_⟩
                repeat' (with_reducible first | exact Below.refl _ _ | assumption | refine Below.setCell ?_ ?_ _ | refine Below.alloc ?_ ?_ _ | refine below_drewN ?_ _ | refine Below.drew ?_)
                all_goals first | omega | (simp; done) | (simp; omega)
            · have HV := Lib.hid (show clE n E = 4 by
                have hev : evE E (q + 1) = 4 := by unfold evE; rw [← HK.out, ← HA.out, ← HX.out, ← HL.out, ← HS.out, ← HR.out]; exact evV_form (by omega) ⟨by omega, by omega⟩ (by omega)
                unfold clE; rw [if_neg (by omega), firstE_at hkn HZ.out (by rw [hev]; decide), hev])
              go_wp2_with (go_at_call 14; refine (in_any _ _ _ _).mono ?_; rintro e w9 ⟨rfl, rfl⟩)
              go_ret
              refine ⟨by rw [HV.out]; rfl, ?_⟩
              repeat' (with_reducible first | exact Below.refl _ _ | assumption | refine Below.setCell ?_ ?_ _ | refine Below.alloc ?_ ?_ _ | refine below_drewN ?_ _ | refine Below.drew ?_)
              all_goals first | omega | (simp; done) | (simp; omega)
            · go_wp2_with (go_at_call 14; refine (in_any _ _ _ _).mono ?_; rintro e w9 ⟨rfl, rfl⟩)
              go_quiet (fail)
              by_cases c4 : A < L
              · have HV := Lib.hid (show clE n E = 5 by
                  have hev : evE E (q + 1) = 5 := by unfold evE; rw [← HK.out, ← HA.out, ← HX.out, ← HL.out, ← HS.out, ← HR.out]; exact evV_order (by omega) ⟨by omega, by omega⟩ (by omega) (by omega)
                  unfold clE; rw [if_neg (by omega), firstE_at hkn HZ.out (by rw [hev]; decide), hev])
                go_wp2_with fail
                go_ret
                refine ⟨by rw [HV.out]; rfl, ?_⟩
                repeat' (with_reducible first | exact Below.refl _ _ | assumption | refine Below.setCell ?_ ?_ _ | refine Below.alloc ?_ ?_ _ | refine below_drewN ?_ _ | refine Below.drew ?_)
                all_goals first | omega | (simp; done) | (simp; omega)
              rcases S with _ | _
              · rcases R with _ | _
                · have HEV := Lib.hid (show firstE (evE E) (q + 1 + 1) = 0 from firstE_step HZ.out (by
                    unfold evE; rw [← HK.out, ← HA.out, ← HX.out, ← HL.out, ← HS.out, ← HR.out]; exact evV_ok (by omega) ⟨by omega, by omega⟩ (by omega) (by omega) (by simp)))
                  have HRN := Lib.hid (show runs E (q + 1 + 1) = false by rw [show runs E (q + 1 + 1) = (if E (q + 1) 0 = 0 then true else if E (q + 1) 0 = 1 ∨ E (q + 1) 0 = 3 then false else runs E (q + 1)) from rfl, ← HK.out, ← HR.out]; rfl)
                  have HSN := Lib.hid (show shut E (q + 1 + 1) = true by simp only [shut]; rw [← HK.out]; rfl)
                  go_wp2_with fail
                  go_roundw
                  case rel =>
                    refine ⟨q + 1 + 1, by go_num, by rw [HRN.out], by omega, HEV.out, ?_⟩
                    repeat' (with_reducible first | exact Below.refl _ _ | assumption | refine Below.setCell ?_ ?_ _ | refine Below.alloc ?_ ?_ _ | refine below_drewN ?_ _ | refine Below.drew ?_)
                    all_goals first | omega | (simp; done) | (simp; omega)
                  case measure => simp [intOf]; omega
                · have HEV := Lib.hid (show firstE (evE E) (q + 1 + 1) = 0 from firstE_step HZ.out (by
                    unfold evE; rw [← HK.out, ← HA.out, ← HX.out, ← HL.out, ← HS.out, ← HR.out]; exact evV_ok (by omega) ⟨by omega, by omega⟩ (by omega) (by omega) (by simp)))
                  have HRN := Lib.hid (show runs E (q + 1 + 1) = false by rw [show runs E (q + 1 + 1) = (if E (q + 1) 0 = 0 then true else if E (q + 1) 0 = 1 ∨ E (q + 1) 0 = 3 then false else runs E (q + 1)) from rfl, ← HK.out, ← HR.out]; rfl)
                  have HSN := Lib.hid (show shut E (q + 1 + 1) = true by simp only [shut]; rw [← HK.out]; rfl)
                  go_wp2_with fail
                  go_roundw
                  case rel =>
                    refine ⟨q + 1 + 1, by go_num, by rw [HRN.out], by omega, HEV.out, ?_⟩
                    repeat' (with_reducible first | exact Below.refl _ _ | assumption | refine Below.setCell ?_ ?_ _ | refine Below.alloc ?_ ?_ _ | refine below_drewN ?_ _ | refine Below.drew ?_)
                    all_goals first | omega | (simp; done) | (simp; omega)
                  case measure => simp [intOf]; omega
              · have HV := Lib.hid (show clE n E = 13 by
                  have hev : evE E (q + 1) = 13 := by unfold evE; rw [← HK.out, ← HA.out, ← HX.out, ← HL.out, ← HS.out, ← HR.out]; exact evV_state (by omega) ⟨by omega, by omega⟩ (by omega) (by omega) (by simp)
                  unfold clE; rw [if_neg (by omega), firstE_at hkn HZ.out (by rw [hev]; decide), hev])
                go_wp2_with fail
                go_ret
                refine ⟨by rw [HV.out]; rfl, ?_⟩
                repeat' (with_reducible first | exact Below.refl _ _ | assumption | refine Below.setCell ?_ ?_ _ | refine Below.alloc ?_ ?_ _ | refine below_drewN ?_ _ | refine Below.drew ?_)
                all_goals first | omega | (simp; done) | (simp; omega)
          · have x1 : (X == 0) = false := by simpa using x0
            rcases hk4 with rfl | rfl | rfl | rfl
            · have HV := Lib.hid (show clE n E = 4 by
                have hev : evE E (q + 1) = 4 := by unfold evE; rw [← HK.out, ← HA.out, ← HX.out, ← HL.out, ← HS.out, ← HR.out]; exact evV_form (by omega) ⟨by omega, by omega⟩ (by omega)
                unfold clE; rw [if_neg (by omega), firstE_at hkn HZ.out (by rw [hev]; decide), hev])
              go_wp2_with (go_at_call 14; refine (in_any _ _ _ _).mono ?_; rintro e w9 ⟨rfl, rfl⟩)
              go_ret
              refine ⟨by rw [HV.out]; rfl, ?_⟩
              repeat' (with_reducible first | exact Below.refl _ _ | assumption | refine Below.setCell ?_ ?_ _ | refine Below.alloc ?_ ?_ _ | refine below_drewN ?_ _ | refine Below.drew ?_)
              all_goals first | omega | (simp; done) | (simp; omega)
            · have HV := Lib.hid (show clE n E = 4 by
                have hev : evE E (q + 1) = 4 := by unfold evE; rw [← HK.out, ← HA.out, ← HX.out, ← HL.out, ← HS.out, ← HR.out]; exact evV_form (by omega) ⟨by omega, by omega⟩ (by omega)
                unfold clE; rw [if_neg (by omega), firstE_at hkn HZ.out (by rw [hev]; decide), hev])
              go_wp2_with (go_at_call 14; refine (in_any _ _ _ _).mono ?_; rintro e w9 ⟨rfl, rfl⟩)
              go_ret
              refine ⟨by rw [HV.out]; rfl, ?_⟩
              repeat' (with_reducible first | exact Below.refl _ _ | assumption | refine Below.setCell ?_ ?_ _ | refine Below.alloc ?_ ?_ _ | refine below_drewN ?_ _ | refine Below.drew ?_)
              all_goals first | omega | (simp; done) | (simp; omega)
            · go_wp2_with (go_at_call 14; refine (in_any _ _ _ _).mono ?_; rintro e w9 ⟨rfl, rfl⟩)
              go_quiet (fail)
              by_cases c4 : A < L
              · have HV := Lib.hid (show clE n E = 5 by
                  have hev : evE E (q + 1) = 5 := by unfold evE; rw [← HK.out, ← HA.out, ← HX.out, ← HL.out, ← HS.out, ← HR.out]; exact evV_order (by omega) ⟨by omega, by omega⟩ (by omega) (by omega)
                  unfold clE; rw [if_neg (by omega), firstE_at hkn HZ.out (by rw [hev]; decide), hev])
                go_wp2_with fail
                go_ret
                refine ⟨by rw [HV.out]; rfl, ?_⟩
                repeat' (with_reducible first | exact Below.refl _ _ | assumption | refine Below.setCell ?_ ?_ _ | refine Below.alloc ?_ ?_ _ | refine below_drewN ?_ _ | refine Below.drew ?_)
                all_goals first | omega | (simp; done) | (simp; omega)
              rcases S with _ | _
              · rcases R with _ | _
                · have HEV := Lib.hid (show firstE (evE E) (q + 1 + 1) = 0 from firstE_step HZ.out (by
                    unfold evE; rw [← HK.out, ← HA.out, ← HX.out, ← HL.out, ← HS.out, ← HR.out]; exact evV_ok (by omega) ⟨by omega, by omega⟩ (by omega) (by omega) (by simp)))
                  have HRN := Lib.hid (show runs E (q + 1 + 1) = false by rw [show runs E (q + 1 + 1) = (if E (q + 1) 0 = 0 then true else if E (q + 1) 0 = 1 ∨ E (q + 1) 0 = 3 then false else runs E (q + 1)) from rfl, ← HK.out, ← HR.out]; rfl)
                  have HSN := Lib.hid (show shut E (q + 1 + 1) = false by simp only [shut]; rw [← HK.out]; rfl)
                  go_wp2_with fail
                  go_roundw
                  case rel =>
                    refine ⟨q + 1 + 1, by go_num, by rw [HRN.out], by omega, HEV.out, ?_⟩
                    repeat' (with_reducible first | exact Below.refl _ _ | assumption | refine Below.setCell ?_ ?_ _ | refine Below.alloc ?_ ?_ _ | refine below_drewN ?_ _ | refine Below.drew ?_)
                    all_goals first | omega | (simp; done) | (simp; omega)
                  case measure => simp [intOf]; omega
                · have HEV := Lib.hid (show firstE (evE E) (q + 1 + 1) = 0 from firstE_step HZ.out (by
                    unfold evE; rw [← HK.out, ← HA.out, ← HX.out, ← HL.out, ← HS.out, ← HR.out]; exact evV_ok (by omega) ⟨by omega, by omega⟩ (by omega) (by omega) (by simp)))
                  have HRN := Lib.hid (show runs E (q + 1 + 1) = true by rw [show runs E (q + 1 + 1) = (if E (q + 1) 0 = 0 then true else if E (q + 1) 0 = 1 ∨ E (q + 1) 0 = 3 then false else runs E (q + 1)) from rfl, ← HK.out, ← HR.out]; rfl)
                  have HSN := Lib.hid (show shut E (q + 1 + 1) = false by simp only [shut]; rw [← HK.out]; rfl)
                  go_wp2_with fail
                  go_roundw
                  case rel =>
                    refine ⟨q + 1 + 1, by go_num, by rw [HRN.out], by omega, HEV.out, ?_⟩
                    repeat' (with_reducible first | exact Below.refl _ _ | assumption | refine Below.setCell ?_ ?_ _ | refine Below.alloc ?_ ?_ _ | refine below_drewN ?_ _ | refine Below.drew ?_)
                    all_goals first | omega | (simp; done) | (simp; omega)
                  case measure => simp [intOf]; omega
              · have HV := Lib.hid (show clE n E = 13 by
                  have hev : evE E (q + 1) = 13 := by unfold evE; rw [← HK.out, ← HA.out, ← HX.out, ← HL.out, ← HS.out, ← HR.out]; exact evV_state (by omega) ⟨by omega, by omega⟩ (by omega) (by omega) (by simp)
                  unfold clE; rw [if_neg (by omega), firstE_at hkn HZ.out (by rw [hev]; decide), hev])
                go_wp2_with fail
                go_ret
                refine ⟨by rw [HV.out]; rfl, ?_⟩
                repeat' (with_reducible first | exact Below.refl _ _ | assumption | refine Below.setCell ?_ ?_ _ | refine Below.alloc ?_ ?_ _ | refine below_drewN ?_ _ | refine Below.drew ?_)
                all_goals first | omega | (simp; done) | (simp; omega)
            · have HV := Lib.hid (show clE n E = 4 by
                have hev : evE E (q + 1) = 4 := by unfold evE; rw [← HK.out, ← HA.out, ← HX.out, ← HL.out, ← HS.out, ← HR.out]; exact evV_form (by omega) ⟨by omega, by omega⟩ (by omega)
                unfold clE; rw [if_neg (by omega), firstE_at hkn HZ.out (by rw [hev]; decide), hev])
              go_wp2_with (go_at_call 14; refine (in_any _ _ _ _).mono ?_; rintro e w9 ⟨rfl, rfl⟩)
              go_ret
              refine ⟨by rw [HV.out]; rfl, ?_⟩
              repeat' (with_reducible first | exact Below.refl _ _ | assumption | refine Below.setCell ?_ ?_ _ | refine Below.alloc ?_ ?_ _ | refine below_drewN ?_ _ | refine Below.drew ?_)
              all_goals first | omega | (simp; done) | (simp; omega)
      · obtain rfl : k = n := by omega
        have HV := Lib.hid (show clE k E = 0 by unfold clE; rw [if_neg (by omega)]; exact HZ.out)
        go_wp2_with fail
        go_ret
        exact ⟨by rw [HV.out]; rfl, hbel⟩
end Go.Proofs.Ytpbnkkeplhgepaa.CL
