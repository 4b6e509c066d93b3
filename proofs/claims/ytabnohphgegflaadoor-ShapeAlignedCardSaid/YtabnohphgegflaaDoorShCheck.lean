

/-
  shape.Check.
-/
import Derived.Test.YtabnohphgegflaaDoorShParents
import Derived.Test.YtabnohphgegflaaDoorTakes
import Derived.Deep.RegionHeld3
namespace Go.Proofs.YtabnohphgegflaaDoor.ShT
open Go.RowKit Go.Law Go.Law.Sh
set_option linter.unusedVariables false
set_option linter.unusedSimpArgs false
set_option maxRecDepth 100000
set_option maxHeartbeats 4000000 in
theorem check_any (n : Nat) (E : Nat → Nat → Int) (N : Nat → Nat → ByteArray) (a : Option Addr) (c : Nat) (w : World) (ha : ShF w a n E N) (hn : n ≤ 1000000000000000000) (hc : n ≤ c) :
    Calls Tryd.prog 23 #[.slice a n c] w fun e w' => e = .returned (.int .i64 (shE n E)) ∧ Below w.heap.size w w' := by
  have HA := Lib.hid ha
  by_cases hbig : 1000 < n
  · rw [shE_large hbig]
    go_enter Tryd.func23, Tryd.ntmps23
    go_wp2_with fail
    go_ret
    exact ⟨rfl, Below.refl _ _⟩
  have HS := Lib.hid (fun k => @shE_some n k E (by omega))
  have HN := Lib.hid (@shE_none n E (by omega))
  obtain ⟨V, hV⟩ : ∃ V, V = shE n E := ⟨_, rfl⟩
  rw [← hV] at HS HN ⊢
  clear ha hV
  go_enter Tryd.func23, Tryd.ntmps23
  go_wp2_with fail
  go_loopw [13] (fun ix wr => ∃ k : Nat, ix = .int .i64 k ∧ k ≤ n ∧ (∀ j, j < k → errAt E j = 0) ∧ Below w.heap.size w wr) (fun ix _ => n - (intOf ix).toNat)
  case atStart => exact ⟨0, rfl, by omega, fun j hj => by omega, Below.refl _ _⟩
  case round =>
    obtain ⟨k, rfl, hk, hno, hbel⟩ := hrel
    have HNO := Lib.hid hno
    clear hno
    by_cases hkn : k < n
    · obtain ⟨b, off, rfl, hcellG⟩ := HA.out.below (Nat.le_refl _) hbel (by omega)
      have hcell := hcellG k hkn
      clear hcellG
      obtain ⟨hci, hc10, hc11⟩ := hcell
      have d0 := hci 0 (by omega)
      rw [Nat.add_zero] at d0
      have d1 := hci 1 (by omega)
      have d2 := hci 2 (by omega)
      have d3 := hci 3 (by omega)
      have d4 := hci 4 (by omega)
      have d5 := hci 5 (by omega)
      have d6 := hci 6 (by omega)
      have d7 := hci 7 (by omega)
      have d8 := hci 8 (by omega)
      have d9 := hci 9 (by omega)
      have zb := lt_of_cell d0
      simp only at zb
      clear hci
      obtain ⟨e0, he0⟩ : ∃ e, e = E k 0 := ⟨_, rfl⟩
      obtain ⟨e1, he1⟩ : ∃ e, e = E k 1 := ⟨_, rfl⟩
      obtain ⟨e2, he2⟩ : ∃ e, e = E k 2 := ⟨_, rfl⟩
      obtain ⟨e3, he3⟩ : ∃ e, e = E k 3 := ⟨_, rfl⟩
      obtain ⟨e4, he4⟩ : ∃ e, e = E k 4 := ⟨_, rfl⟩
      obtain ⟨e5, he5⟩ : ∃ e, e = E k 5 := ⟨_, rfl⟩
      obtain ⟨e6, he6⟩ : ∃ e, e = E k 6 := ⟨_, rfl⟩
      obtain ⟨e7, he7⟩ : ∃ e, e = E k 7 := ⟨_, rfl⟩
      obtain ⟨e8, he8⟩ : ∃ e, e = E k 8 := ⟨_, rfl⟩
      obtain ⟨e9, he9⟩ : ∃ e, e = E k 9 := ⟨_, rfl⟩
      obtain ⟨n0, hn0⟩ : ∃ e, e = N k 0 := ⟨_, rfl⟩
      obtain ⟨n1, hn1⟩ : ∃ e, e = N k 1 := ⟨_, rfl⟩
      rw [← he0] at d0
      rw [← he1] at d1
      rw [← he2] at d2
      rw [← he3] at d3
      rw [← he4] at d4
      rw [← he5] at d5
      rw [← he6] at d6
      rw [← he7] at d7
      rw [← he8] at d8
      rw [← he9] at d9
      rw [← hn0] at hc10
      rw [← hn1] at hc11
      have HE0 := Lib.hid he0
      have HE1 := Lib.hid he1
      have HE2 := Lib.hid he2
      have HE3 := Lib.hid he3
      have HE4 := Lib.hid he4
      have HE5 := Lib.hid he5
      have HE6 := Lib.hid he6
      have HE7 := Lib.hid he7
      have HE8 := Lib.hid he8
      have HE9 := Lib.hid he9
      have HN0 := Lib.hid hn0
      have HN1 := Lib.hid hn1
      clear he0 he1 he2 he3 he4 he5 he6 he7 he8 he9 hn0 hn1
      have hsz := hbel.size
      by_cases q1 : e2 < 0
      · have hl := err_kind (E := E) (i := k) (by simp only [kindS, numS, boxS, endS, ← HE0.out, ← HE1.out, ← HE2.out, ← HE3.out, ← HE4.out, ← HE5.out, ← HE6.out, ← HE7.out, ← HE8.out, ← HE9.out]; omega)
        have HZ := Lib.hid (show V = _ from (HS.out k hkn HNO.out (by rw [hl]; omega)).trans hl)
        clear HS HN hl
        go_wp2_with fail
        go_ret
        refine ⟨by rw [HZ.out]; rfl, ?_⟩
        repeat' (with_reducible first | exact Below.refl _ _ | assumption | refine Below.setCell ?_ ?_ _ | refine Below.alloc ?_ ?_ _ | refine below_drewN ?_ _ | refine Below.drew ?_)
        all_goals first | omega | (simp; done) | (simp; omega)
      by_cases q2 : 7 < e2
      · have hl := err_kind (E := E) (i := k) (by simp only [kindS, numS, boxS, endS, ← HE0.out, ← HE1.out, ← HE2.out, ← HE3.out, ← HE4.out, ← HE5.out, ← HE6.out, ← HE7.out, ← HE8.out, ← HE9.out]; omega)
        have HZ := Lib.hid (show V = _ from (HS.out k hkn HNO.out (by rw [hl]; omega)).trans hl)
        clear HS HN hl
        go_wp2_with fail
        go_ret
        refine ⟨by rw [HZ.out]; rfl, ?_⟩
        repeat' (with_reducible first | exact Below.refl _ _ | assumption | refine Below.setCell ?_ ?_ _ | refine Below.alloc ?_ ?_ _ | refine below_drewN ?_ _ | refine Below.drew ?_)
        all_goals first | omega | (simp; done) | (simp; omega)
      have K1 := Lib.hid (show kindS (E k) by simp only [kindS, numS, boxS, endS, ← HE0.out, ← HE1.out, ← HE2.out, ← HE3.out, ← HE4.out, ← HE5.out, ← HE6.out, ← HE7.out, ← HE8.out, ← HE9.out]; omega)
      by_cases q3 : e0 < 1
      · have hl := err_num (E := E) (i := k) K1.out (by simp only [kindS, numS, boxS, endS, ← HE0.out, ← HE1.out, ← HE2.out, ← HE3.out, ← HE4.out, ← HE5.out, ← HE6.out, ← HE7.out, ← HE8.out, ← HE9.out]; omega)
        have HZ := Lib.hid (show V = _ from (HS.out k hkn HNO.out (by rw [hl]; omega)).trans hl)
        clear HS HN hl
        go_wp2_with fail
        go_ret
        refine ⟨by rw [HZ.out]; rfl, ?_⟩
        repeat' (with_reducible first | exact Below.refl _ _ | assumption | refine Below.setCell ?_ ?_ _ | refine Below.alloc ?_ ?_ _ | refine below_drewN ?_ _ | refine Below.drew ?_)
        all_goals first | omega | (simp; done) | (simp; omega)
      by_cases q4 : 1073741824 < e0
      · have hl := err_num (E := E) (i := k) K1.out (by simp only [kindS, numS, boxS, endS, ← HE0.out, ← HE1.out, ← HE2.out, ← HE3.out, ← HE4.out, ← HE5.out, ← HE6.out, ← HE7.out, ← HE8.out, ← HE9.out]; omega)
        have HZ := Lib.hid (show V = _ from (HS.out k hkn HNO.out (by rw [hl]; omega)).trans hl)
        clear HS HN hl
        go_wp2_with fail
        go_ret
        refine ⟨by rw [HZ.out]; rfl, ?_⟩
        repeat' (with_reducible first | exact Below.refl _ _ | assumption | refine Below.setCell ?_ ?_ _ | refine Below.alloc ?_ ?_ _ | refine below_drewN ?_ _ | refine Below.drew ?_)
        all_goals first | omega | (simp; done) | (simp; omega)
      by_cases q5 : e1 < 0
      · have hl := err_num (E := E) (i := k) K1.out (by simp only [kindS, numS, boxS, endS, ← HE0.out, ← HE1.out, ← HE2.out, ← HE3.out, ← HE4.out, ← HE5.out, ← HE6.out, ← HE7.out, ← HE8.out, ← HE9.out]; omega)
        have HZ := Lib.hid (show V = _ from (HS.out k hkn HNO.out (by rw [hl]; omega)).trans hl)
        clear HS HN hl
        go_wp2_with fail
        go_ret
        refine ⟨by rw [HZ.out]; rfl, ?_⟩
        repeat' (with_reducible first | exact Below.refl _ _ | assumption | refine Below.setCell ?_ ?_ _ | refine Below.alloc ?_ ?_ _ | refine below_drewN ?_ _ | refine Below.drew ?_)
        all_goals first | omega | (simp; done) | (simp; omega)
      by_cases q6 : 1073741824 < e1
      · have hl := err_num (E := E) (i := k) K1.out (by simp only [kindS, numS, boxS, endS, ← HE0.out, ← HE1.out, ← HE2.out, ← HE3.out, ← HE4.out, ← HE5.out, ← HE6.out, ← HE7.out, ← HE8.out, ← HE9.out]; omega)
        have HZ := Lib.hid (show V = _ from (HS.out k hkn HNO.out (by rw [hl]; omega)).trans hl)
        clear HS HN hl
        go_wp2_with fail
        go_ret
        refine ⟨by rw [HZ.out]; rfl, ?_⟩
        repeat' (with_reducible first | exact Below.refl _ _ | assumption | refine Below.setCell ?_ ?_ _ | refine Below.alloc ?_ ?_ _ | refine below_drewN ?_ _ | refine Below.drew ?_)
        all_goals first | omega | (simp; done) | (simp; omega)
      by_cases q7 : e8 < 0
      · have hl := err_num (E := E) (i := k) K1.out (by simp only [kindS, numS, boxS, endS, ← HE0.out, ← HE1.out, ← HE2.out, ← HE3.out, ← HE4.out, ← HE5.out, ← HE6.out, ← HE7.out, ← HE8.out, ← HE9.out]; omega)
        have HZ := Lib.hid (show V = _ from (HS.out k hkn HNO.out (by rw [hl]; omega)).trans hl)
        clear HS HN hl
        go_wp2_with fail
        go_ret
        refine ⟨by rw [HZ.out]; rfl, ?_⟩
        repeat' (with_reducible first | exact Below.refl _ _ | assumption | refine Below.setCell ?_ ?_ _ | refine Below.alloc ?_ ?_ _ | refine below_drewN ?_ _ | refine Below.drew ?_)
        all_goals first | omega | (simp; done) | (simp; omega)
      by_cases q8 : 1073741824 < e8
      · have hl := err_num (E := E) (i := k) K1.out (by simp only [kindS, numS, boxS, endS, ← HE0.out, ← HE1.out, ← HE2.out, ← HE3.out, ← HE4.out, ← HE5.out, ← HE6.out, ← HE7.out, ← HE8.out, ← HE9.out]; omega)
        have HZ := Lib.hid (show V = _ from (HS.out k hkn HNO.out (by rw [hl]; omega)).trans hl)
        clear HS HN hl
        go_wp2_with fail
        go_ret
        refine ⟨by rw [HZ.out]; rfl, ?_⟩
        repeat' (with_reducible first | exact Below.refl _ _ | assumption | refine Below.setCell ?_ ?_ _ | refine Below.alloc ?_ ?_ _ | refine below_drewN ?_ _ | refine Below.drew ?_)
        all_goals first | omega | (simp; done) | (simp; omega)
      by_cases q9 : e9 < 0
      · have hl := err_num (E := E) (i := k) K1.out (by simp only [kindS, numS, boxS, endS, ← HE0.out, ← HE1.out, ← HE2.out, ← HE3.out, ← HE4.out, ← HE5.out, ← HE6.out, ← HE7.out, ← HE8.out, ← HE9.out]; omega)
        have HZ := Lib.hid (show V = _ from (HS.out k hkn HNO.out (by rw [hl]; omega)).trans hl)
        clear HS HN hl
        go_wp2_with fail
        go_ret
        refine ⟨by rw [HZ.out]; rfl, ?_⟩
        repeat' (with_reducible first | exact Below.refl _ _ | assumption | refine Below.setCell ?_ ?_ _ | refine Below.alloc ?_ ?_ _ | refine below_drewN ?_ _ | refine Below.drew ?_)
        all_goals first | omega | (simp; done) | (simp; omega)
      by_cases q10 : 1073741824 < e9
      · have hl := err_num (E := E) (i := k) K1.out (by simp only [kindS, numS, boxS, endS, ← HE0.out, ← HE1.out, ← HE2.out, ← HE3.out, ← HE4.out, ← HE5.out, ← HE6.out, ← HE7.out, ← HE8.out, ← HE9.out]; omega)
        have HZ := Lib.hid (show V = _ from (HS.out k hkn HNO.out (by rw [hl]; omega)).trans hl)
        clear HS HN hl
        go_wp2_with fail
        go_ret
        refine ⟨by rw [HZ.out]; rfl, ?_⟩
        repeat' (with_reducible first | exact Below.refl _ _ | assumption | refine Below.setCell ?_ ?_ _ | refine Below.alloc ?_ ?_ _ | refine below_drewN ?_ _ | refine Below.drew ?_)
        all_goals first | omega | (simp; done) | (simp; omega)
      have K2 := Lib.hid (show numS (E k) by simp only [kindS, numS, boxS, endS, ← HE0.out, ← HE1.out, ← HE2.out, ← HE3.out, ← HE4.out, ← HE5.out, ← HE6.out, ← HE7.out, ← HE8.out, ← HE9.out]; omega)
      by_cases q11 : e3 < -1048576
      · have hl := err_box (E := E) (i := k) K1.out K2.out (by simp only [kindS, numS, boxS, endS, ← HE0.out, ← HE1.out, ← HE2.out, ← HE3.out, ← HE4.out, ← HE5.out, ← HE6.out, ← HE7.out, ← HE8.out, ← HE9.out]; omega)
        have HZ := Lib.hid (show V = _ from (HS.out k hkn HNO.out (by rw [hl]; omega)).trans hl)
        clear HS HN hl
        go_wp2_with fail
        go_ret
        refine ⟨by rw [HZ.out]; rfl, ?_⟩
        repeat' (with_reducible first | exact Below.refl _ _ | assumption | refine Below.setCell ?_ ?_ _ | refine Below.alloc ?_ ?_ _ | refine below_drewN ?_ _ | refine Below.drew ?_)
        all_goals first | omega | (simp; done) | (simp; omega)
      by_cases q12 : 1048576 < e3
      · have hl := err_box (E := E) (i := k) K1.out K2.out (by simp only [kindS, numS, boxS, endS, ← HE0.out, ← HE1.out, ← HE2.out, ← HE3.out, ← HE4.out, ← HE5.out, ← HE6.out, ← HE7.out, ← HE8.out, ← HE9.out]; omega)
        have HZ := Lib.hid (show V = _ from (HS.out k hkn HNO.out (by rw [hl]; omega)).trans hl)
        clear HS HN hl
        go_wp2_with fail
        go_ret
        refine ⟨by rw [HZ.out]; rfl, ?_⟩
        repeat' (with_reducible first | exact Below.refl _ _ | assumption | refine Below.setCell ?_ ?_ _ | refine Below.alloc ?_ ?_ _ | refine below_drewN ?_ _ | refine Below.drew ?_)
        all_goals first | omega | (simp; done) | (simp; omega)
      by_cases q13 : e4 < -1048576
      · have hl := err_box (E := E) (i := k) K1.out K2.out (by simp only [kindS, numS, boxS, endS, ← HE0.out, ← HE1.out, ← HE2.out, ← HE3.out, ← HE4.out, ← HE5.out, ← HE6.out, ← HE7.out, ← HE8.out, ← HE9.out]; omega)
        have HZ := Lib.hid (show V = _ from (HS.out k hkn HNO.out (by rw [hl]; omega)).trans hl)
        clear HS HN hl
        go_wp2_with fail
        go_ret
        refine ⟨by rw [HZ.out]; rfl, ?_⟩
        repeat' (with_reducible first | exact Below.refl _ _ | assumption | refine Below.setCell ?_ ?_ _ | refine Below.alloc ?_ ?_ _ | refine below_drewN ?_ _ | refine Below.drew ?_)
        all_goals first | omega | (simp; done) | (simp; omega)
      by_cases q14 : 1048576 < e4
      · have hl := err_box (E := E) (i := k) K1.out K2.out (by simp only [kindS, numS, boxS, endS, ← HE0.out, ← HE1.out, ← HE2.out, ← HE3.out, ← HE4.out, ← HE5.out, ← HE6.out, ← HE7.out, ← HE8.out, ← HE9.out]; omega)
        have HZ := Lib.hid (show V = _ from (HS.out k hkn HNO.out (by rw [hl]; omega)).trans hl)
        clear HS HN hl
        go_wp2_with fail
        go_ret
        refine ⟨by rw [HZ.out]; rfl, ?_⟩
        repeat' (with_reducible first | exact Below.refl _ _ | assumption | refine Below.setCell ?_ ?_ _ | refine Below.alloc ?_ ?_ _ | refine below_drewN ?_ _ | refine Below.drew ?_)
        all_goals first | omega | (simp; done) | (simp; omega)
      by_cases q15 : e5 < 0
      · have hl := err_box (E := E) (i := k) K1.out K2.out (by simp only [kindS, numS, boxS, endS, ← HE0.out, ← HE1.out, ← HE2.out, ← HE3.out, ← HE4.out, ← HE5.out, ← HE6.out, ← HE7.out, ← HE8.out, ← HE9.out]; omega)
        have HZ := Lib.hid (show V = _ from (HS.out k hkn HNO.out (by rw [hl]; omega)).trans hl)
        clear HS HN hl
        go_wp2_with fail
        go_ret
        refine ⟨by rw [HZ.out]; rfl, ?_⟩
        repeat' (with_reducible first | exact Below.refl _ _ | assumption | refine Below.setCell ?_ ?_ _ | refine Below.alloc ?_ ?_ _ | refine below_drewN ?_ _ | refine Below.drew ?_)
        all_goals first | omega | (simp; done) | (simp; omega)
      by_cases q16 : 1048576 < e5
      · have hl := err_box (E := E) (i := k) K1.out K2.out (by simp only [kindS, numS, boxS, endS, ← HE0.out, ← HE1.out, ← HE2.out, ← HE3.out, ← HE4.out, ← HE5.out, ← HE6.out, ← HE7.out, ← HE8.out, ← HE9.out]; omega)
        have HZ := Lib.hid (show V = _ from (HS.out k hkn HNO.out (by rw [hl]; omega)).trans hl)
        clear HS HN hl
        go_wp2_with fail
        go_ret
        refine ⟨by rw [HZ.out]; rfl, ?_⟩
        repeat' (with_reducible first | exact Below.refl _ _ | assumption | refine Below.setCell ?_ ?_ _ | refine Below.alloc ?_ ?_ _ | refine below_drewN ?_ _ | refine Below.drew ?_)
        all_goals first | omega | (simp; done) | (simp; omega)
      by_cases q17 : e6 < 0
      · have hl := err_box (E := E) (i := k) K1.out K2.out (by simp only [kindS, numS, boxS, endS, ← HE0.out, ← HE1.out, ← HE2.out, ← HE3.out, ← HE4.out, ← HE5.out, ← HE6.out, ← HE7.out, ← HE8.out, ← HE9.out]; omega)
        have HZ := Lib.hid (show V = _ from (HS.out k hkn HNO.out (by rw [hl]; omega)).trans hl)
        clear HS HN hl
        go_wp2_with fail
        go_ret
        refine ⟨by rw [HZ.out]; rfl, ?_⟩
        repeat' (with_reducible first | exact Below.refl _ _ | assumption | refine Below.setCell ?_ ?_ _ | refine Below.alloc ?_ ?_ _ | refine below_drewN ?_ _ | refine Below.drew ?_)
        all_goals first | omega | (simp; done) | (simp; omega)
      by_cases q18 : 1048576 < e6
      · have hl := err_box (E := E) (i := k) K1.out K2.out (by simp only [kindS, numS, boxS, endS, ← HE0.out, ← HE1.out, ← HE2.out, ← HE3.out, ← HE4.out, ← HE5.out, ← HE6.out, ← HE7.out, ← HE8.out, ← HE9.out]; omega)
        have HZ := Lib.hid (show V = _ from (HS.out k hkn HNO.out (by rw [hl]; omega)).trans hl)
        clear HS HN hl
        go_wp2_with fail
        go_ret
        refine ⟨by rw [HZ.out]; rfl, ?_⟩
        repeat' (with_reducible first | exact Below.refl _ _ | assumption | refine Below.setCell ?_ ?_ _ | refine Below.alloc ?_ ?_ _ | refine below_drewN ?_ _ | refine Below.drew ?_)
        all_goals first | omega | (simp; done) | (simp; omega)
      by_cases q19 : e7 < 0
      · have hl := err_box (E := E) (i := k) K1.out K2.out (by simp only [kindS, numS, boxS, endS, ← HE0.out, ← HE1.out, ← HE2.out, ← HE3.out, ← HE4.out, ← HE5.out, ← HE6.out, ← HE7.out, ← HE8.out, ← HE9.out]; omega)
        have HZ := Lib.hid (show V = _ from (HS.out k hkn HNO.out (by rw [hl]; omega)).trans hl)
        clear HS HN hl
        go_wp2_with fail
        go_ret
        refine ⟨by rw [HZ.out]; rfl, ?_⟩
        repeat' (with_reducible first | exact Below.refl _ _ | assumption | refine Below.setCell ?_ ?_ _ | refine Below.alloc ?_ ?_ _ | refine below_drewN ?_ _ | refine Below.drew ?_)
        all_goals first | omega | (simp; done) | (simp; omega)
      by_cases q20 : 3600 ≤ e7
      · have hl := err_box (E := E) (i := k) K1.out K2.out (by simp only [kindS, numS, boxS, endS, ← HE0.out, ← HE1.out, ← HE2.out, ← HE3.out, ← HE4.out, ← HE5.out, ← HE6.out, ← HE7.out, ← HE8.out, ← HE9.out]; omega)
        have HZ := Lib.hid (show V = _ from (HS.out k hkn HNO.out (by rw [hl]; omega)).trans hl)
        clear HS HN hl
        go_wp2_with fail
        go_ret
        refine ⟨by rw [HZ.out]; rfl, ?_⟩
        repeat' (with_reducible first | exact Below.refl _ _ | assumption | refine Below.setCell ?_ ?_ _ | refine Below.alloc ?_ ?_ _ | refine below_drewN ?_ _ | refine Below.drew ?_)
        all_goals first | omega | (simp; done) | (simp; omega)
      have K3 := Lib.hid (show boxS (E k) by simp only [kindS, numS, boxS, endS, ← HE0.out, ← HE1.out, ← HE2.out, ← HE3.out, ← HE4.out, ← HE5.out, ← HE6.out, ← HE7.out, ← HE8.out, ← HE9.out]; omega)
      by_cases p6 : e2 = 6
      · have K4 := Lib.hid (show endS (E k) by simp only [kindS, numS, boxS, endS, ← HE0.out, ← HE1.out, ← HE2.out, ← HE3.out, ← HE4.out, ← HE5.out, ← HE6.out, ← HE7.out, ← HE8.out, ← HE9.out]; omega)
        subst p6
        go_wp2_with fail
        clear q1 q2 q3 q4 q5 q6 q7 q8 q9 q10 q11 q12 q13 q14 q15 q16 q17 q18 q19 q20
        clear d0 d1 d2 d3 d4 d5 d6 d7 d8 d9 hc10 hc11
        obtain ⟨w0, hw0⟩ : ∃ w0, w0 = wr.alloc (Obj.cells #[.int .i64 e0, .int .i64 e1, .int .i64 (6), .int .i64 e3, .int .i64 e4, .int .i64 e5, .int .i64 e6, .int .i64 e7, .int .i64 (e8), .int .i64 (e9), .string n0, .string n1] 30) := ⟨_, rfl⟩
        rw [← hw0]
        have HB0 := Lib.hid (show Blk w0 wr.heap.size #[.int .i64 e0, .int .i64 e1, .int .i64 (6), .int .i64 e3, .int .i64 e4, .int .i64 e5, .int .i64 e6, .int .i64 e7, .int .i64 (e8), .int .i64 (e9), .string n0, .string n1] 30 by rw [hw0]; exact Blk.new _ _ _)
        have hb0 : Below wr.heap.size wr w0 := by rw [hw0]; exact (Below.refl _ _).alloc (Nat.le_refl _) _
        have hbel0 : Below w.heap.size w w0 := hbel.trans (hb0.mono hsz)
        have zs0 : wr.heap.size < w0.heap.size := HB0.out.lt
        obtain ⟨p, hp⟩ : ∃ p, p = wr.heap.size := ⟨_, rfl⟩
        rw [← hp] at HB0 zs0 hsz ⊢
        clear hw0 hb0 hbel zb hp
        go_loopw [129] (fun ix wi => ∃ j : Nat, ix = .int .i64 j ∧ j ≤ k ∧ (∀ i, i < j → ¬ E i 0 = e0) ∧ Below w0.heap.size w0 wi) (fun ix _ => k - (intOf ix).toNat)
        case atStart => exact ⟨0, rfl, by omega, fun i hi => by omega, Below.refl _ _⟩
        case round =>
          obtain ⟨j, rfl, hj, hno2, hbi⟩ := hrel
          have HNO2 := Lib.hid hno2
          clear hno2
          have hsi := hbi.size
          have hblk := HB0.out.below hbi zs0
          have hbeli := hbel0.trans (hbi.mono hbel0.size)
          by_cases hjk : j < k
          · obtain ⟨b2, off2, he2, hcellG⟩ := HA.out.below (Nat.le_refl _) hbeli (by omega)
            cases he2
            obtain ⟨hy, yn0, yn1⟩ := hcellG j (by omega)
            clear hcellG
            have y0 := hy 0 (by omega)
            rw [Nat.add_zero] at y0
            have y1 := hy 1 (by omega)
            have y2 := hy 2 (by omega)
            have y3 := hy 3 (by omega)
            have y4 := hy 4 (by omega)
            have y5 := hy 5 (by omega)
            have y6 := hy 6 (by omega)
            have y7 := hy 7 (by omega)
            have y8 := hy 8 (by omega)
            have y9 := hy 9 (by omega)
            clear hy
            obtain ⟨g0, hg0⟩ : ∃ g, g = E j 0 := ⟨_, rfl⟩
            rw [← hg0] at y0
            have HG0 := Lib.hid hg0
            clear hg0
            have mz : wr.cell? ⟨p, 0, none⟩ = some (.int .i64 e0) := hblk.cell (i := 0) rfl
            have zblk := hblk.lt
            clear hblk
            by_cases hx : g0 = e0
            · have hl := err_twice (E := E) (i := k) K1.out K2.out K3.out K4.out (by
                rw [← HE0.out, findV_some (k := j) hjk HNO2.out (by rw [← HG0.out]; exact hx)]; omega)
              have HZ := Lib.hid (show V = _ from (HS.out k hkn HNO.out (by rw [hl]; omega)).trans hl)
              clear HS HN hl
              subst hx
              go_wp2_with fail
              go_ret
              refine ⟨by rw [HZ.out]; rfl, ?_⟩
              repeat' (with_reducible first | exact Below.refl _ _ | assumption | refine Below.setCell ?_ ?_ _ | refine Below.alloc ?_ ?_ _ | refine below_drewN ?_ _ | refine Below.drew ?_)
              all_goals first | omega | (simp; done) | (simp; omega)
            · go_wp2_with fail
              go_roundw
              case rel =>
                refine ⟨j + 1, by go_num, by omega, fun i hi => ?_, ?_⟩
                · rcases Nat.lt_or_ge i j with h | h
                  · exact HNO2.out i h
                  · rw [show i = j by omega, ← HG0.out]; exact hx
                · repeat' (with_reducible first | exact Below.refl _ _ | assumption | refine Below.setCell ?_ ?_ _ | refine Below.alloc ?_ ?_ _ | refine below_drewN ?_ _ | refine Below.drew ?_)
                  all_goals first | omega | (simp; done) | (simp; omega)
              case measure => simp [intOf]; omega
          · obtain rfl : j = k := by omega
            have hl := err_par (E := E) (i := j) K1.out K2.out K3.out K4.out (by rw [← HE0.out, findV_none HNO2.out]; omega)
            rw [← HE1.out] at hl
            obtain ⟨PV, hPV⟩ : ∃ PV, PV = parE j E 19 e1 := ⟨_, rfl⟩
            rw [← hPV] at hl
            have HPV := Lib.hid hPV
            have HL := Lib.hid hl
            clear hl hPV
            have m0 : wr.cell? ⟨p, 0, none⟩ = some (.int .i64 e0) := hblk.cell (i := 0) rfl
            have m1 : wr.cell? ⟨p, 1, none⟩ = some (.int .i64 e1) := hblk.cell (i := 1) rfl
            have m2 : wr.cell? ⟨p, 2, none⟩ = some (.int .i64 (6)) := hblk.cell (i := 2) rfl
            have m3 : wr.cell? ⟨p, 3, none⟩ = some (.int .i64 e3) := hblk.cell (i := 3) rfl
            have m4 : wr.cell? ⟨p, 4, none⟩ = some (.int .i64 e4) := hblk.cell (i := 4) rfl
            have m5 : wr.cell? ⟨p, 5, none⟩ = some (.int .i64 e5) := hblk.cell (i := 5) rfl
            have m6 : wr.cell? ⟨p, 6, none⟩ = some (.int .i64 e6) := hblk.cell (i := 6) rfl
            have m7 : wr.cell? ⟨p, 7, none⟩ = some (.int .i64 e7) := hblk.cell (i := 7) rfl
            have m8 : wr.cell? ⟨p, 8, none⟩ = some (.int .i64 (e8)) := hblk.cell (i := 8) rfl
            have m9 : wr.cell? ⟨p, 9, none⟩ = some (.int .i64 (e9)) := hblk.cell (i := 9) rfl
            have m10 : wr.cell? ⟨p, 10, none⟩ = some (.string n0) := hblk.cell (i := 10) rfl
            have m11 : wr.cell? ⟨p, 11, none⟩ = some (.string n1) := hblk.cell (i := 11) rfl
            have HBK := Lib.hid hblk
            have zblk := hblk.lt
            clear hblk
            have HBI := Lib.hid hbeli
            go_wp2_with fail
            refine wp_region_held_drew (S := fun w' => w'.cell? ⟨p, 0, none⟩ = some (.int .i64 e0) ∧ w'.cell? ⟨p, 1, none⟩ = some (.int .i64 e1) ∧ w'.cell? ⟨p, 2, none⟩ = some (.int .i64 (6)) ∧ w'.cell? ⟨p, 3, none⟩ = some (.int .i64 e3) ∧ w'.cell? ⟨p, 4, none⟩ = some (.int .i64 e4) ∧ w'.cell? ⟨p, 5, none⟩ = some (.int .i64 e5) ∧ w'.cell? ⟨p, 6, none⟩ = some (.int .i64 e6) ∧ w'.cell? ⟨p, 7, none⟩ = some (.int .i64 e7) ∧ w'.cell? ⟨p, 8, none⟩ = some (.int .i64 (e8)) ∧ w'.cell? ⟨p, 9, none⟩ = some (.int .i64 (e9)) ∧ w'.cell? ⟨p, 10, none⟩ = some (.string n0) ∧ w'.cell? ⟨p, 11, none⟩ = some (.string n1)) (by kernel_rfl) (by exact ⟨m0, m1, m2, m3, m4, m5, m6, m7, m8, m9, m10, m11⟩) ?_
            intro hHeld
            have hjc : j ≤ c := by omega
            refine takeD (i := 0) (oi := { dst := some 139, op := _, type := _, pos := _, after := _, guard := _ }) (d := some 139) (v := ?vvu1139) rfl rfl (by kernel_rfl) (by kernel_rfl) (by kernel_rfl) ?ddu1139 (by rfl) ?yyu1139 hHeld ?rru1139
            case ddu1139 => first | exact fun _ _ _ h => h | exact fun _ _ _ h => HQ.out _ _ _ _ (by rfl) h
            case yyu1139 => (intro wx hSw; obtain ⟨y0, y1, y2, y3, y4, y5, y6, y7, y8, y9, y10, y11⟩ := hSw; go_simp; try (with_reducible rfl))
            try simp only [Act.put, List.setIfInBounds_toArray, List.set_cons_zero, List.set_cons_succ]
            refine takeD (i := 1) (oi := { dst := some 140, op := _, type := _, pos := _, after := _, guard := _ }) (d := some 140) (v := ?vvu1140) rfl rfl (by kernel_rfl) (by kernel_rfl) (by kernel_rfl) ?ddu1140 (by rfl) ?yyu1140 hHeld ?rru1140
            case ddu1140 => first | exact fun _ _ _ h => h | exact fun _ _ _ h => HQ.out _ _ _ _ (by rfl) h
            case yyu1140 => (intro wx hSw; obtain ⟨y0, y1, y2, y3, y4, y5, y6, y7, y8, y9, y10, y11⟩ := hSw; go_simp; try (with_reducible rfl))
            try simp only [Act.put, List.setIfInBounds_toArray, List.set_cons_zero, List.set_cons_succ]
            refine takeD (i := 2) (oi := { dst := some 141, op := _, type := _, pos := _, after := _, guard := _ }) (d := some 141) (v := .slice (some ⟨b, off, none⟩) j c) rfl rfl (by kernel_rfl) (by kernel_rfl) (by kernel_rfl) ?ddu (by rfl) ?yyu hHeld ?rru
            case ddu => exact fun _ _ _ h => h
            case yyu => (intro wx hSw; clear hSw hHeld; go_simp; try rw [if_pos hjc])
            try simp only [Act.put, List.setIfInBounds_toArray, List.set_cons_zero, List.set_cons_succ]
            refine takeD (i := 3) (oi := { dst := some 142, op := _, type := _, pos := _, after := _, guard := _ }) (d := some 142) (v := ?vvu1142) rfl rfl (by kernel_rfl) (by kernel_rfl) (by kernel_rfl) ?ddu1142 (by rfl) ?yyu1142 hHeld ?rru1142
            case ddu1142 => first | exact fun _ _ _ h => h | exact fun _ _ _ h => HQ.out _ _ _ _ (by rfl) h
            case yyu1142 => (intro wx hSw; obtain ⟨y0, y1, y2, y3, y4, y5, y6, y7, y8, y9, y10, y11⟩ := hSw; go_simp; try (with_reducible rfl))
            try simp only [Act.put, List.setIfInBounds_toArray, List.set_cons_zero, List.set_cons_succ]
            refine wpAnyH_ready (rs := [4]) (by kernel_rfl) (by simp) ?_
            refine AllReadyH.cons (o := { dst := some 143, op := _, type := _, pos := _, after := _, guard := _ }) rfl (fun K hK => ?_) AllReadyH.nil
            go_simp
            refine (parents_any j E N (some ⟨b, off, none⟩) c _ _ _ _ _ _ _ _ _ _ _ _ _ ((HA.out.less (by omega)).below (Nat.le_refl _) (Below.drew HBI.out)) (by omega)).mono ?_
            rintro e w5 ⟨rfl, hb5⟩
            rw [← HPV.out]
            have hbI := (Below.drew HBI.out).trans (hb5.mono (by simpa using HBI.out.size))
            have hblk5 := (HBK.out.drew).below hb5 (by simpa using zblk)
            refine hK.out _ _ ⟨hblk5.cell (i := 0) rfl, hblk5.cell (i := 1) rfl, hblk5.cell (i := 2) rfl, hblk5.cell (i := 3) rfl, hblk5.cell (i := 4) rfl, hblk5.cell (i := 5) rfl, hblk5.cell (i := 6) rfl, hblk5.cell (i := 7) rfl, hblk5.cell (i := 8) rfl, hblk5.cell (i := 9) rfl, hblk5.cell (i := 10) rfl, hblk5.cell (i := 11) rfl⟩ (fun hHeld2 => ?_)
            clear hK K
            try simp only [Act.put, List.setIfInBounds_toArray, List.set_cons_zero, List.set_cons_succ]
            refine takeD (i := 5) (oi := { dst := some 7, op := _, type := _, pos := _, after := _, guard := _ }) (d := some 7) (v := ?vvu27) rfl rfl (by kernel_rfl) (by kernel_rfl) (by kernel_rfl) ?ddu27 (by rfl) ?yyu27 hHeld2 ?rru27
            case ddu27 => first | exact fun _ _ _ h => h | exact fun _ _ _ h => HQ.out _ _ _ _ (by rfl) h
            case yyu27 => (intro wx hSw; obtain ⟨y0, y1, y2, y3, y4, y5, y6, y7, y8, y9, y10, y11⟩ := hSw; go_simp; try (with_reducible rfl))
            try simp only [Act.put, List.setIfInBounds_toArray, List.set_cons_zero, List.set_cons_succ]
            refine wpAnyH_done (by kernel_rfl) ?_ _
            clear hHeld hHeld2 hblk5
            by_cases hp : PV = 0
            · subst hp
              go_wp2_with fail
              go_roundw
              case rel =>
                refine ⟨j + 1, by go_num, by omega, fun i hi => ?_, ?_⟩
                · rcases Nat.lt_or_ge i j with h | h
                  · exact HNO.out i h
                  · rw [show i = j by omega]; exact HL.out
                · exact hbI
              case measure => simp [intOf]; omega
            · have HZ := Lib.hid (show V = _ from (HS.out j hkn HNO.out (by rw [HL.out]; exact hp)).trans HL.out)
              have tp : (PV != 0) = true := by simpa using hp
              go_wp2_with fail
              go_ret
              exact ⟨by rw [HZ.out]; rfl, hbI⟩
      · have t6 : (e2 != 6) = true := by simpa using p6
        by_cases p8 : e8 = 0
        · by_cases p9 : e9 = 0
          · have K4 := Lib.hid (show endS (E k) by simp only [kindS, numS, boxS, endS, ← HE0.out, ← HE1.out, ← HE2.out, ← HE3.out, ← HE4.out, ← HE5.out, ← HE6.out, ← HE7.out, ← HE8.out, ← HE9.out]; omega)
            subst p8 p9
            go_wp2_with fail
            clear q1 q2 q3 q4 q5 q6 q7 q8 q9 q10 q11 q12 q13 q14 q15 q16 q17 q18 q19 q20
            clear d0 d1 d2 d3 d4 d5 d6 d7 d8 d9 hc10 hc11
            obtain ⟨w0, hw0⟩ : ∃ w0, w0 = wr.alloc (Obj.cells #[.int .i64 e0, .int .i64 e1, .int .i64 (e2), .int .i64 e3, .int .i64 e4, .int .i64 e5, .int .i64 e6, .int .i64 e7, .int .i64 (0), .int .i64 (0), .string n0, .string n1] 30) := ⟨_, rfl⟩
            rw [← hw0]
            have HB0 := Lib.hid (show Blk w0 wr.heap.size #[.int .i64 e0, .int .i64 e1, .int .i64 (e2), .int .i64 e3, .int .i64 e4, .int .i64 e5, .int .i64 e6, .int .i64 e7, .int .i64 (0), .int .i64 (0), .string n0, .string n1] 30 by rw [hw0]; exact Blk.new _ _ _)
            have hb0 : Below wr.heap.size wr w0 := by rw [hw0]; exact (Below.refl _ _).alloc (Nat.le_refl _) _
            have hbel0 : Below w.heap.size w w0 := hbel.trans (hb0.mono hsz)
            have zs0 : wr.heap.size < w0.heap.size := HB0.out.lt
            obtain ⟨p, hp⟩ : ∃ p, p = wr.heap.size := ⟨_, rfl⟩
            rw [← hp] at HB0 zs0 hsz ⊢
            clear hw0 hb0 hbel zb hp
            go_loopw [129] (fun ix wi => ∃ j : Nat, ix = .int .i64 j ∧ j ≤ k ∧ (∀ i, i < j → ¬ E i 0 = e0) ∧ Below w0.heap.size w0 wi) (fun ix _ => k - (intOf ix).toNat)
            case atStart => exact ⟨0, rfl, by omega, fun i hi => by omega, Below.refl _ _⟩
            case round =>
              obtain ⟨j, rfl, hj, hno2, hbi⟩ := hrel
              have HNO2 := Lib.hid hno2
              clear hno2
              have hsi := hbi.size
              have hblk := HB0.out.below hbi zs0
              have hbeli := hbel0.trans (hbi.mono hbel0.size)
              by_cases hjk : j < k
              · obtain ⟨b2, off2, he2, hcellG⟩ := HA.out.below (Nat.le_refl _) hbeli (by omega)
                cases he2
                obtain ⟨hy, yn0, yn1⟩ := hcellG j (by omega)
                clear hcellG
                have y0 := hy 0 (by omega)
                rw [Nat.add_zero] at y0
                have y1 := hy 1 (by omega)
                have y2 := hy 2 (by omega)
                have y3 := hy 3 (by omega)
                have y4 := hy 4 (by omega)
                have y5 := hy 5 (by omega)
                have y6 := hy 6 (by omega)
                have y7 := hy 7 (by omega)
                have y8 := hy 8 (by omega)
                have y9 := hy 9 (by omega)
                clear hy
                obtain ⟨g0, hg0⟩ : ∃ g, g = E j 0 := ⟨_, rfl⟩
                rw [← hg0] at y0
                have HG0 := Lib.hid hg0
                clear hg0
                have mz : wr.cell? ⟨p, 0, none⟩ = some (.int .i64 e0) := hblk.cell (i := 0) rfl
                have zblk := hblk.lt
                clear hblk
                by_cases hx : g0 = e0
                · have hl := err_twice (E := E) (i := k) K1.out K2.out K3.out K4.out (by
                    rw [← HE0.out, findV_some (k := j) hjk HNO2.out (by rw [← HG0.out]; exact hx)]; omega)
                  have HZ := Lib.hid (show V = _ from (HS.out k hkn HNO.out (by rw [hl]; omega)).trans hl)
                  clear HS HN hl
                  subst hx
                  go_wp2_with fail
                  go_ret
                  refine ⟨by rw [HZ.out]; rfl, ?_⟩
                  repeat' (with_reducible first | exact Below.refl _ _ | assumption | refine Below.setCell ?_ ?_ _ | refine Below.alloc ?_ ?_ _ | refine below_drewN ?_ _ | refine Below.drew ?_)
                  all_goals first | omega | (simp; done) | (simp; omega)
                · go_wp2_with fail
                  go_roundw
                  case rel =>
                    refine ⟨j + 1, by go_num, by omega, fun i hi => ?_, ?_⟩
                    · rcases Nat.lt_or_ge i j with h | h
                      · exact HNO2.out i h
                      · rw [show i = j by omega, ← HG0.out]; exact hx
                    · repeat' (with_reducible first | exact Below.refl _ _ | assumption | refine Below.setCell ?_ ?_ _ | refine Below.alloc ?_ ?_ _ | refine below_drewN ?_ _ | refine Below.drew ?_)
                      all_goals first | omega | (simp; done) | (simp; omega)
                  case measure => simp [intOf]; omega
              · obtain rfl : j = k := by omega
                have hl := err_par (E := E) (i := j) K1.out K2.out K3.out K4.out (by rw [← HE0.out, findV_none HNO2.out]; omega)
                rw [← HE1.out] at hl
                obtain ⟨PV, hPV⟩ : ∃ PV, PV = parE j E 19 e1 := ⟨_, rfl⟩
                rw [← hPV] at hl
                have HPV := Lib.hid hPV
                have HL := Lib.hid hl
                clear hl hPV
                have m0 : wr.cell? ⟨p, 0, none⟩ = some (.int .i64 e0) := hblk.cell (i := 0) rfl
                have m1 : wr.cell? ⟨p, 1, none⟩ = some (.int .i64 e1) := hblk.cell (i := 1) rfl
                have m2 : wr.cell? ⟨p, 2, none⟩ = some (.int .i64 (e2)) := hblk.cell (i := 2) rfl
                have m3 : wr.cell? ⟨p, 3, none⟩ = some (.int .i64 e3) := hblk.cell (i := 3) rfl
                have m4 : wr.cell? ⟨p, 4, none⟩ = some (.int .i64 e4) := hblk.cell (i := 4) rfl
                have m5 : wr.cell? ⟨p, 5, none⟩ = some (.int .i64 e5) := hblk.cell (i := 5) rfl
                have m6 : wr.cell? ⟨p, 6, none⟩ = some (.int .i64 e6) := hblk.cell (i := 6) rfl
                have m7 : wr.cell? ⟨p, 7, none⟩ = some (.int .i64 e7) := hblk.cell (i := 7) rfl
                have m8 : wr.cell? ⟨p, 8, none⟩ = some (.int .i64 (0)) := hblk.cell (i := 8) rfl
                have m9 : wr.cell? ⟨p, 9, none⟩ = some (.int .i64 (0)) := hblk.cell (i := 9) rfl
                have m10 : wr.cell? ⟨p, 10, none⟩ = some (.string n0) := hblk.cell (i := 10) rfl
                have m11 : wr.cell? ⟨p, 11, none⟩ = some (.string n1) := hblk.cell (i := 11) rfl
                have HBK := Lib.hid hblk
                have zblk := hblk.lt
                clear hblk
                have HBI := Lib.hid hbeli
                go_wp2_with fail
                refine wp_region_held_drew (S := fun w' => w'.cell? ⟨p, 0, none⟩ = some (.int .i64 e0) ∧ w'.cell? ⟨p, 1, none⟩ = some (.int .i64 e1) ∧ w'.cell? ⟨p, 2, none⟩ = some (.int .i64 (e2)) ∧ w'.cell? ⟨p, 3, none⟩ = some (.int .i64 e3) ∧ w'.cell? ⟨p, 4, none⟩ = some (.int .i64 e4) ∧ w'.cell? ⟨p, 5, none⟩ = some (.int .i64 e5) ∧ w'.cell? ⟨p, 6, none⟩ = some (.int .i64 e6) ∧ w'.cell? ⟨p, 7, none⟩ = some (.int .i64 e7) ∧ w'.cell? ⟨p, 8, none⟩ = some (.int .i64 (0)) ∧ w'.cell? ⟨p, 9, none⟩ = some (.int .i64 (0)) ∧ w'.cell? ⟨p, 10, none⟩ = some (.string n0) ∧ w'.cell? ⟨p, 11, none⟩ = some (.string n1)) (by kernel_rfl) (by exact ⟨m0, m1, m2, m3, m4, m5, m6, m7, m8, m9, m10, m11⟩) ?_
                intro hHeld
                have hjc : j ≤ c := by omega
                refine takeD (i := 0) (oi := { dst := some 139, op := _, type := _, pos := _, after := _, guard := _ }) (d := some 139) (v := ?vvv1139) rfl rfl (by kernel_rfl) (by kernel_rfl) (by kernel_rfl) ?ddv1139 (by rfl) ?yyv1139 hHeld ?rrv1139
                case ddv1139 => first | exact fun _ _ _ h => h | exact fun _ _ _ h => HQ.out _ _ _ _ (by rfl) h
                case yyv1139 => (intro wx hSw; obtain ⟨y0, y1, y2, y3, y4, y5, y6, y7, y8, y9, y10, y11⟩ := hSw; go_simp; try (with_reducible rfl))
                try simp only [Act.put, List.setIfInBounds_toArray, List.set_cons_zero, List.set_cons_succ]
                refine takeD (i := 1) (oi := { dst := some 140, op := _, type := _, pos := _, after := _, guard := _ }) (d := some 140) (v := ?vvv1140) rfl rfl (by kernel_rfl) (by kernel_rfl) (by kernel_rfl) ?ddv1140 (by rfl) ?yyv1140 hHeld ?rrv1140
                case ddv1140 => first | exact fun _ _ _ h => h | exact fun _ _ _ h => HQ.out _ _ _ _ (by rfl) h
                case yyv1140 => (intro wx hSw; obtain ⟨y0, y1, y2, y3, y4, y5, y6, y7, y8, y9, y10, y11⟩ := hSw; go_simp; try (with_reducible rfl))
                try simp only [Act.put, List.setIfInBounds_toArray, List.set_cons_zero, List.set_cons_succ]
                refine takeD (i := 2) (oi := { dst := some 141, op := _, type := _, pos := _, after := _, guard := _ }) (d := some 141) (v := .slice (some ⟨b, off, none⟩) j c) rfl rfl (by kernel_rfl) (by kernel_rfl) (by kernel_rfl) ?ddv (by rfl) ?yyv hHeld ?rrv
                case ddv => exact fun _ _ _ h => h
                case yyv => (intro wx hSw; clear hSw hHeld; go_simp; try rw [if_pos hjc])
                try simp only [Act.put, List.setIfInBounds_toArray, List.set_cons_zero, List.set_cons_succ]
                refine takeD (i := 3) (oi := { dst := some 142, op := _, type := _, pos := _, after := _, guard := _ }) (d := some 142) (v := ?vvv1142) rfl rfl (by kernel_rfl) (by kernel_rfl) (by kernel_rfl) ?ddv1142 (by rfl) ?yyv1142 hHeld ?rrv1142
                case ddv1142 => first | exact fun _ _ _ h => h | exact fun _ _ _ h => HQ.out _ _ _ _ (by rfl) h
                case yyv1142 => (intro wx hSw; obtain ⟨y0, y1, y2, y3, y4, y5, y6, y7, y8, y9, y10, y11⟩ := hSw; go_simp; try (with_reducible rfl))
                try simp only [Act.put, List.setIfInBounds_toArray, List.set_cons_zero, List.set_cons_succ]
                refine wpAnyH_ready (rs := [4]) (by kernel_rfl) (by simp) ?_
                refine AllReadyH.cons (o := { dst := some 143, op := _, type := _, pos := _, after := _, guard := _ }) rfl (fun K hK => ?_) AllReadyH.nil
                go_simp
                refine (parents_any j E N (some ⟨b, off, none⟩) c _ _ _ _ _ _ _ _ _ _ _ _ _ ((HA.out.less (by omega)).below (Nat.le_refl _) (Below.drew HBI.out)) (by omega)).mono ?_
                rintro e w5 ⟨rfl, hb5⟩
                rw [← HPV.out]
                have hbI := (Below.drew HBI.out).trans (hb5.mono (by simpa using HBI.out.size))
                have hblk5 := (HBK.out.drew).below hb5 (by simpa using zblk)
                refine hK.out _ _ ⟨hblk5.cell (i := 0) rfl, hblk5.cell (i := 1) rfl, hblk5.cell (i := 2) rfl, hblk5.cell (i := 3) rfl, hblk5.cell (i := 4) rfl, hblk5.cell (i := 5) rfl, hblk5.cell (i := 6) rfl, hblk5.cell (i := 7) rfl, hblk5.cell (i := 8) rfl, hblk5.cell (i := 9) rfl, hblk5.cell (i := 10) rfl, hblk5.cell (i := 11) rfl⟩ (fun hHeld2 => ?_)
                clear hK K
                try simp only [Act.put, List.setIfInBounds_toArray, List.set_cons_zero, List.set_cons_succ]
                refine takeD (i := 5) (oi := { dst := some 7, op := _, type := _, pos := _, after := _, guard := _ }) (d := some 7) (v := ?vvv27) rfl rfl (by kernel_rfl) (by kernel_rfl) (by kernel_rfl) ?ddv27 (by rfl) ?yyv27 hHeld2 ?rrv27
                case ddv27 => first | exact fun _ _ _ h => h | exact fun _ _ _ h => HQ.out _ _ _ _ (by rfl) h
                case yyv27 => (intro wx hSw; obtain ⟨y0, y1, y2, y3, y4, y5, y6, y7, y8, y9, y10, y11⟩ := hSw; go_simp; try (with_reducible rfl))
                try simp only [Act.put, List.setIfInBounds_toArray, List.set_cons_zero, List.set_cons_succ]
                refine wpAnyH_done (by kernel_rfl) ?_ _
                clear hHeld hHeld2 hblk5
                by_cases hp : PV = 0
                · subst hp
                  go_wp2_with fail
                  go_roundw
                  case rel =>
                    refine ⟨j + 1, by go_num, by omega, fun i hi => ?_, ?_⟩
                    · rcases Nat.lt_or_ge i j with h | h
                      · exact HNO.out i h
                      · rw [show i = j by omega]; exact HL.out
                    · exact hbI
                  case measure => simp [intOf]; omega
                · have HZ := Lib.hid (show V = _ from (HS.out j hkn HNO.out (by rw [HL.out]; exact hp)).trans HL.out)
                  have tp : (PV != 0) = true := by simpa using hp
                  go_wp2_with fail
                  go_ret
                  exact ⟨by rw [HZ.out]; rfl, hbI⟩
          · subst p8
            have t9 : (e9 != 0) = true := by simpa using p9
            have hl := err_end (E := E) (i := k) K1.out K2.out K3.out (by simp only [kindS, numS, boxS, endS, ← HE0.out, ← HE1.out, ← HE2.out, ← HE3.out, ← HE4.out, ← HE5.out, ← HE6.out, ← HE7.out, ← HE8.out, ← HE9.out]; omega)
            have HZ := Lib.hid (show V = _ from (HS.out k hkn HNO.out (by rw [hl]; omega)).trans hl)
            clear HS HN hl
            go_wp2_with fail
            all_goals
              go_ret
              refine ⟨by rw [HZ.out]; rfl, ?_⟩
              repeat' (with_reducible first | exact Below.refl _ _ | assumption | refine Below.setCell ?_ ?_ _ | refine Below.alloc ?_ ?_ _ | refine below_drewN ?_ _ | refine Below.drew ?_)
              all_goals first | omega | (simp; done) | (simp; omega)
        · have t8 : (e8 != 0) = true := by simpa using p8
          have hl := err_end (E := E) (i := k) K1.out K2.out K3.out (by simp only [kindS, numS, boxS, endS, ← HE0.out, ← HE1.out, ← HE2.out, ← HE3.out, ← HE4.out, ← HE5.out, ← HE6.out, ← HE7.out, ← HE8.out, ← HE9.out]; omega)
          have HZ := Lib.hid (show V = _ from (HS.out k hkn HNO.out (by rw [hl]; omega)).trans hl)
          clear HS HN hl
          go_wp2_with fail
          all_goals
            go_ret
            refine ⟨by rw [HZ.out]; rfl, ?_⟩
            repeat' (with_reducible first | exact Below.refl _ _ | assumption | refine Below.setCell ?_ ?_ _ | refine Below.alloc ?_ ?_ _ | refine below_drewN ?_ _ | refine Below.drew ?_)
            all_goals first | omega | (simp; done) | (simp; omega)
    · obtain rfl : k = n := by omega
      have HL := Lib.hid (HN.out HNO.out)
      go_wp2_with fail
      go_ret
      exact ⟨by rw [HL.out]; rfl, hbel⟩
end Go.Proofs.YtabnohphgegflaaDoor.ShT
