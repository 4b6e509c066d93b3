

/-
  The reference's ShapesError.
-/
import Derived.Test.YtabnohphgegflaaDoorShErrPlain
import Derived.Test.YtabnohphgegflaaDoorTakes
import Derived.Test.YtabnohphgegflaaDoorIn
import Derived.Deep.RegionHeld3
namespace Go.Proofs.YtabnohphgegflaaDoor.ShT
open Go.RowKit Go.Law Go.Law.Sh Ref
set_option linter.unusedVariables false
set_option linter.unusedSimpArgs false
set_option maxRecDepth 100000
set_option maxHeartbeats 4000000 in
theorem shapesError_any (n : Nat) (E : Nat → Nat → Int) (N : Nat → Nat → ByteArray) (a : Option Addr) (c : Nat) (w : World) (ha : ShF w a n E N) (hn : n ≤ 1000000000000000000) (hc : n ≤ c) :
    Calls Tryd.prog 41 #[.slice a n c] w fun e w' => e = .returned (.int .i64 (shE n E)) ∧ Below w.heap.size w w' := by
  have HA := Lib.hid ha
  by_cases hbig : 1000 < n
  · rw [shE_large hbig]
    go_enter Tryd.func41, Tryd.ntmps41
    go_wp2_with fail
    go_ret
    exact ⟨rfl, Below.refl _ _⟩
  have HS := Lib.hid (fun k => @shE_some n k E (by omega))
  have HN := Lib.hid (@shE_none n E (by omega))
  obtain ⟨V, hV⟩ : ∃ V, V = shE n E := ⟨_, rfl⟩
  rw [← hV] at HS HN ⊢
  clear ha hV
  go_enter Tryd.func41, Tryd.ntmps41
  go_wp2_with fail
  go_loopw [13] (fun ix wr => ∃ k : Nat, ix = .int .i64 k ∧ k ≤ n ∧ (∀ j, j < k → errAt E j = 0) ∧ Below w.heap.size w wr) (fun ix _ => n - (intOf ix).toNat)
  case atStart => exact ⟨0, rfl, by omega, fun j hj => by omega, Below.refl _ _⟩
  case round =>
    obtain ⟨k, rfl, hk, hno, hbel⟩ := hrel
    have HNO := Lib.hid hno
    clear hno
    by_cases hkn : k < n
    · obtain ⟨b, off, rfl, hcellG⟩ := HA.out.below (Nat.le_refl _) hbel (by omega)
      have hcell := hcellG k hkn
      clear hcellG
      obtain ⟨hci, hc10, hc11⟩ := hcell
      have d0 := hci 0 (by omega)
      rw [Nat.add_zero] at d0
      have d1 := hci 1 (by omega)
      have d2 := hci 2 (by omega)
      have d3 := hci 3 (by omega)
      have d4 := hci 4 (by omega)
      have d5 := hci 5 (by omega)
      have d6 := hci 6 (by omega)
      have d7 := hci 7 (by omega)
      have d8 := hci 8 (by omega)
      have d9 := hci 9 (by omega)
      have zb := lt_of_cell d0
      simp only at zb
      clear hci
      obtain ⟨e0, he0⟩ : ∃ e, e = E k 0 := ⟨_, rfl⟩
      obtain ⟨e1, he1⟩ : ∃ e, e = E k 1 := ⟨_, rfl⟩
      obtain ⟨e2, he2⟩ : ∃ e, e = E k 2 := ⟨_, rfl⟩
      obtain ⟨e3, he3⟩ : ∃ e, e = E k 3 := ⟨_, rfl⟩
      obtain ⟨e4, he4⟩ : ∃ e, e = E k 4 := ⟨_, rfl⟩
      obtain ⟨e5, he5⟩ : ∃ e, e = E k 5 := ⟨_, rfl⟩
      obtain ⟨e6, he6⟩ : ∃ e, e = E k 6 := ⟨_, rfl⟩
      obtain ⟨e7, he7⟩ : ∃ e, e = E k 7 := ⟨_, rfl⟩
      obtain ⟨e8, he8⟩ : ∃ e, e = E k 8 := ⟨_, rfl⟩
      obtain ⟨e9, he9⟩ : ∃ e, e = E k 9 := ⟨_, rfl⟩
      obtain ⟨n0, hn0⟩ : ∃ e, e = N k 0 := ⟨_, rfl⟩
      obtain ⟨n1, hn1⟩ : ∃ e, e = N k 1 := ⟨_, rfl⟩
      rw [← he0] at d0
      rw [← he1] at d1
      rw [← he2] at d2
      rw [← he3] at d3
      rw [← he4] at d4
      rw [← he5] at d5
      rw [← he6] at d6
      rw [← he7] at d7
      rw [← he8] at d8
      rw [← he9] at d9
      rw [← hn0] at hc10
      rw [← hn1] at hc11
      have HE0 := Lib.hid he0
      have HE1 := Lib.hid he1
      have HE2 := Lib.hid he2
      have HE3 := Lib.hid he3
      have HE4 := Lib.hid he4
      have HE5 := Lib.hid he5
      have HE6 := Lib.hid he6
      have HE7 := Lib.hid he7
      have HE8 := Lib.hid he8
      have HE9 := Lib.hid he9
      have HN0 := Lib.hid hn0
      have HN1 := Lib.hid hn1
      clear he0 he1 he2 he3 he4 he5 he6 he7 he8 he9 hn0 hn1
      have hsz := hbel.size
      go_wp2_with fail
      refine (in_any _ _ _ _).mono ?_
      rintro e wq ⟨rfl, rfl⟩
      rcases Classical.em (0 ≤ e2 ∧ e2 ≤ 7) with q1 | q1
      rotate_left
      · rw [inB_false.2 q1]
        have hl := err_kind (E := E) (i := k) (by simp only [kindS, numS, boxS, endS, ← HE0.out, ← HE1.out, ← HE2.out, ← HE3.out, ← HE4.out, ← HE5.out, ← HE6.out, ← HE7.out, ← HE8.out, ← HE9.out]; omega)
        clear q1
        have HZ := Lib.hid (show V = _ from (HS.out k hkn HNO.out (by rw [hl]; omega)).trans hl)
        clear HS HN hl
        go_wp2_with fail
        go_ret
        refine ⟨by rw [HZ.out]; rfl, ?_⟩
        repeat' (with_reducible first | exact Below.refl _ _ | assumption | refine Below.setCell ?_ ?_ _ | refine Below.alloc ?_ ?_ _ | refine below_drewN ?_ _ | refine Below.drew ?_)
        all_goals first | omega | (simp; done) | (simp; omega)
      rw [inB_true.2 q1]
      obtain ⟨q1, q2⟩ := q1
      have K1 := Lib.hid (show kindS (E k) by simp only [kindS, numS, boxS, endS, ← HE0.out, ← HE1.out, ← HE2.out, ← HE3.out, ← HE4.out, ← HE5.out, ← HE6.out, ← HE7.out, ← HE8.out, ← HE9.out]; omega)
      go_wp2_with fail
      refine (in_any _ _ _ _).mono ?_
      rintro e wq ⟨rfl, rfl⟩
      rcases Classical.em (1 ≤ e0 ∧ e0 ≤ 1073741824) with q3 | q3
      rotate_left
      · rw [inB_false.2 q3]
        have hl := err_num (E := E) (i := k) K1.out (by simp only [kindS, numS, boxS, endS, ← HE0.out, ← HE1.out, ← HE2.out, ← HE3.out, ← HE4.out, ← HE5.out, ← HE6.out, ← HE7.out, ← HE8.out, ← HE9.out]; omega)
        clear q3
        have HZ := Lib.hid (show V = _ from (HS.out k hkn HNO.out (by rw [hl]; omega)).trans hl)
        clear HS HN hl
        go_wp2_with fail
        go_ret
        refine ⟨by rw [HZ.out]; rfl, ?_⟩
        repeat' (with_reducible first | exact Below.refl _ _ | assumption | refine Below.setCell ?_ ?_ _ | refine Below.alloc ?_ ?_ _ | refine below_drewN ?_ _ | refine Below.drew ?_)
        all_goals first | omega | (simp; done) | (simp; omega)
      rw [inB_true.2 q3]
      obtain ⟨q3, q4⟩ := q3
      go_wp2_with fail
      refine (in_any _ _ _ _).mono ?_
      rintro e wq ⟨rfl, rfl⟩
      rcases Classical.em (0 ≤ e1 ∧ e1 ≤ 1073741824) with q5 | q5
      rotate_left
      · rw [inB_false.2 q5]
        have hl := err_num (E := E) (i := k) K1.out (by simp only [kindS, numS, boxS, endS, ← HE0.out, ← HE1.out, ← HE2.out, ← HE3.out, ← HE4.out, ← HE5.out, ← HE6.out, ← HE7.out, ← HE8.out, ← HE9.out]; omega)
        clear q5
        have HZ := Lib.hid (show V = _ from (HS.out k hkn HNO.out (by rw [hl]; omega)).trans hl)
        clear HS HN hl
        go_wp2_with fail
        go_ret
        refine ⟨by rw [HZ.out]; rfl, ?_⟩
        repeat' (with_reducible first | exact Below.refl _ _ | assumption | refine Below.setCell ?_ ?_ _ | refine Below.alloc ?_ ?_ _ | refine below_drewN ?_ _ | refine Below.drew ?_)
        all_goals first | omega | (simp; done) | (simp; omega)
      rw [inB_true.2 q5]
      obtain ⟨q5, q6⟩ := q5
      go_wp2_with fail
      refine (in_any _ _ _ _).mono ?_
      rintro e wq ⟨rfl, rfl⟩
      rcases Classical.em (0 ≤ e8 ∧ e8 ≤ 1073741824) with q7 | q7
      rotate_left
      · rw [inB_false.2 q7]
        have hl := err_num (E := E) (i := k) K1.out (by simp only [kindS, numS, boxS, endS, ← HE0.out, ← HE1.out, ← HE2.out, ← HE3.out, ← HE4.out, ← HE5.out, ← HE6.out, ← HE7.out, ← HE8.out, ← HE9.out]; omega)
        clear q7
        have HZ := Lib.hid (show V = _ from (HS.out k hkn HNO.out (by rw [hl]; omega)).trans hl)
        clear HS HN hl
        go_wp2_with fail
        go_ret
        refine ⟨by rw [HZ.out]; rfl, ?_⟩
        repeat' (with_reducible first | exact Below.refl _ _ | assumption | refine Below.setCell ?_ ?_ _ | refine Below.alloc ?_ ?_ _ | refine below_drewN ?_ _ | refine Below.drew ?_)
        all_goals first | omega | (simp; done) | (simp; omega)
      rw [inB_true.2 q7]
      obtain ⟨q7, q8⟩ := q7
      go_wp2_with fail
      refine (in_any _ _ _ _).mono ?_
      rintro e wq ⟨rfl, rfl⟩
      rcases Classical.em (0 ≤ e9 ∧ e9 ≤ 1073741824) with q9 | q9
      rotate_left
      · rw [inB_false.2 q9]
        have hl := err_num (E := E) (i := k) K1.out (by simp only [kindS, numS, boxS, endS, ← HE0.out, ← HE1.out, ← HE2.out, ← HE3.out, ← HE4.out, ← HE5.out, ← HE6.out, ← HE7.out, ← HE8.out, ← HE9.out]; omega)
        clear q9
        have HZ := Lib.hid (show V = _ from (HS.out k hkn HNO.out (by rw [hl]; omega)).trans hl)
        clear HS HN hl
        go_wp2_with fail
        go_ret
        refine ⟨by rw [HZ.out]; rfl, ?_⟩
        repeat' (with_reducible first | exact Below.refl _ _ | assumption | refine Below.setCell ?_ ?_ _ | refine Below.alloc ?_ ?_ _ | refine below_drewN ?_ _ | refine Below.drew ?_)
        all_goals first | omega | (simp; done) | (simp; omega)
      rw [inB_true.2 q9]
      obtain ⟨q9, q10⟩ := q9
      have K2 := Lib.hid (show numS (E k) by simp only [kindS, numS, boxS, endS, ← HE0.out, ← HE1.out, ← HE2.out, ← HE3.out, ← HE4.out, ← HE5.out, ← HE6.out, ← HE7.out, ← HE8.out, ← HE9.out]; omega)
      go_wp2_with fail
      refine (in_any _ _ _ _).mono ?_
      rintro e wq ⟨rfl, rfl⟩
      rcases Classical.em (-1048576 ≤ e3 ∧ e3 ≤ 1048576) with q11 | q11
      rotate_left
      · rw [inB_false.2 q11]
        have hl := err_box (E := E) (i := k) K1.out K2.out (by simp only [kindS, numS, boxS, endS, ← HE0.out, ← HE1.out, ← HE2.out, ← HE3.out, ← HE4.out, ← HE5.out, ← HE6.out, ← HE7.out, ← HE8.out, ← HE9.out]; omega)
        clear q11
        have HZ := Lib.hid (show V = _ from (HS.out k hkn HNO.out (by rw [hl]; omega)).trans hl)
        clear HS HN hl
        go_wp2_with fail
        go_ret
        refine ⟨by rw [HZ.out]; rfl, ?_⟩
        repeat' (with_reducible first | exact Below.refl _ _ | assumption | refine Below.setCell ?_ ?_ _ | refine Below.alloc ?_ ?_ _ | refine below_drewN ?_ _ | refine Below.drew ?_)
        all_goals first | omega | (simp; done) | (simp; omega)
      rw [inB_true.2 q11]
      obtain ⟨q11, q12⟩ := q11
      go_wp2_with fail
      refine (in_any _ _ _ _).mono ?_
      rintro e wq ⟨rfl, rfl⟩
      rcases Classical.em (-1048576 ≤ e4 ∧ e4 ≤ 1048576) with q13 | q13
      rotate_left
      · rw [inB_false.2 q13]
        have hl := err_box (E := E) (i := k) K1.out K2.out (by simp only [kindS, numS, boxS, endS, ← HE0.out, ← HE1.out, ← HE2.out, ← HE3.out, ← HE4.out, ← HE5.out, ← HE6.out, ← HE7.out, ← HE8.out, ← HE9.out]; omega)
        clear q13
        have HZ := Lib.hid (show V = _ from (HS.out k hkn HNO.out (by rw [hl]; omega)).trans hl)
        clear HS HN hl
        go_wp2_with fail
        go_ret
        refine ⟨by rw [HZ.out]; rfl, ?_⟩
        repeat' (with_reducible first | exact Below.refl _ _ | assumption | refine Below.setCell ?_ ?_ _ | refine Below.alloc ?_ ?_ _ | refine below_drewN ?_ _ | refine Below.drew ?_)
        all_goals first | omega | (simp; done) | (simp; omega)
      rw [inB_true.2 q13]
      obtain ⟨q13, q14⟩ := q13
      go_wp2_with fail
      refine (in_any _ _ _ _).mono ?_
      rintro e wq ⟨rfl, rfl⟩
      rcases Classical.em (0 ≤ e5 ∧ e5 ≤ 1048576) with q15 | q15
      rotate_left
      · rw [inB_false.2 q15]
        have hl := err_box (E := E) (i := k) K1.out K2.out (by simp only [kindS, numS, boxS, endS, ← HE0.out, ← HE1.out, ← HE2.out, ← HE3.out, ← HE4.out, ← HE5.out, ← HE6.out, ← HE7.out, ← HE8.out, ← HE9.out]; omega)
        clear q15
        have HZ := Lib.hid (show V = _ from (HS.out k hkn HNO.out (by rw [hl]; omega)).trans hl)
        clear HS HN hl
        go_wp2_with fail
        go_ret
        refine ⟨by rw [HZ.out]; rfl, ?_⟩
        repeat' (with_reducible first | exact Below.refl _ _ | assumption | refine Below.setCell ?_ ?_ _ | refine Below.alloc ?_ ?_ _ | refine below_drewN ?_ _ | refine Below.drew ?_)
        all_goals first | omega | (simp; done) | (simp; omega)
      rw [inB_true.2 q15]
      obtain ⟨q15, q16⟩ := q15
      go_wp2_with fail
      refine (in_any _ _ _ _).mono ?_
      rintro e wq ⟨rfl, rfl⟩
      rcases Classical.em (0 ≤ e6 ∧ e6 ≤ 1048576) with q17 | q17
      rotate_left
      · rw [inB_false.2 q17]
        have hl := err_box (E := E) (i := k) K1.out K2.out (by simp only [kindS, numS, boxS, endS, ← HE0.out, ← HE1.out, ← HE2.out, ← HE3.out, ← HE4.out, ← HE5.out, ← HE6.out, ← HE7.out, ← HE8.out, ← HE9.out]; omega)
        clear q17
        have HZ := Lib.hid (show V = _ from (HS.out k hkn HNO.out (by rw [hl]; omega)).trans hl)
        clear HS HN hl
        go_wp2_with fail
        go_ret
        refine ⟨by rw [HZ.out]; rfl, ?_⟩
        repeat' (with_reducible first | exact Below.refl _ _ | assumption | refine Below.setCell ?_ ?_ _ | refine Below.alloc ?_ ?_ _ | refine below_drewN ?_ _ | refine Below.drew ?_)
        all_goals first | omega | (simp; done) | (simp; omega)
      rw [inB_true.2 q17]
      obtain ⟨q17, q18⟩ := q17
      go_wp2_with fail
      refine (in_any _ _ _ _).mono ?_
      rintro e wq ⟨rfl, rfl⟩
      rcases Classical.em (0 ≤ e7 ∧ e7 ≤ 3599) with q19 | q19
      rotate_left
      · rw [inB_false.2 q19]
        have hl := err_box (E := E) (i := k) K1.out K2.out (by simp only [kindS, numS, boxS, endS, ← HE0.out, ← HE1.out, ← HE2.out, ← HE3.out, ← HE4.out, ← HE5.out, ← HE6.out, ← HE7.out, ← HE8.out, ← HE9.out]; omega)
        clear q19
        have HZ := Lib.hid (show V = _ from (HS.out k hkn HNO.out (by rw [hl]; omega)).trans hl)
        clear HS HN hl
        go_wp2_with fail
        go_ret
        refine ⟨by rw [HZ.out]; rfl, ?_⟩
        repeat' (with_reducible first | exact Below.refl _ _ | assumption | refine Below.setCell ?_ ?_ _ | refine Below.alloc ?_ ?_ _ | refine below_drewN ?_ _ | refine Below.drew ?_)
        all_goals first | omega | (simp; done) | (simp; omega)
      rw [inB_true.2 q19]
      obtain ⟨q19, q20⟩ := q19
      have K3 := Lib.hid (show boxS (E k) by simp only [kindS, numS, boxS, endS, ← HE0.out, ← HE1.out, ← HE2.out, ← HE3.out, ← HE4.out, ← HE5.out, ← HE6.out, ← HE7.out, ← HE8.out, ← HE9.out]; omega)
      by_cases p6 : e2 = 6
      · have t6 : (e2 != 6) = false := by simpa using p6
        have K4 := Lib.hid (show endS (E k) by simp only [kindS, numS, boxS, endS, ← HE0.out, ← HE1.out, ← HE2.out, ← HE3.out, ← HE4.out, ← HE5.out, ← HE6.out, ← HE7.out, ← HE8.out, ← HE9.out]; omega)
        clear p6
        go_wp2_with fail
        clear q1 q2 q3 q4 q5 q6 q7 q8 q9 q10 q11 q12 q13 q14 q15 q16 q17 q18 q19 q20 t6
        clear d0 d1 d2 d3 d4 d5 d6 d7 d8 d9 hc10 hc11
        obtain ⟨w0, hw0⟩ : ∃ w0, w0 = wr.alloc (Obj.cells #[.int .i64 e0, .int .i64 e1, .int .i64 e2, .int .i64 e3, .int .i64 e4, .int .i64 e5, .int .i64 e6, .int .i64 e7, .int .i64 e8, .int .i64 e9, .string n0, .string n1] 30) := ⟨_, rfl⟩
        rw [← hw0]
        have hblk : Blk w0 wr.heap.size #[.int .i64 e0, .int .i64 e1, .int .i64 e2, .int .i64 e3, .int .i64 e4, .int .i64 e5, .int .i64 e6, .int .i64 e7, .int .i64 e8, .int .i64 e9, .string n0, .string n1] 30 := by rw [hw0]; exact Blk.new _ _ _
        have hb0 : Below wr.heap.size wr w0 := by rw [hw0]; exact (Below.refl _ _).alloc (Nat.le_refl _) _
        have hbel0 : Below w.heap.size w w0 := hbel.trans (hb0.mono hsz)
        have zs0 : wr.heap.size < w0.heap.size := hblk.lt
        have m0 : w0.cell? ⟨wr.heap.size, 0, none⟩ = some (.int .i64 e0) := hblk.cell (i := 0) rfl
        have HB0 := Lib.hid hblk
        clear hw0 hb0 hblk
        obtain ⟨p, hp⟩ : ∃ p, p = wr.heap.size := ⟨_, rfl⟩
        rw [← hp] at HB0 zs0 hsz m0 ⊢
        clear hbel zb hp
        have hjc : k ≤ c := by omega
        refine wp_region_held_drew (S := fun w' => w'.cell? ⟨p, 0, none⟩ = some (.int .i64 e0)) (by kernel_rfl) (by exact m0) ?_
        intro hHeld
        refine takeD (i := 0) (oi := { dst := some 76, op := _, type := _, pos := _, after := _, guard := _ }) (d := some 76) (v := ?vvu176) rfl rfl (by kernel_rfl) (by kernel_rfl) (by kernel_rfl) ?ddu176 (by rfl) ?yyu176 hHeld ?rru176
        case ddu176 => first | exact fun _ _ _ h => h | exact fun _ _ _ h => HQ.out _ _ _ _ (by rfl) h
        case yyu176 => (intro wx hSw; obtain y0 := hSw; go_simp; try (with_reducible rfl))
        try simp only [Act.put, List.setIfInBounds_toArray, List.set_cons_zero, List.set_cons_succ]
        refine takeD (i := 1) (oi := { dst := some 77, op := _, type := _, pos := _, after := _, guard := _ }) (d := some 77) (v := ?vvu177) rfl rfl (by kernel_rfl) (by kernel_rfl) (by kernel_rfl) ?ddu177 (by rfl) ?yyu177 hHeld ?rru177
        case ddu177 => first | exact fun _ _ _ h => h | exact fun _ _ _ h => HQ.out _ _ _ _ (by rfl) h
        case yyu177 => (intro wx hSw; obtain y0 := hSw; go_simp; try (with_reducible rfl))
        try simp only [Act.put, List.setIfInBounds_toArray, List.set_cons_zero, List.set_cons_succ]
        refine takeD (i := 2) (oi := { dst := some 78, op := _, type := _, pos := _, after := _, guard := _ }) (d := some 78) (v := .slice (some ⟨b, off, none⟩) k c) rfl rfl (by kernel_rfl) (by kernel_rfl) (by kernel_rfl) ?ddu (by rfl) ?yyu hHeld ?rru
        case ddu => exact fun _ _ _ h => h
        case yyu => (intro wx hSw; clear hSw hHeld; go_simp; try rw [if_pos hjc])
        try simp only [Act.put, List.setIfInBounds_toArray, List.set_cons_zero, List.set_cons_succ]
        refine takeD (i := 3) (oi := { dst := some 79, op := _, type := _, pos := _, after := _, guard := _ }) (d := some 79) (v := ?vvu179) rfl rfl (by kernel_rfl) (by kernel_rfl) (by kernel_rfl) ?ddu179 (by rfl) ?yyu179 hHeld ?rru179
        case ddu179 => first | exact fun _ _ _ h => h | exact fun _ _ _ h => HQ.out _ _ _ _ (by rfl) h
        case yyu179 => (intro wx hSw; obtain y0 := hSw; go_simp; try (with_reducible rfl))
        try simp only [Act.put, List.setIfInBounds_toArray, List.set_cons_zero, List.set_cons_succ]
        refine takeD (i := 4) (oi := { dst := some 80, op := _, type := _, pos := _, after := _, guard := _ }) (d := some 80) (v := ?vvu180) rfl rfl (by kernel_rfl) (by kernel_rfl) (by kernel_rfl) ?ddu180 (by rfl) ?yyu180 hHeld ?rru180
        case ddu180 => first | exact fun _ _ _ h => h | exact fun _ _ _ h => HQ.out _ _ _ _ (by rfl) h
        case yyu180 => (intro wx hSw; obtain y0 := hSw; go_simp; try (with_reducible rfl))
        try simp only [Act.put, List.setIfInBounds_toArray, List.set_cons_zero, List.set_cons_succ]
        refine wpAnyH_ready (rs := [5]) (by kernel_rfl) (by simp) ?_
        refine AllReadyH.cons (o := { dst := some 81, op := _, type := _, pos := _, after := _, guard := _ }) rfl (fun K hK => ?_) AllReadyH.nil
        go_simp
        refine (shapeAt_any k E N e0 (some ⟨b, off, none⟩) c _ ((HA.out.less (by omega)).below (Nat.le_refl _) (Below.drew hbel0)) (by omega)).mono ?_
        rintro e w5 ⟨rfl, hb5⟩
        have hbI := (Below.drew hbel0).trans (hb5.mono (by simpa using hbel0.size))
        have hblk5 := (HB0.out.drew).below hb5 (by simpa using zs0)
        have x0 : w5.cell? ⟨p, 0, none⟩ = some (.int .i64 e0) := hblk5.cell (i := 0) rfl
        have x1 : w5.cell? ⟨p, 1, none⟩ = some (.int .i64 e1) := hblk5.cell (i := 1) rfl
        have z5 := hblk5.lt
        obtain ⟨FV, hFV⟩ : ∃ FV, FV = findV k E e0 := ⟨_, rfl⟩
        rw [← hFV]
        have HFV := Lib.hid hFV
        refine hK.out _ _ x0 (fun hHeld2 => ?_)
        clear hK K hblk5 hFV
        try simp only [Act.put, List.setIfInBounds_toArray, List.set_cons_zero, List.set_cons_succ]
        refine takeD (i := 6) (oi := { dst := some 82, op := _, type := _, pos := _, after := _, guard := _ }) (d := some 82) (v := ?vvu282) rfl rfl (by kernel_rfl) (by kernel_rfl) (by kernel_rfl) ?ddu282 (by rfl) ?yyu282 hHeld2 ?rru282
        case ddu282 => first | exact fun _ _ _ h => h | exact fun _ _ _ h => HQ.out _ _ _ _ (by rfl) h
        case yyu282 => (intro wx hSw; obtain y0 := hSw; go_simp; try (with_reducible rfl))
        try simp only [Act.put, List.setIfInBounds_toArray, List.set_cons_zero, List.set_cons_succ]
        refine takeD (i := 7) (oi := { dst := some 75, op := _, type := _, pos := _, after := _, guard := _ }) (d := some 75) (v := ?vvu275) rfl rfl (by kernel_rfl) (by kernel_rfl) (by kernel_rfl) ?ddu275 (by rfl) ?yyu275 hHeld2 ?rru275
        case ddu275 => first | exact fun _ _ _ h => h | exact fun _ _ _ h => HQ.out _ _ _ _ (by rfl) h
        case yyu275 => (intro wx hSw; obtain y0 := hSw; go_simp; try (with_reducible rfl))
        try simp only [Act.put, List.setIfInBounds_toArray, List.set_cons_zero, List.set_cons_succ]
        refine wpAnyH_done (by kernel_rfl) ?_ _
        clear hHeld hHeld2 x0 m0
        by_cases hf : 0 ≤ FV
        · have hl := err_twice (E := E) (i := k) K1.out K2.out K3.out K4.out (by rw [← HE0.out, ← HFV.out]; exact hf)
          have HZ := Lib.hid (show V = _ from (HS.out k hkn HNO.out (by rw [hl]; omega)).trans hl)
          clear HS HN hl
          go_wp2_with fail
          go_ret
          exact ⟨by rw [HZ.out]; rfl, hbI⟩
        · have hl := err_par (E := E) (i := k) K1.out K2.out K3.out K4.out (by rw [← HE0.out, ← HFV.out]; omega)
          rw [← HE1.out] at hl
          have HL := Lib.hid hl
          clear hl
          go_wp2_with fail
          go_loopw [5, 6] (fun ix iy wr => ∃ d : Nat, ∃ g : Int, ix = .int .i64 g ∧ iy = .int .i64 d ∧ (1 ≤ d ∧ d ≤ 20) ∧ errAt E k = parE k E (20 - d) g ∧ Below w.heap.size w wr) (fun _ iy _ => 20 - (intOf iy).toNat)
          case atStart => exact ⟨1, e1, rfl, rfl, by omega, HL.out, hbI⟩
          case round =>
            obtain ⟨d, g, rfl, rfl, hd, hpe, hbi⟩ := hrel
            have HPE := Lib.hid hpe
            clear hpe x1
            have hsi := hbi.size
            by_cases hg : g = 0
            · subst hg
              rw [parE_zero] at HPE
              go_wp2_with fail
              go_roundw
              case rel =>
                refine ⟨k + 1, by go_num, by omega, fun i hi => ?_, hbi⟩
                rcases Nat.lt_or_ge i k with h | h
                · exact HNO.out i h
                · rw [show i = k by omega]; exact HPE.out
              case measure => simp [intOf]; omega
            · have HE := Lib.hid (fun h => HS.out k hkn HNO.out h)
              go_wp2_with fail
              refine (shapeAt_any k E N g (some ⟨b, off, none⟩) c wr ((HA.out.less (by omega)).below (Nat.le_refl _) hbi) (by omega)).mono ?_
              rintro e w6 ⟨rfl, hb6⟩
              have hb7 := hbi.trans (hb6.mono hsi)
              by_cases hd20 : d = 20
              · subst hd20
                rw [parE_deep hg] at HPE
                have HZ := Lib.hid ((HE.out (by rw [HPE.out]; omega)).trans HPE.out)
                clear HPE HE
                go_wp2_with fail
                go_ret
                exact ⟨by rw [HZ.out]; rfl, hb7⟩
              · obtain ⟨f, hf⟩ : ∃ f, 20 - d = f + 1 := ⟨19 - d, by omega⟩
                rw [hf] at HPE
                rcases findV_cases k E g with ⟨hm, _⟩ | ⟨i, hik, hm, _, _⟩
                · rw [parE_none hg (by omega)] at HPE
                  have HZ := Lib.hid ((HE.out (by rw [HPE.out]; omega)).trans HPE.out)
                  rw [hm]
                  clear HPE HE hm
                  go_wp2_with fail
                  go_ret
                  exact ⟨by rw [HZ.out]; rfl, hb7⟩
                · obtain ⟨b2, off2, he2, hcellG⟩ := HA.out.below (Nat.le_refl _) hb7 (by omega)
                  cases he2
                  obtain ⟨hy, _, _⟩ := hcellG i (by omega)
                  clear hcellG
                  have y1 := hy 1 (by omega)
                  have y2 := hy 2 (by omega)
                  have zy := lt_of_cell y1
                  simp only at zy
                  clear hy
                  obtain ⟨g1, hg1⟩ : ∃ g, g = E i 1 := ⟨_, rfl⟩
                  obtain ⟨g2, hg2⟩ : ∃ g, g = E i 2 := ⟨_, rfl⟩
                  rw [← hg1] at y1
                  rw [← hg2] at y2
                  have HG1 := Lib.hid hg1
                  have HG2 := Lib.hid hg2
                  have HM := Lib.hid hm
                  clear hg1 hg2
                  rw [hm]
                  clear hm
                  by_cases h5 : g2 = 5
                  · have HX := Lib.hid (HPE.out.trans (parE_up hg HM.out (by rw [← HG2.out]; exact h5)))
                    subst h5
                    clear HPE
                    go_wp2_with fail
                    go_roundw
                    case rel =>
                      refine ⟨d + 1, g1, rfl, by go_num, by omega, ?_, hb7⟩
                      rw [show 20 - (d + 1) = f by omega, HG1.out]; exact HX.out
                    case measure => simp [intOf]; omega
                  · have HX := Lib.hid (HPE.out.trans (parE_kind hg HM.out (by rw [← HG2.out]; exact h5)))
                    have HZ := Lib.hid ((HE.out (by rw [HX.out]; omega)).trans HX.out)
                    have t5 : (g2 != 5) = true := by simpa using h5
                    clear HPE HE HX
                    go_wp2_with fail
                    go_ret
                    exact ⟨by rw [HZ.out]; rfl, hb7⟩
      · have t6 : (e2 != 6) = true := by simpa using p6
        by_cases p8 : e8 ≤ 0
        · by_cases p9 : e9 ≤ 0
          · have K4 := Lib.hid (show endS (E k) by simp only [kindS, numS, boxS, endS, ← HE0.out, ← HE1.out, ← HE2.out, ← HE3.out, ← HE4.out, ← HE5.out, ← HE6.out, ← HE7.out, ← HE8.out, ← HE9.out]; omega)
            clear p6
            go_wp2_with fail
            clear q1 q2 q3 q4 q5 q6 q7 q8 q9 q10 q11 q12 q13 q14 q15 q16 q17 q18 q19 q20 t6
            clear d0 d1 d2 d3 d4 d5 d6 d7 d8 d9 hc10 hc11
            obtain ⟨w0, hw0⟩ : ∃ w0, w0 = wr.alloc (Obj.cells #[.int .i64 e0, .int .i64 e1, .int .i64 e2, .int .i64 e3, .int .i64 e4, .int .i64 e5, .int .i64 e6, .int .i64 e7, .int .i64 e8, .int .i64 e9, .string n0, .string n1] 30) := ⟨_, rfl⟩
            rw [← hw0]
            have hblk : Blk w0 wr.heap.size #[.int .i64 e0, .int .i64 e1, .int .i64 e2, .int .i64 e3, .int .i64 e4, .int .i64 e5, .int .i64 e6, .int .i64 e7, .int .i64 e8, .int .i64 e9, .string n0, .string n1] 30 := by rw [hw0]; exact Blk.new _ _ _
            have hb0 : Below wr.heap.size wr w0 := by rw [hw0]; exact (Below.refl _ _).alloc (Nat.le_refl _) _
            have hbel0 : Below w.heap.size w w0 := hbel.trans (hb0.mono hsz)
            have zs0 : wr.heap.size < w0.heap.size := hblk.lt
            have m0 : w0.cell? ⟨wr.heap.size, 0, none⟩ = some (.int .i64 e0) := hblk.cell (i := 0) rfl
            have HB0 := Lib.hid hblk
            clear hw0 hb0 hblk
            obtain ⟨p, hp⟩ : ∃ p, p = wr.heap.size := ⟨_, rfl⟩
            rw [← hp] at HB0 zs0 hsz m0 ⊢
            clear hbel zb hp
            have hjc : k ≤ c := by omega
            refine wp_region_held_drew (S := fun w' => w'.cell? ⟨p, 0, none⟩ = some (.int .i64 e0)) (by kernel_rfl) (by exact m0) ?_
            intro hHeld
            refine takeD (i := 0) (oi := { dst := some 76, op := _, type := _, pos := _, after := _, guard := _ }) (d := some 76) (v := ?vvv176) rfl rfl (by kernel_rfl) (by kernel_rfl) (by kernel_rfl) ?ddv176 (by rfl) ?yyv176 hHeld ?rrv176
            case ddv176 => first | exact fun _ _ _ h => h | exact fun _ _ _ h => HQ.out _ _ _ _ (by rfl) h
            case yyv176 => (intro wx hSw; obtain y0 := hSw; go_simp; try (with_reducible rfl))
            try simp only [Act.put, List.setIfInBounds_toArray, List.set_cons_zero, List.set_cons_succ]
            refine takeD (i := 1) (oi := { dst := some 77, op := _, type := _, pos := _, after := _, guard := _ }) (d := some 77) (v := ?vvv177) rfl rfl (by kernel_rfl) (by kernel_rfl) (by kernel_rfl) ?ddv177 (by rfl) ?yyv177 hHeld ?rrv177
            case ddv177 => first | exact fun _ _ _ h => h | exact fun _ _ _ h => HQ.out _ _ _ _ (by rfl) h
            case yyv177 => (intro wx hSw; obtain y0 := hSw; go_simp; try (with_reducible rfl))
            try simp only [Act.put, List.setIfInBounds_toArray, List.set_cons_zero, List.set_cons_succ]
            refine takeD (i := 2) (oi := { dst := some 78, op := _, type := _, pos := _, after := _, guard := _ }) (d := some 78) (v := .slice (some ⟨b, off, none⟩) k c) rfl rfl (by kernel_rfl) (by kernel_rfl) (by kernel_rfl) ?ddv (by rfl) ?yyv hHeld ?rrv
            case ddv => exact fun _ _ _ h => h
            case yyv => (intro wx hSw; clear hSw hHeld; go_simp; try rw [if_pos hjc])
            try simp only [Act.put, List.setIfInBounds_toArray, List.set_cons_zero, List.set_cons_succ]
            refine takeD (i := 3) (oi := { dst := some 79, op := _, type := _, pos := _, after := _, guard := _ }) (d := some 79) (v := ?vvv179) rfl rfl (by kernel_rfl) (by kernel_rfl) (by kernel_rfl) ?ddv179 (by rfl) ?yyv179 hHeld ?rrv179
            case ddv179 => first | exact fun _ _ _ h => h | exact fun _ _ _ h => HQ.out _ _ _ _ (by rfl) h
            case yyv179 => (intro wx hSw; obtain y0 := hSw; go_simp; try (with_reducible rfl))
            try simp only [Act.put, List.setIfInBounds_toArray, List.set_cons_zero, List.set_cons_succ]
            refine takeD (i := 4) (oi := { dst := some 80, op := _, type := _, pos := _, after := _, guard := _ }) (d := some 80) (v := ?vvv180) rfl rfl (by kernel_rfl) (by kernel_rfl) (by kernel_rfl) ?ddv180 (by rfl) ?yyv180 hHeld ?rrv180
            case ddv180 => first | exact fun _ _ _ h => h | exact fun _ _ _ h => HQ.out _ _ _ _ (by rfl) h
            case yyv180 => (intro wx hSw; obtain y0 := hSw; go_simp; try (with_reducible rfl))
            try simp only [Act.put, List.setIfInBounds_toArray, List.set_cons_zero, List.set_cons_succ]
            refine wpAnyH_ready (rs := [5]) (by kernel_rfl) (by simp) ?_
            refine AllReadyH.cons (o := { dst := some 81, op := _, type := _, pos := _, after := _, guard := _ }) rfl (fun K hK => ?_) AllReadyH.nil
            go_simp
            refine (shapeAt_any k E N e0 (some ⟨b, off, none⟩) c _ ((HA.out.less (by omega)).below (Nat.le_refl _) (Below.drew hbel0)) (by omega)).mono ?_
            rintro e w5 ⟨rfl, hb5⟩
            have hbI := (Below.drew hbel0).trans (hb5.mono (by simpa using hbel0.size))
            have hblk5 := (HB0.out.drew).below hb5 (by simpa using zs0)
            have x0 : w5.cell? ⟨p, 0, none⟩ = some (.int .i64 e0) := hblk5.cell (i := 0) rfl
            have x1 : w5.cell? ⟨p, 1, none⟩ = some (.int .i64 e1) := hblk5.cell (i := 1) rfl
            have z5 := hblk5.lt
            obtain ⟨FV, hFV⟩ : ∃ FV, FV = findV k E e0 := ⟨_, rfl⟩
            rw [← hFV]
            have HFV := Lib.hid hFV
            refine hK.out _ _ x0 (fun hHeld2 => ?_)
            clear hK K hblk5 hFV
            try simp only [Act.put, List.setIfInBounds_toArray, List.set_cons_zero, List.set_cons_succ]
            refine takeD (i := 6) (oi := { dst := some 82, op := _, type := _, pos := _, after := _, guard := _ }) (d := some 82) (v := ?vvv282) rfl rfl (by kernel_rfl) (by kernel_rfl) (by kernel_rfl) ?ddv282 (by rfl) ?yyv282 hHeld2 ?rrv282
            case ddv282 => first | exact fun _ _ _ h => h | exact fun _ _ _ h => HQ.out _ _ _ _ (by rfl) h
            case yyv282 => (intro wx hSw; obtain y0 := hSw; go_simp; try (with_reducible rfl))
            try simp only [Act.put, List.setIfInBounds_toArray, List.set_cons_zero, List.set_cons_succ]
            refine takeD (i := 7) (oi := { dst := some 75, op := _, type := _, pos := _, after := _, guard := _ }) (d := some 75) (v := ?vvv275) rfl rfl (by kernel_rfl) (by kernel_rfl) (by kernel_rfl) ?ddv275 (by rfl) ?yyv275 hHeld2 ?rrv275
            case ddv275 => first | exact fun _ _ _ h => h | exact fun _ _ _ h => HQ.out _ _ _ _ (by rfl) h
            case yyv275 => (intro wx hSw; obtain y0 := hSw; go_simp; try (with_reducible rfl))
            try simp only [Act.put, List.setIfInBounds_toArray, List.set_cons_zero, List.set_cons_succ]
            refine wpAnyH_done (by kernel_rfl) ?_ _
            clear hHeld hHeld2 x0 m0
            by_cases hf : 0 ≤ FV
            · have hl := err_twice (E := E) (i := k) K1.out K2.out K3.out K4.out (by rw [← HE0.out, ← HFV.out]; exact hf)
              have HZ := Lib.hid (show V = _ from (HS.out k hkn HNO.out (by rw [hl]; omega)).trans hl)
              clear HS HN hl
              go_wp2_with fail
              go_ret
              exact ⟨by rw [HZ.out]; rfl, hbI⟩
            · have hl := err_par (E := E) (i := k) K1.out K2.out K3.out K4.out (by rw [← HE0.out, ← HFV.out]; omega)
              rw [← HE1.out] at hl
              have HL := Lib.hid hl
              clear hl
              go_wp2_with fail
              go_loopw [5, 6] (fun ix iy wr => ∃ d : Nat, ∃ g : Int, ix = .int .i64 g ∧ iy = .int .i64 d ∧ (1 ≤ d ∧ d ≤ 20) ∧ errAt E k = parE k E (20 - d) g ∧ Below w.heap.size w wr) (fun _ iy _ => 20 - (intOf iy).toNat)
              case atStart => exact ⟨1, e1, rfl, rfl, by omega, HL.out, hbI⟩
              case round =>
                obtain ⟨d, g, rfl, rfl, hd, hpe, hbi⟩ := hrel
                have HPE := Lib.hid hpe
                clear hpe x1
                have hsi := hbi.size
                by_cases hg : g = 0
                · subst hg
                  rw [parE_zero] at HPE
                  go_wp2_with fail
                  go_roundw
                  case rel =>
                    refine ⟨k + 1, by go_num, by omega, fun i hi => ?_, hbi⟩
                    rcases Nat.lt_or_ge i k with h | h
                    · exact HNO.out i h
                    · rw [show i = k by omega]; exact HPE.out
                  case measure => simp [intOf]; omega
                · have HE := Lib.hid (fun h => HS.out k hkn HNO.out h)
                  go_wp2_with fail
                  refine (shapeAt_any k E N g (some ⟨b, off, none⟩) c wr ((HA.out.less (by omega)).below (Nat.le_refl _) hbi) (by omega)).mono ?_
                  rintro e w6 ⟨rfl, hb6⟩
                  have hb7 := hbi.trans (hb6.mono hsi)
                  by_cases hd20 : d = 20
                  · subst hd20
                    rw [parE_deep hg] at HPE
                    have HZ := Lib.hid ((HE.out (by rw [HPE.out]; omega)).trans HPE.out)
                    clear HPE HE
                    go_wp2_with fail
                    go_ret
                    exact ⟨by rw [HZ.out]; rfl, hb7⟩
                  · obtain ⟨f, hf⟩ : ∃ f, 20 - d = f + 1 := ⟨19 - d, by omega⟩
                    rw [hf] at HPE
                    rcases findV_cases k E g with ⟨hm, _⟩ | ⟨i, hik, hm, _, _⟩
                    · rw [parE_none hg (by omega)] at HPE
                      have HZ := Lib.hid ((HE.out (by rw [HPE.out]; omega)).trans HPE.out)
                      rw [hm]
                      clear HPE HE hm
                      go_wp2_with fail
                      go_ret
                      exact ⟨by rw [HZ.out]; rfl, hb7⟩
                    · obtain ⟨b2, off2, he2, hcellG⟩ := HA.out.below (Nat.le_refl _) hb7 (by omega)
                      cases he2
                      obtain ⟨hy, _, _⟩ := hcellG i (by omega)
                      clear hcellG
                      have y1 := hy 1 (by omega)
                      have y2 := hy 2 (by omega)
                      have zy := lt_of_cell y1
                      simp only at zy
                      clear hy
                      obtain ⟨g1, hg1⟩ : ∃ g, g = E i 1 := ⟨_, rfl⟩
                      obtain ⟨g2, hg2⟩ : ∃ g, g = E i 2 := ⟨_, rfl⟩
                      rw [← hg1] at y1
                      rw [← hg2] at y2
                      have HG1 := Lib.hid hg1
                      have HG2 := Lib.hid hg2
                      have HM := Lib.hid hm
                      clear hg1 hg2
                      rw [hm]
                      clear hm
                      by_cases h5 : g2 = 5
                      · have HX := Lib.hid (HPE.out.trans (parE_up hg HM.out (by rw [← HG2.out]; exact h5)))
                        subst h5
                        clear HPE
                        go_wp2_with fail
                        go_roundw
                        case rel =>
                          refine ⟨d + 1, g1, rfl, by go_num, by omega, ?_, hb7⟩
                          rw [show 20 - (d + 1) = f by omega, HG1.out]; exact HX.out
                        case measure => simp [intOf]; omega
                      · have HX := Lib.hid (HPE.out.trans (parE_kind hg HM.out (by rw [← HG2.out]; exact h5)))
                        have HZ := Lib.hid ((HE.out (by rw [HX.out]; omega)).trans HX.out)
                        have t5 : (g2 != 5) = true := by simpa using h5
                        clear HPE HE HX
                        go_wp2_with fail
                        go_ret
                        exact ⟨by rw [HZ.out]; rfl, hb7⟩
          · have hl := err_end (E := E) (i := k) K1.out K2.out K3.out (by simp only [kindS, numS, boxS, endS, ← HE0.out, ← HE1.out, ← HE2.out, ← HE3.out, ← HE4.out, ← HE5.out, ← HE6.out, ← HE7.out, ← HE8.out, ← HE9.out]; omega)
            have HZ := Lib.hid (show V = _ from (HS.out k hkn HNO.out (by rw [hl]; omega)).trans hl)
            clear HS HN hl
            go_wp2_with fail
            go_ret
            refine ⟨by rw [HZ.out]; rfl, ?_⟩
            repeat' (with_reducible first | exact Below.refl _ _ | assumption | refine Below.setCell ?_ ?_ _ | refine Below.alloc ?_ ?_ _ | refine below_drewN ?_ _ | refine Below.drew ?_)
            all_goals first | omega | (simp; done) | (simp; omega)
        · have hl := err_end (E := E) (i := k) K1.out K2.out K3.out (by simp only [kindS, numS, boxS, endS, ← HE0.out, ← HE1.out, ← HE2.out, ← HE3.out, ← HE4.out, ← HE5.out, ← HE6.out, ← HE7.out, ← HE8.out, ← HE9.out]; omega)
          have HZ := Lib.hid (show V = _ from (HS.out k hkn HNO.out (by rw [hl]; omega)).trans hl)
          clear HS HN hl
          go_wp2_with fail
          go_ret
          refine ⟨by rw [HZ.out]; rfl, ?_⟩
          repeat' (with_reducible first | exact Below.refl _ _ | assumption | refine Below.setCell ?_ ?_ _ | refine Below.alloc ?_ ?_ _ | refine below_drewN ?_ _ | refine Below.drew ?_)
          all_goals first | omega | (simp; done) | (simp; omega)
    · obtain rfl : k = n := by omega
      have HL := Lib.hid (HN.out HNO.out)
      go_wp2_with fail
      go_ret
      exact ⟨by rw [HL.out]; rfl, hbel⟩
end Go.Proofs.YtabnohphgegflaaDoor.ShT
