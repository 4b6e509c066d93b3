
/-
  ScalePlaces returns true for every input: the walk.
-/
import Derived.Test.YtpbnkkeplhgepaaScaleMarks
import Derived.Test.YtpbnkkeplhgepaaIn
namespace Go.Proofs.Ytpbnkkeplhgepaa.SP
open Go.RowKit Go.Law Go.Law.Scale SF Ref
set_option linter.unusedVariables false
set_option linter.unusedSimpArgs false
set_option maxRecDepth 100000

theorem tmod_zero {a b : Int} (hb : 1 ≤ b) : a.tmod b = 0 ↔ a / b * b = a := by
  have h1 := Int.mul_ediv_add_emod a b
  rw [Int.mul_comm] at h1
  constructor
  · intro h
    have hd : b ∣ a := Int.dvd_of_tmod_eq_zero h
    exact Int.ediv_mul_cancel hd
  · intro h
    have hd : b ∣ a := ⟨a / b, by rw [Int.mul_comm]; exact h.symm⟩
    exact Int.tmod_eq_zero_of_dvd hd
set_option maxHeartbeats 4000000 in
theorem law_bad (lo hi st value long : Int) (w : World) (hc : chk lo hi st ≠ 0) :
    Calls Try.prog 6 #[.agg #[.int .i64 lo, .int .i64 hi, .int .i64 st], .int .i64 value, .int .i64 long] w fun e w' => e = .returned (.bool true) ∧ Below w.heap.size w w' := by
  have HV := Lib.hid (show placeV lo hi st value long = .tuple #[.int .i64 0, .int .i64 (chk lo hi st)] by unfold placeV; rw [if_pos hc])
  cases i1 : inB lo (-4000000000000) 4000000000000
  · have hk : chk lo hi st = 2 := by unfold chk; rw [if_pos (fun h => inB_false.1 i1 h.1)]
    clear hc
    go_enter Try.func6, Try.ntmps6
    go_wp2_with fail
    refine (place_any 0 50 10 3 1000 _).mono ?_
    rintro e w1 ⟨rfl, hb1⟩
    rw [show placeV 0 50 10 3 1000 = .tuple #[.int .i64 60, .int .i64 0] by
      have hc : chk 0 50 10 = 0 := by unfold chk; rw [if_neg (by unfold InR; omega), if_neg (by omega), if_neg (by decide), if_neg (by decide)]
      unfold placeV; rw [if_neg (by rw [hc]; omega), if_pos (by omega)]; rfl]
    have hs1 := hb1.size
    simp at hs1
    have z1 : w.heap.size < w1.heap.size := by omega
    have p0 : w1.cell? ⟨w.heap.size, 0, none⟩ = some (.int .i64 lo) := (hb1.cell (by simp)).trans (by simp)
    have p1 : w1.cell? ⟨w.heap.size, 1, none⟩ = some (.int .i64 hi) := (hb1.cell (by simp)).trans (by simp)
    have p2 : w1.cell? ⟨w.heap.size, 2, none⟩ = some (.int .i64 st) := (hb1.cell (by simp)).trans (by simp)
    have hbel : Below w.heap.size w w1 := ((Below.refl _ _).alloc (Nat.le_refl _) _).trans (hb1.mono (by simp))
    clear hb1
    go_wp2_with fail
    refine (place_any lo hi st value long _).mono ?_
    rintro e w2 ⟨rfl, hb2⟩
    rw [HV.out]
    have hs_w2 := (hb2).size
    have z_w2 : w.heap.size < w2.heap.size := by omega
    replace hbel := hbel.trans ((hb2).mono (show w.heap.size ≤ w1.heap.size by omega))
    replace p0 : w2.cell? ⟨w.heap.size, 0, none⟩ = some (.int .i64 lo) := ((hb2).cell (show w.heap.size < w1.heap.size by omega)).trans p0
    replace p1 : w2.cell? ⟨w.heap.size, 1, none⟩ = some (.int .i64 hi) := ((hb2).cell (show w.heap.size < w1.heap.size by omega)).trans p1
    replace p2 : w2.cell? ⟨w.heap.size, 2, none⟩ = some (.int .i64 st) := ((hb2).cell (show w.heap.size < w1.heap.size by omega)).trans p2
    clear hb2
    go_wp2_with fail
    refine (marks_bad lo hi st _ (by omega)).mono ?_
    rintro e w3 ⟨rfl, hb3⟩
    have hs_w3 := (hb3).size
    have z_w3 : w.heap.size < w3.heap.size := by omega
    replace hbel := hbel.trans ((hb3).mono (show w.heap.size ≤ w2.heap.size by omega))
    replace p0 : w3.cell? ⟨w.heap.size, 0, none⟩ = some (.int .i64 lo) := ((hb3).cell (show w.heap.size < w2.heap.size by omega)).trans p0
    replace p1 : w3.cell? ⟨w.heap.size, 1, none⟩ = some (.int .i64 hi) := ((hb3).cell (show w.heap.size < w2.heap.size by omega)).trans p1
    replace p2 : w3.cell? ⟨w.heap.size, 2, none⟩ = some (.int .i64 st) := ((hb3).cell (show w.heap.size < w2.heap.size by omega)).trans p2
    clear hb3
    go_wp2_with (first | (go_at_call 14; refine (in_any _ _ _ _).mono ?_; rintro e w9 ⟨rfl, rfl⟩) | (go_at_call 22; refine (check_any _ _ _ _).mono ?_; rintro e w4 ⟨rfl, hb4⟩))
    go_ret
    exact ⟨rfl, hbel.trans (hb4.mono (by omega))⟩
  cases i2 : inB hi (-4000000000000) 4000000000000
  · have hk : chk lo hi st = 2 := by unfold chk; rw [if_pos (fun h => inB_false.1 i2 h.2.1)]
    clear hc
    go_enter Try.func6, Try.ntmps6
    go_wp2_with fail
    refine (place_any 0 50 10 3 1000 _).mono ?_
    rintro e w1 ⟨rfl, hb1⟩
    rw [show placeV 0 50 10 3 1000 = .tuple #[.int .i64 60, .int .i64 0] by
      have hc : chk 0 50 10 = 0 := by unfold chk; rw [if_neg (by unfold InR; omega), if_neg (by omega), if_neg (by decide), if_neg (by decide)]
      unfold placeV; rw [if_neg (by rw [hc]; omega), if_pos (by omega)]; rfl]
    have hs1 := hb1.size
    simp at hs1
    have z1 : w.heap.size < w1.heap.size := by omega
    have p0 : w1.cell? ⟨w.heap.size, 0, none⟩ = some (.int .i64 lo) := (hb1.cell (by simp)).trans (by simp)
    have p1 : w1.cell? ⟨w.heap.size, 1, none⟩ = some (.int .i64 hi) := (hb1.cell (by simp)).trans (by simp)
    have p2 : w1.cell? ⟨w.heap.size, 2, none⟩ = some (.int .i64 st) := (hb1.cell (by simp)).trans (by simp)
    have hbel : Below w.heap.size w w1 := ((Below.refl _ _).alloc (Nat.le_refl _) _).trans (hb1.mono (by simp))
    clear hb1
    go_wp2_with fail
    refine (place_any lo hi st value long _).mono ?_
    rintro e w2 ⟨rfl, hb2⟩
    rw [HV.out]
    have hs_w2 := (hb2).size
    have z_w2 : w.heap.size < w2.heap.size := by omega
    replace hbel := hbel.trans ((hb2).mono (show w.heap.size ≤ w1.heap.size by omega))
    replace p0 : w2.cell? ⟨w.heap.size, 0, none⟩ = some (.int .i64 lo) := ((hb2).cell (show w.heap.size < w1.heap.size by omega)).trans p0
    replace p1 : w2.cell? ⟨w.heap.size, 1, none⟩ = some (.int .i64 hi) := ((hb2).cell (show w.heap.size < w1.heap.size by omega)).trans p1
    replace p2 : w2.cell? ⟨w.heap.size, 2, none⟩ = some (.int .i64 st) := ((hb2).cell (show w.heap.size < w1.heap.size by omega)).trans p2
    clear hb2
    go_wp2_with fail
    refine (marks_bad lo hi st _ (by omega)).mono ?_
    rintro e w3 ⟨rfl, hb3⟩
    have hs_w3 := (hb3).size
    have z_w3 : w.heap.size < w3.heap.size := by omega
    replace hbel := hbel.trans ((hb3).mono (show w.heap.size ≤ w2.heap.size by omega))
    replace p0 : w3.cell? ⟨w.heap.size, 0, none⟩ = some (.int .i64 lo) := ((hb3).cell (show w.heap.size < w2.heap.size by omega)).trans p0
    replace p1 : w3.cell? ⟨w.heap.size, 1, none⟩ = some (.int .i64 hi) := ((hb3).cell (show w.heap.size < w2.heap.size by omega)).trans p1
    replace p2 : w3.cell? ⟨w.heap.size, 2, none⟩ = some (.int .i64 st) := ((hb3).cell (show w.heap.size < w2.heap.size by omega)).trans p2
    clear hb3
    go_wp2_with (first | (go_at_call 14; refine (in_any _ _ _ _).mono ?_; rintro e w9 ⟨rfl, rfl⟩) | (go_at_call 22; refine (check_any _ _ _ _).mono ?_; rintro e w4 ⟨rfl, hb4⟩))
    go_ret
    exact ⟨rfl, hbel.trans (hb4.mono (by omega))⟩
  cases i3 : inB st 1 4000000000000
  · have hk : chk lo hi st = 2 := by unfold chk; rw [if_pos (fun h => inB_false.1 i3 h.2.2)]
    clear hc
    go_enter Try.func6, Try.ntmps6
    go_wp2_with fail
    refine (place_any 0 50 10 3 1000 _).mono ?_
    rintro e w1 ⟨rfl, hb1⟩
    rw [show placeV 0 50 10 3 1000 = .tuple #[.int .i64 60, .int .i64 0] by
      have hc : chk 0 50 10 = 0 := by unfold chk; rw [if_neg (by unfold InR; omega), if_neg (by omega), if_neg (by decide), if_neg (by decide)]
      unfold placeV; rw [if_neg (by rw [hc]; omega), if_pos (by omega)]; rfl]
    have hs1 := hb1.size
    simp at hs1
    have z1 : w.heap.size < w1.heap.size := by omega
    have p0 : w1.cell? ⟨w.heap.size, 0, none⟩ = some (.int .i64 lo) := (hb1.cell (by simp)).trans (by simp)
    have p1 : w1.cell? ⟨w.heap.size, 1, none⟩ = some (.int .i64 hi) := (hb1.cell (by simp)).trans (by simp)
    have p2 : w1.cell? ⟨w.heap.size, 2, none⟩ = some (.int .i64 st) := (hb1.cell (by simp)).trans (by simp)
    have hbel : Below w.heap.size w w1 := ((Below.refl _ _).alloc (Nat.le_refl _) _).trans (hb1.mono (by simp))
    clear hb1
    go_wp2_with fail
    refine (place_any lo hi st value long _).mono ?_
    rintro e w2 ⟨rfl, hb2⟩
    rw [HV.out]
    have hs_w2 := (hb2).size
    have z_w2 : w.heap.size < w2.heap.size := by omega
    replace hbel := hbel.trans ((hb2).mono (show w.heap.size ≤ w1.heap.size by omega))
    replace p0 : w2.cell? ⟨w.heap.size, 0, none⟩ = some (.int .i64 lo) := ((hb2).cell (show w.heap.size < w1.heap.size by omega)).trans p0
    replace p1 : w2.cell? ⟨w.heap.size, 1, none⟩ = some (.int .i64 hi) := ((hb2).cell (show w.heap.size < w1.heap.size by omega)).trans p1
    replace p2 : w2.cell? ⟨w.heap.size, 2, none⟩ = some (.int .i64 st) := ((hb2).cell (show w.heap.size < w1.heap.size by omega)).trans p2
    clear hb2
    go_wp2_with fail
    refine (marks_bad lo hi st _ (by omega)).mono ?_
    rintro e w3 ⟨rfl, hb3⟩
    have hs_w3 := (hb3).size
    have z_w3 : w.heap.size < w3.heap.size := by omega
    replace hbel := hbel.trans ((hb3).mono (show w.heap.size ≤ w2.heap.size by omega))
    replace p0 : w3.cell? ⟨w.heap.size, 0, none⟩ = some (.int .i64 lo) := ((hb3).cell (show w.heap.size < w2.heap.size by omega)).trans p0
    replace p1 : w3.cell? ⟨w.heap.size, 1, none⟩ = some (.int .i64 hi) := ((hb3).cell (show w.heap.size < w2.heap.size by omega)).trans p1
    replace p2 : w3.cell? ⟨w.heap.size, 2, none⟩ = some (.int .i64 st) := ((hb3).cell (show w.heap.size < w2.heap.size by omega)).trans p2
    clear hb3
    go_wp2_with (first | (go_at_call 14; refine (in_any _ _ _ _).mono ?_; rintro e w9 ⟨rfl, rfl⟩) | (go_at_call 22; refine (check_any _ _ _ _).mono ?_; rintro e w4 ⟨rfl, hb4⟩))
    go_ret
    exact ⟨rfl, hbel.trans (hb4.mono (by omega))⟩
  have h1 := inB_true.1 i1
  have h2 := inB_true.1 i2
  have h3 := inB_true.1 i3
  have hR : InR lo hi st := ⟨h1, h2, h3⟩
  by_cases c2 : hi ≤ lo
  · have hk : chk lo hi st = 5 := by unfold chk; rw [if_neg (by simpa using hR), if_pos c2]
    clear hc
    go_enter Try.func6, Try.ntmps6
    go_wp2_with fail
    refine (place_any 0 50 10 3 1000 _).mono ?_
    rintro e w1 ⟨rfl, hb1⟩
    rw [show placeV 0 50 10 3 1000 = .tuple #[.int .i64 60, .int .i64 0] by
      have hc : chk 0 50 10 = 0 := by unfold chk; rw [if_neg (by unfold InR; omega), if_neg (by omega), if_neg (by decide), if_neg (by decide)]
      unfold placeV; rw [if_neg (by rw [hc]; omega), if_pos (by omega)]; rfl]
    have hs1 := hb1.size
    simp at hs1
    have z1 : w.heap.size < w1.heap.size := by omega
    have p0 : w1.cell? ⟨w.heap.size, 0, none⟩ = some (.int .i64 lo) := (hb1.cell (by simp)).trans (by simp)
    have p1 : w1.cell? ⟨w.heap.size, 1, none⟩ = some (.int .i64 hi) := (hb1.cell (by simp)).trans (by simp)
    have p2 : w1.cell? ⟨w.heap.size, 2, none⟩ = some (.int .i64 st) := (hb1.cell (by simp)).trans (by simp)
    have hbel : Below w.heap.size w w1 := ((Below.refl _ _).alloc (Nat.le_refl _) _).trans (hb1.mono (by simp))
    clear hb1
    go_wp2_with fail
    refine (place_any lo hi st value long _).mono ?_
    rintro e w2 ⟨rfl, hb2⟩
    rw [HV.out]
    have hs_w2 := (hb2).size
    have z_w2 : w.heap.size < w2.heap.size := by omega
    replace hbel := hbel.trans ((hb2).mono (show w.heap.size ≤ w1.heap.size by omega))
    replace p0 : w2.cell? ⟨w.heap.size, 0, none⟩ = some (.int .i64 lo) := ((hb2).cell (show w.heap.size < w1.heap.size by omega)).trans p0
    replace p1 : w2.cell? ⟨w.heap.size, 1, none⟩ = some (.int .i64 hi) := ((hb2).cell (show w.heap.size < w1.heap.size by omega)).trans p1
    replace p2 : w2.cell? ⟨w.heap.size, 2, none⟩ = some (.int .i64 st) := ((hb2).cell (show w.heap.size < w1.heap.size by omega)).trans p2
    clear hb2
    go_wp2_with fail
    refine (marks_bad lo hi st _ (by omega)).mono ?_
    rintro e w3 ⟨rfl, hb3⟩
    have hs_w3 := (hb3).size
    have z_w3 : w.heap.size < w3.heap.size := by omega
    replace hbel := hbel.trans ((hb3).mono (show w.heap.size ≤ w2.heap.size by omega))
    replace p0 : w3.cell? ⟨w.heap.size, 0, none⟩ = some (.int .i64 lo) := ((hb3).cell (show w.heap.size < w2.heap.size by omega)).trans p0
    replace p1 : w3.cell? ⟨w.heap.size, 1, none⟩ = some (.int .i64 hi) := ((hb3).cell (show w.heap.size < w2.heap.size by omega)).trans p1
    replace p2 : w3.cell? ⟨w.heap.size, 2, none⟩ = some (.int .i64 st) := ((hb3).cell (show w.heap.size < w2.heap.size by omega)).trans p2
    clear hb3
    go_wp2_with (first | (go_at_call 14; refine (in_any _ _ _ _).mono ?_; rintro e w9 ⟨rfl, rfl⟩) | (go_at_call 22; refine (check_any _ _ _ _).mono ?_; rintro e w4 ⟨rfl, hb4⟩))
    go_ret
    exact ⟨rfl, hbel.trans (hb4.mono (by omega))⟩
  have hm := Int.emod_nonneg (hi - lo) (show st ≠ 0 by omega)
  have hq := abs_bd (a := hi - lo) (s := st) (m := 8000000000000) (by omega) (by omega) (by omega) (by omega)
  have hq0 := Int.ediv_nonneg (show 0 ≤ hi - lo by omega) (show 0 ≤ st by omega)
  by_cases c4 : lo.tmod st = 0
  · have d4 : (lo.tmod st != 0) = false := by simp [c4]
    have e4 := (tmod_zero (by omega)).1 c4
    by_cases c3 : (hi - lo) % st = 0
    · have d3 : ((hi - lo) % st != 0) = false := by simp [c3]
      by_cases c5 : 500 < (hi - lo) / st
      · have hk : chk lo hi st = 3 := by unfold chk; rw [if_neg (by simpa using hR), if_neg c2, if_neg (by simp [c3, e4]), if_pos c5]
        clear hc c3 c4 e4
        go_enter Try.func6, Try.ntmps6
        go_wp2_with fail
        refine (place_any 0 50 10 3 1000 _).mono ?_
        rintro e w1 ⟨rfl, hb1⟩
        rw [show placeV 0 50 10 3 1000 = .tuple #[.int .i64 60, .int .i64 0] by
          have hc : chk 0 50 10 = 0 := by unfold chk; rw [if_neg (by unfold InR; omega), if_neg (by omega), if_neg (by decide), if_neg (by decide)]
          unfold placeV; rw [if_neg (by rw [hc]; omega), if_pos (by omega)]; rfl]
        have hs1 := hb1.size
        simp at hs1
        have z1 : w.heap.size < w1.heap.size := by omega
        have p0 : w1.cell? ⟨w.heap.size, 0, none⟩ = some (.int .i64 lo) := (hb1.cell (by simp)).trans (by simp)
        have p1 : w1.cell? ⟨w.heap.size, 1, none⟩ = some (.int .i64 hi) := (hb1.cell (by simp)).trans (by simp)
        have p2 : w1.cell? ⟨w.heap.size, 2, none⟩ = some (.int .i64 st) := (hb1.cell (by simp)).trans (by simp)
        have hbel : Below w.heap.size w w1 := ((Below.refl _ _).alloc (Nat.le_refl _) _).trans (hb1.mono (by simp))
        clear hb1
        go_wp2_with fail
        refine (place_any lo hi st value long _).mono ?_
        rintro e w2 ⟨rfl, hb2⟩
        rw [HV.out]
        have hs_w2 := (hb2).size
        have z_w2 : w.heap.size < w2.heap.size := by omega
        replace hbel := hbel.trans ((hb2).mono (show w.heap.size ≤ w1.heap.size by omega))
        replace p0 : w2.cell? ⟨w.heap.size, 0, none⟩ = some (.int .i64 lo) := ((hb2).cell (show w.heap.size < w1.heap.size by omega)).trans p0
        replace p1 : w2.cell? ⟨w.heap.size, 1, none⟩ = some (.int .i64 hi) := ((hb2).cell (show w.heap.size < w1.heap.size by omega)).trans p1
        replace p2 : w2.cell? ⟨w.heap.size, 2, none⟩ = some (.int .i64 st) := ((hb2).cell (show w.heap.size < w1.heap.size by omega)).trans p2
        clear hb2
        go_wp2_with fail
        refine (marks_bad lo hi st _ (by omega)).mono ?_
        rintro e w3 ⟨rfl, hb3⟩
        have hs_w3 := (hb3).size
        have z_w3 : w.heap.size < w3.heap.size := by omega
        replace hbel := hbel.trans ((hb3).mono (show w.heap.size ≤ w2.heap.size by omega))
        replace p0 : w3.cell? ⟨w.heap.size, 0, none⟩ = some (.int .i64 lo) := ((hb3).cell (show w.heap.size < w2.heap.size by omega)).trans p0
        replace p1 : w3.cell? ⟨w.heap.size, 1, none⟩ = some (.int .i64 hi) := ((hb3).cell (show w.heap.size < w2.heap.size by omega)).trans p1
        replace p2 : w3.cell? ⟨w.heap.size, 2, none⟩ = some (.int .i64 st) := ((hb3).cell (show w.heap.size < w2.heap.size by omega)).trans p2
        clear hb3
        go_wp2_with (first | (go_at_call 14; refine (in_any _ _ _ _).mono ?_; rintro e w9 ⟨rfl, rfl⟩) | (go_at_call 22; refine (check_any _ _ _ _).mono ?_; rintro e w4 ⟨rfl, hb4⟩))
        go_ret
        exact ⟨rfl, hbel.trans (hb4.mono (by omega))⟩
      · exact absurd (by unfold chk; rw [if_neg (by simpa using hR), if_neg c2, if_neg (by simp [c3, e4]), if_neg c5]) hc
    · have d3 : ((hi - lo) % st != 0) = true := by simpa using c3
      have hk : chk lo hi st = 4 := by unfold chk; rw [if_neg (by simpa using hR), if_neg c2, if_pos (.inl c3)]
      clear hc c3 c4 e4
      go_enter Try.func6, Try.ntmps6
      go_wp2_with fail
      refine (place_any 0 50 10 3 1000 _).mono ?_
      rintro e w1 ⟨rfl, hb1⟩
      rw [show placeV 0 50 10 3 1000 = .tuple #[.int .i64 60, .int .i64 0] by
        have hc : chk 0 50 10 = 0 := by unfold chk; rw [if_neg (by unfold InR; omega), if_neg (by omega), if_neg (by decide), if_neg (by decide)]
        unfold placeV; rw [if_neg (by rw [hc]; omega), if_pos (by omega)]; rfl]
      have hs1 := hb1.size
      simp at hs1
      have z1 : w.heap.size < w1.heap.size := by omega
      have p0 : w1.cell? ⟨w.heap.size, 0, none⟩ = some (.int .i64 lo) := (hb1.cell (by simp)).trans (by simp)
      have p1 : w1.cell? ⟨w.heap.size, 1, none⟩ = some (.int .i64 hi) := (hb1.cell (by simp)).trans (by simp)
      have p2 : w1.cell? ⟨w.heap.size, 2, none⟩ = some (.int .i64 st) := (hb1.cell (by simp)).trans (by simp)
      have hbel : Below w.heap.size w w1 := ((Below.refl _ _).alloc (Nat.le_refl _) _).trans (hb1.mono (by simp))
      clear hb1
      go_wp2_with fail
      refine (place_any lo hi st value long _).mono ?_
      rintro e w2 ⟨rfl, hb2⟩
      rw [HV.out]
      have hs_w2 := (hb2).size
      have z_w2 : w.heap.size < w2.heap.size := by omega
      replace hbel := hbel.trans ((hb2).mono (show w.heap.size ≤ w1.heap.size by omega))
      replace p0 : w2.cell? ⟨w.heap.size, 0, none⟩ = some (.int .i64 lo) := ((hb2).cell (show w.heap.size < w1.heap.size by omega)).trans p0
      replace p1 : w2.cell? ⟨w.heap.size, 1, none⟩ = some (.int .i64 hi) := ((hb2).cell (show w.heap.size < w1.heap.size by omega)).trans p1
      replace p2 : w2.cell? ⟨w.heap.size, 2, none⟩ = some (.int .i64 st) := ((hb2).cell (show w.heap.size < w1.heap.size by omega)).trans p2
      clear hb2
      go_wp2_with fail
      refine (marks_bad lo hi st _ (by omega)).mono ?_
      rintro e w3 ⟨rfl, hb3⟩
      have hs_w3 := (hb3).size
      have z_w3 : w.heap.size < w3.heap.size := by omega
      replace hbel := hbel.trans ((hb3).mono (show w.heap.size ≤ w2.heap.size by omega))
      replace p0 : w3.cell? ⟨w.heap.size, 0, none⟩ = some (.int .i64 lo) := ((hb3).cell (show w.heap.size < w2.heap.size by omega)).trans p0
      replace p1 : w3.cell? ⟨w.heap.size, 1, none⟩ = some (.int .i64 hi) := ((hb3).cell (show w.heap.size < w2.heap.size by omega)).trans p1
      replace p2 : w3.cell? ⟨w.heap.size, 2, none⟩ = some (.int .i64 st) := ((hb3).cell (show w.heap.size < w2.heap.size by omega)).trans p2
      clear hb3
      go_wp2_with (first | (go_at_call 14; refine (in_any _ _ _ _).mono ?_; rintro e w9 ⟨rfl, rfl⟩) | (go_at_call 22; refine (check_any _ _ _ _).mono ?_; rintro e w4 ⟨rfl, hb4⟩))
      go_ret
      exact ⟨rfl, hbel.trans (hb4.mono (by omega))⟩
  · have d4 : (lo.tmod st != 0) = true := by simpa using c4
    have hk : chk lo hi st = 4 := by unfold chk; rw [if_neg (by simpa using hR), if_neg c2, if_pos (.inr fun h => c4 ((tmod_zero (by omega)).2 h))]
    clear hc c4
    go_enter Try.func6, Try.ntmps6
    go_wp2_with fail
    refine (place_any 0 50 10 3 1000 _).mono ?_
    rintro e w1 ⟨rfl, hb1⟩
    rw [show placeV 0 50 10 3 1000 = .tuple #[.int .i64 60, .int .i64 0] by
      have hc : chk 0 50 10 = 0 := by unfold chk; rw [if_neg (by unfold InR; omega), if_neg (by omega), if_neg (by decide), if_neg (by decide)]
      unfold placeV; rw [if_neg (by rw [hc]; omega), if_pos (by omega)]; rfl]
    have hs1 := hb1.size
    simp at hs1
    have z1 : w.heap.size < w1.heap.size := by omega
    have p0 : w1.cell? ⟨w.heap.size, 0, none⟩ = some (.int .i64 lo) := (hb1.cell (by simp)).trans (by simp)
    have p1 : w1.cell? ⟨w.heap.size, 1, none⟩ = some (.int .i64 hi) := (hb1.cell (by simp)).trans (by simp)
    have p2 : w1.cell? ⟨w.heap.size, 2, none⟩ = some (.int .i64 st) := (hb1.cell (by simp)).trans (by simp)
    have hbel : Below w.heap.size w w1 := ((Below.refl _ _).alloc (Nat.le_refl _) _).trans (hb1.mono (by simp))
    clear hb1
    go_wp2_with fail
    refine (place_any lo hi st value long _).mono ?_
    rintro e w2 ⟨rfl, hb2⟩
    rw [HV.out]
    have hs_w2 := (hb2).size
    have z_w2 : w.heap.size < w2.heap.size := by omega
    replace hbel := hbel.trans ((hb2).mono (show w.heap.size ≤ w1.heap.size by omega))
    replace p0 : w2.cell? ⟨w.heap.size, 0, none⟩ = some (.int .i64 lo) := ((hb2).cell (show w.heap.size < w1.heap.size by omega)).trans p0
    replace p1 : w2.cell? ⟨w.heap.size, 1, none⟩ = some (.int .i64 hi) := ((hb2).cell (show w.heap.size < w1.heap.size by omega)).trans p1
    replace p2 : w2.cell? ⟨w.heap.size, 2, none⟩ = some (.int .i64 st) := ((hb2).cell (show w.heap.size < w1.heap.size by omega)).trans p2
    clear hb2
    go_wp2_with fail
    refine (marks_bad lo hi st _ (by omega)).mono ?_
    rintro e w3 ⟨rfl, hb3⟩
    have hs_w3 := (hb3).size
    have z_w3 : w.heap.size < w3.heap.size := by omega
    replace hbel := hbel.trans ((hb3).mono (show w.heap.size ≤ w2.heap.size by omega))
    replace p0 : w3.cell? ⟨w.heap.size, 0, none⟩ = some (.int .i64 lo) := ((hb3).cell (show w.heap.size < w2.heap.size by omega)).trans p0
    replace p1 : w3.cell? ⟨w.heap.size, 1, none⟩ = some (.int .i64 hi) := ((hb3).cell (show w.heap.size < w2.heap.size by omega)).trans p1
    replace p2 : w3.cell? ⟨w.heap.size, 2, none⟩ = some (.int .i64 st) := ((hb3).cell (show w.heap.size < w2.heap.size by omega)).trans p2
    clear hb3
    go_wp2_with (first | (go_at_call 14; refine (in_any _ _ _ _).mono ?_; rintro e w9 ⟨rfl, rfl⟩) | (go_at_call 22; refine (check_any _ _ _ _).mono ?_; rintro e w4 ⟨rfl, hb4⟩))
    go_ret
    exact ⟨rfl, hbel.trans (hb4.mono (by omega))⟩
set_option maxHeartbeats 4000000 in
theorem law_ok (lo hi st value long : Int) (w : World) (hc : Hid (chk lo hi st = 0)) :
    Calls Try.prog 6 #[.agg #[.int .i64 lo, .int .i64 hi, .int .i64 st], .int .i64 value, .int .i64 long] w fun e w' => e = .returned (.bool true) ∧ Below w.heap.size w w' := by
  obtain ⟨hR, h2, h3, h4, h5⟩ := chk_zero hc.out
  obtain ⟨r1, r2, r3⟩ := hR
  have i1 := inB_true.2 r1
  have i2 := inB_true.2 r2
  have i3 := inB_true.2 r3
  have hq0 := Int.ediv_nonneg (show 0 ≤ hi - lo by omega) (show 0 ≤ st by omega)
  have d3 : ((hi - lo) % st != 0) = false := by simp [h3]
  have d4 : (lo.tmod st != 0) = false := by simp [(tmod_zero (show 1 ≤ st by omega)).2 h4]
  clear h3 h4
  cases i4 : inB long 0 100000
  · have HV := Lib.hid (show placeV lo hi st value long = .tuple #[.int .i64 0, .int .i64 2] by unfold placeV; rw [if_neg (by rw [hc.out]; omega), if_neg (fun h => inB_false.1 i4 h.1)])
    go_enter Try.func6, Try.ntmps6
    go_wp2_with fail
    refine (place_any 0 50 10 3 1000 _).mono ?_
    rintro e w1 ⟨rfl, hb1⟩
    rw [show placeV 0 50 10 3 1000 = .tuple #[.int .i64 60, .int .i64 0] by
      have hc : chk 0 50 10 = 0 := by unfold chk; rw [if_neg (by unfold InR; omega), if_neg (by omega), if_neg (by decide), if_neg (by decide)]
      unfold placeV; rw [if_neg (by rw [hc]; omega), if_pos (by omega)]; rfl]
    have hs1 := hb1.size
    simp at hs1
    have z1 : w.heap.size < w1.heap.size := by omega
    have p0 : w1.cell? ⟨w.heap.size, 0, none⟩ = some (.int .i64 lo) := (hb1.cell (by simp)).trans (by simp)
    have p1 : w1.cell? ⟨w.heap.size, 1, none⟩ = some (.int .i64 hi) := (hb1.cell (by simp)).trans (by simp)
    have p2 : w1.cell? ⟨w.heap.size, 2, none⟩ = some (.int .i64 st) := (hb1.cell (by simp)).trans (by simp)
    have hbel : Below w.heap.size w w1 := ((Below.refl _ _).alloc (Nat.le_refl _) _).trans (hb1.mono (by simp))
    clear hb1
    go_wp2_with fail
    refine (place_any lo hi st value long _).mono ?_
    rintro e w2 ⟨rfl, hb2⟩
    rw [HV.out]
    have hs_w2 := (hb2).size
    have z_w2 : w.heap.size < w2.heap.size := by omega
    replace hbel := hbel.trans ((hb2).mono (show w.heap.size ≤ w1.heap.size by omega))
    replace p0 : w2.cell? ⟨w.heap.size, 0, none⟩ = some (.int .i64 lo) := ((hb2).cell (show w.heap.size < w1.heap.size by omega)).trans p0
    replace p1 : w2.cell? ⟨w.heap.size, 1, none⟩ = some (.int .i64 hi) := ((hb2).cell (show w.heap.size < w1.heap.size by omega)).trans p1
    replace p2 : w2.cell? ⟨w.heap.size, 2, none⟩ = some (.int .i64 st) := ((hb2).cell (show w.heap.size < w1.heap.size by omega)).trans p2
    clear hb2
    go_wp2_with fail
    refine (marks_ok lo hi st _ hc.out).mono ?_
    rintro e w3 ⟨hb3, a, cap, m, rfl, hm, hi3⟩
    have hs_w3 := (hb3).size
    have z_w3 : w.heap.size < w3.heap.size := by omega
    replace hbel := hbel.trans ((hb3).mono (show w.heap.size ≤ w2.heap.size by omega))
    replace p0 : w3.cell? ⟨w.heap.size, 0, none⟩ = some (.int .i64 lo) := ((hb3).cell (show w.heap.size < w2.heap.size by omega)).trans p0
    replace p1 : w3.cell? ⟨w.heap.size, 1, none⟩ = some (.int .i64 hi) := ((hb3).cell (show w.heap.size < w2.heap.size by omega)).trans p1
    replace p2 : w3.cell? ⟨w.heap.size, 2, none⟩ = some (.int .i64 st) := ((hb3).cell (show w.heap.size < w2.heap.size by omega)).trans p2
    clear hb3
    have hq : (hi - lo) / st = (m : Int) - 1 := by omega
    have hm5 : m ≤ 501 := by omega
    have HI := Lib.hid hi3
    clear hi3 hm
    go_wp2_with (go_at_call 14; refine (in_any _ _ _ _).mono ?_; rintro e w9 ⟨rfl, rfl⟩)
    refine (check_any lo hi st _).mono ?_
    rw [hc.out]
    rintro e w4 ⟨rfl, hb4⟩
    have hs_w4 := hb4.size
    have z_w4 : w.heap.size < w4.heap.size := by omega
    have q0 := (hb4.cell (p := ⟨w.heap.size, 0, none⟩) (show w.heap.size < w3.heap.size by omega)).trans p0
    have q1 := (hb4.cell (p := ⟨w.heap.size, 1, none⟩) (show w.heap.size < w3.heap.size by omega)).trans p1
    have q2 := (hb4.cell (p := ⟨w.heap.size, 2, none⟩) (show w.heap.size < w3.heap.size by omega)).trans p2
    go_wp2
    go_loop [132] (fun ix => ∃ k : Nat, ix = .int .i64 k ∧ k ≤ m) (fun ix => m - (intOf ix).toNat)
    case atStart => exact ⟨0, rfl, by omega⟩
    case round =>
      obtain ⟨k, rfl, hk⟩ := hrel
      by_cases hkm : k < m
      · obtain ⟨b, off, rfl, hcell⟩ := HI.out (by omega)
        have d1 := (hb4.cell (lt_of_cell (hcell k hkm))).trans (hcell k hkm)
        have hp1 : 0 ≤ (k : Int) * st := Int.mul_nonneg (by omega) (by omega)
        have hp2 : (k : Int) * st ≤ 2004000000000000 := Int.le_trans (Int.mul_le_mul (show (k : Int) ≤ 501 by omega) (show st ≤ 4000000000000 by omega) (by omega) (by omega)) (by omega)
        have d2 : (lo + (k : Int) * st != lo + (k : Int) * st) = false := by simp
        clear hcell hb4
        go_wp2
        go_round
        case rel => exact ⟨k + 1, by go_num, by omega⟩
        case measure => simp [intOf]; omega
      · obtain rfl : k = m := by omega
        replace hbel := hbel.trans (hb4.mono (by omega))
        clear hb4
        go_wp2_with (first | (go_at_call 14; refine (in_any _ _ _ _).mono ?_; rintro e w9 ⟨rfl, rfl⟩) | (go_at_call 23; refine (near_any _ _ _ (by omega) (by omega)).mono ?_; rintro e w9 ⟨rfl, rfl⟩))
        go_ret
        exact ⟨rfl, hbel⟩
  cases i5 : inB value lo hi
  · have HV := Lib.hid (show placeV lo hi st value long = .tuple #[.int .i64 0, .int .i64 2] by unfold placeV; rw [if_neg (by rw [hc.out]; omega), if_neg (fun h => inB_false.1 i5 h.2)])
    go_enter Try.func6, Try.ntmps6
    go_wp2_with fail
    refine (place_any 0 50 10 3 1000 _).mono ?_
    rintro e w1 ⟨rfl, hb1⟩
    rw [show placeV 0 50 10 3 1000 = .tuple #[.int .i64 60, .int .i64 0] by
      have hc : chk 0 50 10 = 0 := by unfold chk; rw [if_neg (by unfold InR; omega), if_neg (by omega), if_neg (by decide), if_neg (by decide)]
      unfold placeV; rw [if_neg (by rw [hc]; omega), if_pos (by omega)]; rfl]
    have hs1 := hb1.size
    simp at hs1
    have z1 : w.heap.size < w1.heap.size := by omega
    have p0 : w1.cell? ⟨w.heap.size, 0, none⟩ = some (.int .i64 lo) := (hb1.cell (by simp)).trans (by simp)
    have p1 : w1.cell? ⟨w.heap.size, 1, none⟩ = some (.int .i64 hi) := (hb1.cell (by simp)).trans (by simp)
    have p2 : w1.cell? ⟨w.heap.size, 2, none⟩ = some (.int .i64 st) := (hb1.cell (by simp)).trans (by simp)
    have hbel : Below w.heap.size w w1 := ((Below.refl _ _).alloc (Nat.le_refl _) _).trans (hb1.mono (by simp))
    clear hb1
    go_wp2_with fail
    refine (place_any lo hi st value long _).mono ?_
    rintro e w2 ⟨rfl, hb2⟩
    rw [HV.out]
    have hs_w2 := (hb2).size
    have z_w2 : w.heap.size < w2.heap.size := by omega
    replace hbel := hbel.trans ((hb2).mono (show w.heap.size ≤ w1.heap.size by omega))
    replace p0 : w2.cell? ⟨w.heap.size, 0, none⟩ = some (.int .i64 lo) := ((hb2).cell (show w.heap.size < w1.heap.size by omega)).trans p0
    replace p1 : w2.cell? ⟨w.heap.size, 1, none⟩ = some (.int .i64 hi) := ((hb2).cell (show w.heap.size < w1.heap.size by omega)).trans p1
    replace p2 : w2.cell? ⟨w.heap.size, 2, none⟩ = some (.int .i64 st) := ((hb2).cell (show w.heap.size < w1.heap.size by omega)).trans p2
    clear hb2
    go_wp2_with fail
    refine (marks_ok lo hi st _ hc.out).mono ?_
    rintro e w3 ⟨hb3, a, cap, m, rfl, hm, hi3⟩
    have hs_w3 := (hb3).size
    have z_w3 : w.heap.size < w3.heap.size := by omega
    replace hbel := hbel.trans ((hb3).mono (show w.heap.size ≤ w2.heap.size by omega))
    replace p0 : w3.cell? ⟨w.heap.size, 0, none⟩ = some (.int .i64 lo) := ((hb3).cell (show w.heap.size < w2.heap.size by omega)).trans p0
    replace p1 : w3.cell? ⟨w.heap.size, 1, none⟩ = some (.int .i64 hi) := ((hb3).cell (show w.heap.size < w2.heap.size by omega)).trans p1
    replace p2 : w3.cell? ⟨w.heap.size, 2, none⟩ = some (.int .i64 st) := ((hb3).cell (show w.heap.size < w2.heap.size by omega)).trans p2
    clear hb3
    have hq : (hi - lo) / st = (m : Int) - 1 := by omega
    have hm5 : m ≤ 501 := by omega
    have HI := Lib.hid hi3
    clear hi3 hm
    go_wp2_with (go_at_call 14; refine (in_any _ _ _ _).mono ?_; rintro e w9 ⟨rfl, rfl⟩)
    refine (check_any lo hi st _).mono ?_
    rw [hc.out]
    rintro e w4 ⟨rfl, hb4⟩
    have hs_w4 := hb4.size
    have z_w4 : w.heap.size < w4.heap.size := by omega
    have q0 := (hb4.cell (p := ⟨w.heap.size, 0, none⟩) (show w.heap.size < w3.heap.size by omega)).trans p0
    have q1 := (hb4.cell (p := ⟨w.heap.size, 1, none⟩) (show w.heap.size < w3.heap.size by omega)).trans p1
    have q2 := (hb4.cell (p := ⟨w.heap.size, 2, none⟩) (show w.heap.size < w3.heap.size by omega)).trans p2
    go_wp2
    go_loop [132] (fun ix => ∃ k : Nat, ix = .int .i64 k ∧ k ≤ m) (fun ix => m - (intOf ix).toNat)
    case atStart => exact ⟨0, rfl, by omega⟩
    case round =>
      obtain ⟨k, rfl, hk⟩ := hrel
      by_cases hkm : k < m
      · obtain ⟨b, off, rfl, hcell⟩ := HI.out (by omega)
        have d1 := (hb4.cell (lt_of_cell (hcell k hkm))).trans (hcell k hkm)
        have hp1 : 0 ≤ (k : Int) * st := Int.mul_nonneg (by omega) (by omega)
        have hp2 : (k : Int) * st ≤ 2004000000000000 := Int.le_trans (Int.mul_le_mul (show (k : Int) ≤ 501 by omega) (show st ≤ 4000000000000 by omega) (by omega) (by omega)) (by omega)
        have d2 : (lo + (k : Int) * st != lo + (k : Int) * st) = false := by simp
        clear hcell hb4
        go_wp2
        go_round
        case rel => exact ⟨k + 1, by go_num, by omega⟩
        case measure => simp [intOf]; omega
      · obtain rfl : k = m := by omega
        replace hbel := hbel.trans (hb4.mono (by omega))
        clear hb4
        go_wp2_with (first | (go_at_call 14; refine (in_any _ _ _ _).mono ?_; rintro e w9 ⟨rfl, rfl⟩) | (go_at_call 23; refine (near_any _ _ _ (by omega) (by omega)).mono ?_; rintro e w9 ⟨rfl, rfl⟩))
        go_ret
        exact ⟨rfl, hbel⟩
  have k4 := inB_true.1 i4
  have k5 := inB_true.1 i5
  have HV := Lib.hid (show placeV lo hi st value long = .tuple #[.int .i64 (near ((value - lo) * long) (hi - lo)), .int .i64 0] by unfold placeV; rw [if_neg (by rw [hc.out]; omega), if_pos ⟨k4, k5⟩])
  have hp : 0 ≤ (value - lo) * long ∧ (value - lo) * long ≤ 800000000000000000 :=
    ⟨Int.mul_nonneg (by omega) k4.1, Int.le_trans (Int.mul_le_mul (show value - lo ≤ 8000000000000 by omega) k4.2 k4.1 (by omega)) (by omega)⟩
  go_enter Try.func6, Try.ntmps6
  go_wp2_with fail
  refine (place_any 0 50 10 3 1000 _).mono ?_
  rintro e w1 ⟨rfl, hb1⟩
  rw [show placeV 0 50 10 3 1000 = .tuple #[.int .i64 60, .int .i64 0] by
    have hc : chk 0 50 10 = 0 := by unfold chk; rw [if_neg (by unfold InR; omega), if_neg (by omega), if_neg (by decide), if_neg (by decide)]
    unfold placeV; rw [if_neg (by rw [hc]; omega), if_pos (by omega)]; rfl]
  have hs1 := hb1.size
  simp at hs1
  have z1 : w.heap.size < w1.heap.size := by omega
  have p0 : w1.cell? ⟨w.heap.size, 0, none⟩ = some (.int .i64 lo) := (hb1.cell (by simp)).trans (by simp)
  have p1 : w1.cell? ⟨w.heap.size, 1, none⟩ = some (.int .i64 hi) := (hb1.cell (by simp)).trans (by simp)
  have p2 : w1.cell? ⟨w.heap.size, 2, none⟩ = some (.int .i64 st) := (hb1.cell (by simp)).trans (by simp)
  have hbel : Below w.heap.size w w1 := ((Below.refl _ _).alloc (Nat.le_refl _) _).trans (hb1.mono (by simp))
  clear hb1
  go_wp2_with fail
  refine (place_any lo hi st value long _).mono ?_
  rintro e w2 ⟨rfl, hb2⟩
  rw [HV.out]
  have hs_w2 := (hb2).size
  have z_w2 : w.heap.size < w2.heap.size := by omega
  replace hbel := hbel.trans ((hb2).mono (show w.heap.size ≤ w1.heap.size by omega))
  replace p0 : w2.cell? ⟨w.heap.size, 0, none⟩ = some (.int .i64 lo) := ((hb2).cell (show w.heap.size < w1.heap.size by omega)).trans p0
  replace p1 : w2.cell? ⟨w.heap.size, 1, none⟩ = some (.int .i64 hi) := ((hb2).cell (show w.heap.size < w1.heap.size by omega)).trans p1
  replace p2 : w2.cell? ⟨w.heap.size, 2, none⟩ = some (.int .i64 st) := ((hb2).cell (show w.heap.size < w1.heap.size by omega)).trans p2
  clear hb2
  go_wp2_with fail
  refine (marks_ok lo hi st _ hc.out).mono ?_
  rintro e w3 ⟨hb3, a, cap, m, rfl, hm, hi3⟩
  have hs_w3 := (hb3).size
  have z_w3 : w.heap.size < w3.heap.size := by omega
  replace hbel := hbel.trans ((hb3).mono (show w.heap.size ≤ w2.heap.size by omega))
  replace p0 : w3.cell? ⟨w.heap.size, 0, none⟩ = some (.int .i64 lo) := ((hb3).cell (show w.heap.size < w2.heap.size by omega)).trans p0
  replace p1 : w3.cell? ⟨w.heap.size, 1, none⟩ = some (.int .i64 hi) := ((hb3).cell (show w.heap.size < w2.heap.size by omega)).trans p1
  replace p2 : w3.cell? ⟨w.heap.size, 2, none⟩ = some (.int .i64 st) := ((hb3).cell (show w.heap.size < w2.heap.size by omega)).trans p2
  clear hb3
  have hq : (hi - lo) / st = (m : Int) - 1 := by omega
  have hm5 : m ≤ 501 := by omega
  have HI := Lib.hid hi3
  clear hi3 hm
  go_wp2_with (go_at_call 14; refine (in_any _ _ _ _).mono ?_; rintro e w9 ⟨rfl, rfl⟩)
  refine (check_any lo hi st _).mono ?_
  rw [hc.out]
  rintro e w4 ⟨rfl, hb4⟩
  have hs_w4 := hb4.size
  have z_w4 : w.heap.size < w4.heap.size := by omega
  have q0 := (hb4.cell (p := ⟨w.heap.size, 0, none⟩) (show w.heap.size < w3.heap.size by omega)).trans p0
  have q1 := (hb4.cell (p := ⟨w.heap.size, 1, none⟩) (show w.heap.size < w3.heap.size by omega)).trans p1
  have q2 := (hb4.cell (p := ⟨w.heap.size, 2, none⟩) (show w.heap.size < w3.heap.size by omega)).trans p2
  go_wp2
  go_loop [132] (fun ix => ∃ k : Nat, ix = .int .i64 k ∧ k ≤ m) (fun ix => m - (intOf ix).toNat)
  case atStart => exact ⟨0, rfl, by omega⟩
  case round =>
    obtain ⟨k, rfl, hk⟩ := hrel
    by_cases hkm : k < m
    · obtain ⟨b, off, rfl, hcell⟩ := HI.out (by omega)
      have d1 := (hb4.cell (lt_of_cell (hcell k hkm))).trans (hcell k hkm)
      have hp1 : 0 ≤ (k : Int) * st := Int.mul_nonneg (by omega) (by omega)
      have hp2 : (k : Int) * st ≤ 2004000000000000 := Int.le_trans (Int.mul_le_mul (show (k : Int) ≤ 501 by omega) (show st ≤ 4000000000000 by omega) (by omega) (by omega)) (by omega)
      have d2 : (lo + (k : Int) * st != lo + (k : Int) * st) = false := by simp
      clear hcell hb4
      go_wp2
      go_round
      case rel => exact ⟨k + 1, by go_num, by omega⟩
      case measure => simp [intOf]; omega
    · obtain rfl : k = m := by omega
      replace hbel := hbel.trans (hb4.mono (by omega))
      clear hb4
      go_wp2_with (first | (go_at_call 14; refine (in_any _ _ _ _).mono ?_; rintro e w9 ⟨rfl, rfl⟩) | (go_at_call 23; refine (near_any _ _ _ (by omega) (by omega)).mono ?_; rintro e w9 ⟨rfl, rfl⟩))
      go_ret
      exact ⟨rfl, hbel⟩
end Go.Proofs.Ytpbnkkeplhgepaa.SP
