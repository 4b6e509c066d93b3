
/-
  The reference's Sine.
-/
import Derived.Test.YtabnohphgegflaaDoorShTrig
namespace Go.Proofs.YtabnohphgegflaaDoor.ShT
open Go.RowKit Go.Law Go.Law.Sh
set_option linter.unusedVariables false
set_option linter.unusedSimpArgs false
set_option maxRecDepth 100000
set_option maxHeartbeats 1000000 in
theorem sineR_any (t : Int) (w : World) (ht : -100000 ≤ t ∧ t ≤ 100000) (ha : Arr w 6) :
    Calls Tryd.prog 98 #[.int .i64 t] w fun e w' => e = .returned (.int .i64 (sin t)) ∧ Below w.heap.size w w' := by
  have HA := Lib.hid ha
  have HS := Lib.hid (show sin t = if 2700 < t % 3600 then - sin0 (3600 - t % 3600) else if 1800 < t % 3600 then - sin0 (t % 3600 - 1800) else if 900 < t % 3600 then sin0 (1800 - t % 3600) else sin0 (t % 3600) from rfl)
  obtain ⟨u, hu⟩ : ∃ u, u = t % 3600 := ⟨_, rfl⟩
  have hu0 : 0 ≤ u ∧ u < 3600 := by omega
  rw [← hu] at HS
  have HU := Lib.hid hu
  obtain ⟨S, hS⟩ : ∃ S, S = sin t := ⟨_, rfl⟩
  rw [← hS] at HS ⊢
  clear hS hu ha
  go_enter Tryd.func98, Tryd.ntmps98
  go_wp2_with fail
  go_loopw [0] (fun ix wr => ∃ v : Int, ix = .int .i64 v ∧ v % 3600 = u ∧ (-100000 ≤ v ∧ v ≤ 100000) ∧ w = wr) (fun ix _ => (-(intOf ix)).toNat)
  case atStart => exact ⟨t, rfl, HU.out.symm, ht, rfl⟩
  case round =>
    obtain ⟨v, rfl, hv, hv2, rfl⟩ := hrel
    by_cases hneg : v < 0
    · go_wp2_with fail
      go_roundw
      case rel => exact ⟨v + 3600, by go_num, by omega, by omega, trivial⟩
      case measure => simp [intOf]; omega
    · have hsz : 6 < w.heap.size := lt_of_cell (HA.out 0 (by omega))
      clear HU
      rcases Int.lt_or_le u 901 with h | h
      · obtain ⟨n, rfl⟩ : ∃ n : Nat, u = n := ⟨u.toNat, by omega⟩
        have HV := Lib.hid (show S = sin0 n by rw [HS.out, if_neg (by omega), if_neg (by omega), if_neg (by omega)])
        obtain ⟨d, hd⟩ : ∃ d : Nat, d = n / 10 := ⟨_, rfl⟩
        obtain ⟨r, hr⟩ : ∃ r : Nat, r = n % 10 := ⟨_, rfl⟩
        have f1 : (n : Int) / 10 = d := by omega
        have f2 : (n : Int) % 10 = r := by omega
        have hr10 : r < 10 := by omega
        have hd90 : d ≤ 90 := by omega
        have f3 : r = 0 ∨ d < 90 := by omega
        have HZ := Lib.hid (show sin0 n = if (r : Int) = 0 then sinA d else (sinA d * (10 - r) + sinA (d + 1) * r + 5) / 10 by unfold sin0; rw [f1, f2])
        have b0 := sinA_range d
        have b1 := sinA_range (d + 1)
        have c0 := HA.out d (by omega)
        clear hd hr
        rcases f3 with hr0 | hd9
        · subst hr0
          rw [show sin0 n = sinA d by rw [HZ.out]; rfl] at HV
          clear HZ HS HA b1
          generalize sinA (d : Int) = x at *
          go_wp2_with fail
          go_ret
          exact ⟨by rw [HV.out]; rfl, Below.refl _ _⟩
        · have c1 := HA.out (d + 1) (by omega)
          have hm : ((d + 1 : Nat) : Int) = (d : Int) + 1 := by omega
          rw [hm] at c1
          by_cases hr0 : r = 0
          · subst hr0
            rw [show sin0 n = sinA d by rw [HZ.out]; rfl] at HV
            clear HZ HS HA b1 c1
            generalize sinA (d : Int) = x at *
            go_wp2_with fail
            go_ret
            exact ⟨by rw [HV.out]; rfl, Below.refl _ _⟩
          · rw [show sin0 n = (sinA d * (10 - r) + sinA (d + 1) * r + 5) / 10 by rw [HZ.out, if_neg (by omega)]] at HV
            clear HZ HS HA
            generalize sinA (d : Int) = x at *
            generalize sinA ((d : Int) + 1) = y at *
            obtain ⟨p, hp⟩ : ∃ p, p = x * (10 - r) := ⟨_, rfl⟩
            obtain ⟨q, hq⟩ : ∃ q, q = y * r := ⟨_, rfl⟩
            have p0 : 0 ≤ p := by rw [hp]; exact Int.mul_nonneg b0.1 (by omega)
            have p1 : p ≤ 65536 * (10 - r) := by rw [hp]; exact Int.mul_le_mul_of_nonneg_right b0.2 (by omega)
            have q0 : 0 ≤ q := by rw [hq]; exact Int.mul_nonneg b1.1 (by omega)
            have q1 : q ≤ 65536 * r := by rw [hq]; exact Int.mul_le_mul_of_nonneg_right b1.2 (by omega)
            rw [← hp, ← hq] at HV
            have g1 : wrap64 (x * (10 - r)) = p := by rw [← hp]; exact wrap_in (by omega)
            have g2 : wrap64 (y * r) = q := by rw [← hq]; exact wrap_in (by omega)
            have g3 : (p + q + 5).tdiv 10 = (p + q + 5) / 10 := Int.tdiv_eq_ediv_of_nonneg (by omega)
            have e0 : decide ((d : Int) < 91) = true := by simp; omega
            have e1 : decide ((0 : Int) < r) = true := by simp; omega
            clear hp hq
            go_wp2_with fail
            go_ret
            exact ⟨by rw [HV.out]; rfl, Below.refl _ _⟩
      rcases Int.lt_or_le u 1800 with h2 | h2
      · obtain ⟨n, rfl⟩ : ∃ n : Nat, u = 1800 - n := ⟨(1800 - u).toNat, by omega⟩
        have HV := Lib.hid (show S = sin0 n by rw [HS.out, if_neg (by omega), if_neg (by omega), if_pos (by omega), show (1800 : Int) - (1800 - (n : Int)) = n by omega])
        have k0 : (1800 : Int) - (1800 - (n : Int)) = n := by omega
        obtain ⟨d, hd⟩ : ∃ d : Nat, d = n / 10 := ⟨_, rfl⟩
        obtain ⟨r, hr⟩ : ∃ r : Nat, r = n % 10 := ⟨_, rfl⟩
        have f1 : (n : Int) / 10 = d := by omega
        have f2 : (n : Int) % 10 = r := by omega
        have hr10 : r < 10 := by omega
        have hd90 : d ≤ 90 := by omega
        have f3 : r = 0 ∨ d < 90 := by omega
        have HZ := Lib.hid (show sin0 n = if (r : Int) = 0 then sinA d else (sinA d * (10 - r) + sinA (d + 1) * r + 5) / 10 by unfold sin0; rw [f1, f2])
        have b0 := sinA_range d
        have b1 := sinA_range (d + 1)
        have c0 := HA.out d (by omega)
        clear hd hr
        rcases f3 with hr0 | hd9
        · subst hr0
          rw [show sin0 n = sinA d by rw [HZ.out]; rfl] at HV
          clear HZ HS HA b1
          generalize sinA (d : Int) = x at *
          go_wp2_with fail
          go_ret
          exact ⟨by rw [HV.out]; rfl, Below.refl _ _⟩
        · have c1 := HA.out (d + 1) (by omega)
          have hm : ((d + 1 : Nat) : Int) = (d : Int) + 1 := by omega
          rw [hm] at c1
          by_cases hr0 : r = 0
          · subst hr0
            rw [show sin0 n = sinA d by rw [HZ.out]; rfl] at HV
            clear HZ HS HA b1 c1
            generalize sinA (d : Int) = x at *
            go_wp2_with fail
            go_ret
            exact ⟨by rw [HV.out]; rfl, Below.refl _ _⟩
          · rw [show sin0 n = (sinA d * (10 - r) + sinA (d + 1) * r + 5) / 10 by rw [HZ.out, if_neg (by omega)]] at HV
            clear HZ HS HA
            generalize sinA (d : Int) = x at *
            generalize sinA ((d : Int) + 1) = y at *
            obtain ⟨p, hp⟩ : ∃ p, p = x * (10 - r) := ⟨_, rfl⟩
            obtain ⟨q, hq⟩ : ∃ q, q = y * r := ⟨_, rfl⟩
            have p0 : 0 ≤ p := by rw [hp]; exact Int.mul_nonneg b0.1 (by omega)
            have p1 : p ≤ 65536 * (10 - r) := by rw [hp]; exact Int.mul_le_mul_of_nonneg_right b0.2 (by omega)
            have q0 : 0 ≤ q := by rw [hq]; exact Int.mul_nonneg b1.1 (by omega)
            have q1 : q ≤ 65536 * r := by rw [hq]; exact Int.mul_le_mul_of_nonneg_right b1.2 (by omega)
            rw [← hp, ← hq] at HV
            have g1 : wrap64 (x * (10 - r)) = p := by rw [← hp]; exact wrap_in (by omega)
            have g2 : wrap64 (y * r) = q := by rw [← hq]; exact wrap_in (by omega)
            have g3 : (p + q + 5).tdiv 10 = (p + q + 5) / 10 := Int.tdiv_eq_ediv_of_nonneg (by omega)
            have e0 : decide ((d : Int) < 91) = true := by simp; omega
            have e1 : decide ((0 : Int) < r) = true := by simp; omega
            clear hp hq
            go_wp2_with fail
            go_ret
            exact ⟨by rw [HV.out]; rfl, Below.refl _ _⟩
      rcases Int.lt_or_le u 2701 with h3 | h3
      · obtain ⟨n, rfl⟩ : ∃ n : Nat, u = 1800 + n := ⟨(u - 1800).toNat, by omega⟩
        have HV := Lib.hid (show S = - sin0 n by
          rcases Nat.eq_zero_or_pos n with h0 | h0
          · subst h0
            rw [HS.out, if_neg (by omega), if_neg (by omega), if_pos (by omega)]
            decide
          · rw [HS.out, if_neg (by omega), if_pos (by omega), show (1800 : Int) + (n : Int) - 1800 = n by omega])
        have k0 : (1800 : Int) + (n : Int) - 1800 = n := by omega
        obtain ⟨d, hd⟩ : ∃ d : Nat, d = n / 10 := ⟨_, rfl⟩
        obtain ⟨r, hr⟩ : ∃ r : Nat, r = n % 10 := ⟨_, rfl⟩
        have f1 : (n : Int) / 10 = d := by omega
        have f2 : (n : Int) % 10 = r := by omega
        have hr10 : r < 10 := by omega
        have hd90 : d ≤ 90 := by omega
        have f3 : r = 0 ∨ d < 90 := by omega
        have HZ := Lib.hid (show sin0 n = if (r : Int) = 0 then sinA d else (sinA d * (10 - r) + sinA (d + 1) * r + 5) / 10 by unfold sin0; rw [f1, f2])
        have b0 := sinA_range d
        have b1 := sinA_range (d + 1)
        have c0 := HA.out d (by omega)
        clear hd hr
        rcases f3 with hr0 | hd9
        · subst hr0
          rw [show sin0 n = sinA d by rw [HZ.out]; rfl] at HV
          clear HZ HS HA b1
          generalize sinA (d : Int) = x at *
          go_wp2_with fail
          go_ret
          exact ⟨by rw [HV.out]; rfl, Below.refl _ _⟩
        · have c1 := HA.out (d + 1) (by omega)
          have hm : ((d + 1 : Nat) : Int) = (d : Int) + 1 := by omega
          rw [hm] at c1
          by_cases hr0 : r = 0
          · subst hr0
            rw [show sin0 n = sinA d by rw [HZ.out]; rfl] at HV
            clear HZ HS HA b1 c1
            generalize sinA (d : Int) = x at *
            go_wp2_with fail
            go_ret
            exact ⟨by rw [HV.out]; rfl, Below.refl _ _⟩
          · rw [show sin0 n = (sinA d * (10 - r) + sinA (d + 1) * r + 5) / 10 by rw [HZ.out, if_neg (by omega)]] at HV
            clear HZ HS HA
            generalize sinA (d : Int) = x at *
            generalize sinA ((d : Int) + 1) = y at *
            obtain ⟨p, hp⟩ : ∃ p, p = x * (10 - r) := ⟨_, rfl⟩
            obtain ⟨q, hq⟩ : ∃ q, q = y * r := ⟨_, rfl⟩
            have p0 : 0 ≤ p := by rw [hp]; exact Int.mul_nonneg b0.1 (by omega)
            have p1 : p ≤ 65536 * (10 - r) := by rw [hp]; exact Int.mul_le_mul_of_nonneg_right b0.2 (by omega)
            have q0 : 0 ≤ q := by rw [hq]; exact Int.mul_nonneg b1.1 (by omega)
            have q1 : q ≤ 65536 * r := by rw [hq]; exact Int.mul_le_mul_of_nonneg_right b1.2 (by omega)
            rw [← hp, ← hq] at HV
            have g1 : wrap64 (x * (10 - r)) = p := by rw [← hp]; exact wrap_in (by omega)
            have g2 : wrap64 (y * r) = q := by rw [← hq]; exact wrap_in (by omega)
            have g3 : (p + q + 5).tdiv 10 = (p + q + 5) / 10 := Int.tdiv_eq_ediv_of_nonneg (by omega)
            have e0 : decide ((d : Int) < 91) = true := by simp; omega
            have e1 : decide ((0 : Int) < r) = true := by simp; omega
            clear hp hq
            go_wp2_with fail
            go_ret
            exact ⟨by rw [HV.out]; rfl, Below.refl _ _⟩
      · obtain ⟨n, rfl⟩ : ∃ n : Nat, u = 3600 - n := ⟨(3600 - u).toNat, by omega⟩
        have HV := Lib.hid (show S = - sin0 n by rw [HS.out, if_pos (by omega), show (3600 : Int) - (3600 - (n : Int)) = n by omega])
        have k0 : (1800 : Int) - (3600 - (n : Int) - 1800) = n := by omega
        obtain ⟨d, hd⟩ : ∃ d : Nat, d = n / 10 := ⟨_, rfl⟩
        obtain ⟨r, hr⟩ : ∃ r : Nat, r = n % 10 := ⟨_, rfl⟩
        have f1 : (n : Int) / 10 = d := by omega
        have f2 : (n : Int) % 10 = r := by omega
        have hr10 : r < 10 := by omega
        have hd90 : d ≤ 90 := by omega
        have f3 : r = 0 ∨ d < 90 := by omega
        have HZ := Lib.hid (show sin0 n = if (r : Int) = 0 then sinA d else (sinA d * (10 - r) + sinA (d + 1) * r + 5) / 10 by unfold sin0; rw [f1, f2])
        have b0 := sinA_range d
        have b1 := sinA_range (d + 1)
        have c0 := HA.out d (by omega)
        clear hd hr
        rcases f3 with hr0 | hd9
        · subst hr0
          rw [show sin0 n = sinA d by rw [HZ.out]; rfl] at HV
          clear HZ HS HA b1
          generalize sinA (d : Int) = x at *
          go_wp2_with fail
          go_ret
          exact ⟨by rw [HV.out]; rfl, Below.refl _ _⟩
        · have c1 := HA.out (d + 1) (by omega)
          have hm : ((d + 1 : Nat) : Int) = (d : Int) + 1 := by omega
          rw [hm] at c1
          by_cases hr0 : r = 0
          · subst hr0
            rw [show sin0 n = sinA d by rw [HZ.out]; rfl] at HV
            clear HZ HS HA b1 c1
            generalize sinA (d : Int) = x at *
            go_wp2_with fail
            go_ret
            exact ⟨by rw [HV.out]; rfl, Below.refl _ _⟩
          · rw [show sin0 n = (sinA d * (10 - r) + sinA (d + 1) * r + 5) / 10 by rw [HZ.out, if_neg (by omega)]] at HV
            clear HZ HS HA
            generalize sinA (d : Int) = x at *
            generalize sinA ((d : Int) + 1) = y at *
            obtain ⟨p, hp⟩ : ∃ p, p = x * (10 - r) := ⟨_, rfl⟩
            obtain ⟨q, hq⟩ : ∃ q, q = y * r := ⟨_, rfl⟩
            have p0 : 0 ≤ p := by rw [hp]; exact Int.mul_nonneg b0.1 (by omega)
            have p1 : p ≤ 65536 * (10 - r) := by rw [hp]; exact Int.mul_le_mul_of_nonneg_right b0.2 (by omega)
            have q0 : 0 ≤ q := by rw [hq]; exact Int.mul_nonneg b1.1 (by omega)
            have q1 : q ≤ 65536 * r := by rw [hq]; exact Int.mul_le_mul_of_nonneg_right b1.2 (by omega)
            rw [← hp, ← hq] at HV
            have g1 : wrap64 (x * (10 - r)) = p := by rw [← hp]; exact wrap_in (by omega)
            have g2 : wrap64 (y * r) = q := by rw [← hq]; exact wrap_in (by omega)
            have g3 : (p + q + 5).tdiv 10 = (p + q + 5) / 10 := Int.tdiv_eq_ediv_of_nonneg (by omega)
            have e0 : decide ((d : Int) < 91) = true := by simp; omega
            have e1 : decide ((0 : Int) < r) = true := by simp; omega
            clear hp hq
            go_wp2_with fail
            go_ret
            exact ⟨by rw [HV.out]; rfl, Below.refl _ _⟩
end Go.Proofs.YtabnohphgegflaaDoor.ShT
