
/-
  round, Down, Near, sine, Sine.
-/
import Derived.Test.YtabnohphgegflaaDoorProg
import Derived.Test.YtabnohphgegflaaDoorShPlain
import Derived.Test.YtabnohphgegflaaDoorOwn
import Derived.WalkLawsBesides
import Derived.Lib.Hide
import Derived.BigQuiet
namespace Go.Proofs.YtabnohphgegflaaDoor.ShT
open Go.RowKit Go.Law Go.Law.Sh
set_option linter.unusedVariables false
set_option linter.unusedSimpArgs false
set_option maxRecDepth 100000
theorem round_any (a b : Int) (w : World) (hb : 1 ≤ b ∧ b ≤ 1073741824) :
    Calls Tryd.prog 24 #[.int .i64 a, .int .i64 b] w fun e w' => e = .returned (.int .i64 (rnd a b)) ∧ w = w' := by
  have HQ := Lib.hid (quot (x := wrap64 (wrap64 (2 * a) + b)) (c := b * 2) (wrap_range _) (by omega))
  go_enter Tryd.func24, Tryd.ntmps24
  go_wp2_with fail
  all_goals
    go_ret
    have hq := HQ.out
    refine ⟨show Ending.returned (.int .i64 _) = _ from ?_, rfl⟩
    refine congrArg (fun z => Ending.returned (.int .i64 z)) ?_
    unfold rnd
    rename_i h
    try rw [hq.2.2.2.1]
  · rw [hq.2.1 h, wrap_in (by omega)]
    omega
  · rw [hq.2.2.1 h]
theorem down_any (x c : Int) (w : World) (hx : In64 x) (hc : 2 ≤ c ∧ c ≤ 4294967296) :
    Calls Tryd.prog 31 #[.int .i64 x, .int .i64 c] w fun e w' => e = .returned (.int .i64 (x / c)) ∧ w = w' := by
  have HQ := Lib.hid (quot hx hc)
  clear hx
  have f1 := HQ.out.2.2.2.1
  have f2 := HQ.out.2.2.2.2
  go_enter Tryd.func31, Tryd.ntmps31
  go_wp2_with fail
  all_goals
    go_ret
    have hq := HQ.out
    refine ⟨show Ending.returned (.int .i64 _) = _ from ?_, rfl⟩
    refine congrArg (fun z => Ending.returned (.int .i64 z)) ?_
    rename_i h
  · rw [hq.2.1 (by omega), wrap_in (by omega)]
    omega
  · rw [hq.2.2.1 (by omega)]
    first | exact wrap_in (by omega) | skip
theorem near_any (a b : Int) (w : World) (hb : 1 ≤ b ∧ b ≤ 1073741824) :
    Calls Tryd.prog 28 #[.int .i64 a, .int .i64 b] w fun e w' => e = .returned (.int .i64 (rnd a b)) ∧ w = w' := by
  go_enter Tryd.func28, Tryd.ntmps28
  go_wp2_with fail
  refine (down_any _ _ _ (wrap_range _) (by omega)).mono ?_
  rintro e w1 ⟨rfl, rfl⟩
  go_wp2_with fail
  go_ret
  refine ⟨show Ending.returned (.int .i64 _) = _ from congrArg (fun z => Ending.returned (.int .i64 z)) ?_, rfl⟩
  unfold rnd
  rw [Int.mul_comm b 2]
theorem tm0 {t : Int} (h : 0 ≤ t) : t.tmod 3600 = t % 3600 := Int.tmod_eq_emod_of_nonneg h
theorem tm1 {t : Int} (h : t < 0) : t.tmod 3600 = -((-t) % 3600) := by
  have := Int.tmod_eq_emod_of_nonneg (a := -t) (b := 3600) (by omega)
  rw [Int.neg_tmod] at this
  omega
/-- a table of sines at a variable -/
def Arr (w : World) (g : Nat) : Prop := ∀ i : Nat, i < 91 → w.cell? ⟨g, i, none⟩ = some (.int .i64 (sinA i))
theorem Arr.below {W w : World} {B g : Nat} (h : Arr W g) (hB : W.heap.size ≤ B) (hb : Below B W w) : Arr w g := fun i hi => by
  have h0 := h i hi
  have := lt_of_cell h0
  exact (hb.cell (by simp at this ⊢; omega)).trans h0
set_option maxHeartbeats 1000000 in
theorem sine_low (t m : Int) (n : Nat) (w : World) (hn : n ≤ 900) (k1 : wrap64 (t.tmod 3600 + 3600) = m) (k2 : m.tmod 3600 = n) (ha : Arr w 1) :
    Calls Tryd.prog 77 #[.int .i64 t] w fun e w' => e = .returned (.int .i64 (sin0 n)) ∧ Below w.heap.size w w' := by
  obtain ⟨d, hd⟩ : ∃ d : Nat, d = n / 10 := ⟨_, rfl⟩
  obtain ⟨r, hr⟩ : ∃ r : Nat, r = n % 10 := ⟨_, rfl⟩
  have f1 : (n : Int) / 10 = d := by omega
  have f2 : (n : Int) % 10 = r := by omega
  have hr10 : r < 10 := by omega
  have hd90 : d ≤ 90 := by omega
  have f3 : r = 0 ∨ d < 90 := by omega
  have HV := Lib.hid (show sin0 n = if (r : Int) = 0 then sinA d else (sinA d * (10 - r) + sinA (d + 1) * r + 5) / 10 by unfold sin0; rw [f1, f2])
  have b0 := sinA_range d
  have b1 := sinA_range (d + 1)
  have c0 := ha d (by omega)
  have hz := lt_of_cell c0
  simp only at hz
  clear hd hr
  rcases f3 with hr0 | hd9
  · subst hr0
    have hV : sin0 n = sinA d := by rw [HV.out]; rfl
    rw [hV]
    clear HV hV ha b1
    generalize sinA (d : Int) = x at *
    go_enter Tryd.func77, Tryd.ntmps77
    go_wp2_with fail
    go_ret
    exact ⟨rfl, Below.refl _ _⟩
  · have c1 := ha (d + 1) (by omega)
    have hm : ((d + 1 : Nat) : Int) = (d : Int) + 1 := by omega
    rw [hm] at c1
    clear ha
    generalize sinA (d : Int) = x at *
    generalize sinA ((d : Int) + 1) = y at *
    obtain ⟨p, hp⟩ : ∃ p, p = x * (10 - r) := ⟨_, rfl⟩
    obtain ⟨q, hq⟩ : ∃ q, q = y * r := ⟨_, rfl⟩
    have p0 : 0 ≤ p := by rw [hp]; exact Int.mul_nonneg b0.1 (by omega)
    have p1 : p ≤ 65536 * (10 - r) := by rw [hp]; exact Int.mul_le_mul_of_nonneg_right b0.2 (by omega)
    have q0 : 0 ≤ q := by rw [hq]; exact Int.mul_nonneg b1.1 (by omega)
    have q1 : q ≤ 65536 * r := by rw [hq]; exact Int.mul_le_mul_of_nonneg_right b1.2 (by omega)
    rw [← hp, ← hq] at HV
    have g1 : wrap64 (x * (10 - r)) = p := by rw [← hp]; exact wrap_in (by omega)
    have g2 : wrap64 (y * r) = q := by rw [← hq]; exact wrap_in (by omega)
    have g3 : (p + q + 5).tdiv 10 = (p + q + 5) / 10 := Int.tdiv_eq_ediv_of_nonneg (by omega)
    have e0 : decide ((d : Int) < 91) = true := by simp; omega
    by_cases hr0 : r = 0
    · subst hr0
      have hV : sin0 n = x := by rw [HV.out]; rfl
      rw [hV]
      clear HV hV hp hq g1 g2 g3
      go_enter Tryd.func77, Tryd.ntmps77
      go_wp2_with fail
      go_ret
      exact ⟨rfl, Below.refl _ _⟩
    · have hV : sin0 n = (p + q + 5) / 10 := by rw [HV.out, if_neg (by omega)]
      rw [hV]
      clear HV hV hp hq
      go_enter Tryd.func77, Tryd.ntmps77
      go_wp2_with fail
      go_quiet (fail)
      go_wp2_with fail
      go_ret
      exact ⟨rfl, below_drewN (Below.refl _ _) _⟩
set_option maxHeartbeats 1000000 in
theorem sine_any (t : Int) (w : World) (ht : -100000 ≤ t ∧ t ≤ 100000) (ha : Arr w 1) :
    Calls Tryd.prog 77 #[.int .i64 t] w fun e w' => e = .returned (.int .i64 (sin t)) ∧ Below w.heap.size w w' := by
  have HA := Lib.hid ha
  have HS := Lib.hid (show sin t = if 2700 < t % 3600 then - sin0 (3600 - t % 3600) else if 1800 < t % 3600 then - sin0 (t % 3600 - 1800) else if 900 < t % 3600 then sin0 (1800 - t % 3600) else sin0 (t % 3600) from rfl)
  obtain ⟨u, hu⟩ : ∃ u, u = t % 3600 := ⟨_, rfl⟩
  have hu0 : 0 ≤ u ∧ u < 3600 := by omega
  obtain ⟨m, hm⟩ : ∃ m, m = t.tmod 3600 + 3600 := ⟨_, rfl⟩
  have hm2 : 0 ≤ m ∧ m ≤ 7200 ∧ m % 3600 = u := by rcases Int.lt_or_le t 0 with h | h <;> first | (rw [tm1 h] at hm; omega) | (rw [tm0 h] at hm; omega)
  have f1 : wrap64 (t.tmod 3600 + 3600) = m := by rw [hm]; exact wrap_in (by omega)
  have f2 : m.tmod 3600 = u := by rw [tm0 hm2.1]; exact hm2.2.2
  rw [← hu] at HS
  clear hu ha hm hm2
  have low : ∀ (n : Int) (w : World), 0 ≤ n ∧ n ≤ 900 → Arr w 1 → Calls Tryd.prog 77 #[.int .i64 n] w fun e w' => e = .returned (.int .i64 (sin0 n)) ∧ Below w.heap.size w w' := by
    intro n w hn ha
    obtain ⟨k, rfl⟩ : ∃ k : Nat, n = k := ⟨n.toNat, by omega⟩
    exact sine_low k (k + 3600) k w (by omega) (by rw [tm0 (by omega)]; rw [show (k : Int) % 3600 = k by omega]; exact wrap_in (by omega)) (by rw [tm0 (by omega)]; omega) ha
  have HL := Lib.hid low
  clear low
  by_cases h1 : u ≤ 900
  · obtain ⟨k, rfl⟩ : ∃ k : Nat, u = k := ⟨u.toNat, by omega⟩
    rw [HS.out, if_neg (by omega), if_neg (by omega), if_neg (by omega)]
    exact sine_low t m k w (by omega) f1 f2 HA.out
  · obtain ⟨S, hS⟩ : ∃ S, S = sin t := ⟨_, rfl⟩
    rw [← hS] at HS ⊢
    clear hS
    go_enter Tryd.func77, Tryd.ntmps77
    go_wp2_with fail
    all_goals
      refine (HL.out _ _ (by omega) HA.out).mono ?_
      rintro e w1 ⟨rfl, hb1⟩
    · have hr := @sin0_range (3600 - u)
      have hV : S = - sin0 (3600 - u) := by rw [HS.out, if_pos (by omega)]
      clear HS
      generalize sin0 (3600 - u) = x at *
      have HV := Lib.hid hV
      clear hV
      go_wp2_with fail
      go_ret
      exact ⟨by rw [HV.out]; rfl, hb1⟩
    · have hr := @sin0_range (u - 1800)
      have hV : S = - sin0 (u - 1800) := by rw [HS.out, if_neg (by omega), if_pos (by omega)]
      clear HS
      generalize sin0 (u - 1800) = x at *
      have HV := Lib.hid hV
      clear hV
      go_wp2_with fail
      go_ret
      exact ⟨by rw [HV.out]; rfl, hb1⟩
    · have hr := @sin0_range (1800 - u)
      have hV : S = sin0 (1800 - u) := by rw [HS.out, if_neg (by omega), if_neg (by omega), if_pos (by omega)]
      clear HS
      generalize sin0 (1800 - u) = x at *
      have HV := Lib.hid hV
      clear hV
      go_wp2_with fail
      go_ret
      exact ⟨by rw [HV.out]; rfl, hb1⟩
end Go.Proofs.YtabnohphgegflaaDoor.ShT
