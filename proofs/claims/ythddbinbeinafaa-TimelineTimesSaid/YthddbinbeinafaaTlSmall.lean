

/-
  progress, part, the two functions in State, slices.IndexFunc.
-/
import Derived.Test.YthddbinbeinafaaTlPlain
import Derived.Test.YthddbinbeinafaaProg
import Derived.Test.YthddbinbeinafaaBlk
import Derived.Test.YthddbinbeinafaaCommon
import Derived.WalkKit
import Derived.WalkLawsBesides
import Derived.IntWalk
import Derived.Lib.Hide
namespace Go.Law.Tl
open Go.Law Go.RowKit
theorem cell_below {w w' : World} {B : Nat} {p : Addr} {v : Value} (h : w.cell? p = some v) (hB : w.heap.size ≤ B) (hb : Below B w w') : w'.cell? p = some v := by
  have hlt := lt_of_cell h
  rw [hb.cell (show p.block < B by omega)]
  exact h
end Go.Law.Tl
namespace Go.Proofs.Ythddbinbeinafaa.TL
open Go.RowKit Go.Law Go.Law.Tl
set_option linter.unusedVariables false
set_option linter.unusedSimpArgs false
set_option maxRecDepth 100000
set_option maxHeartbeats 2000000 in
theorem progress_any (c f t click at' : Int) (w : World) (hc : 0 ≤ c ∧ c ≤ 200) (hf : 0 ≤ f ∧ f ≤ 5000000000) (ht : f ≤ t ∧ t ≤ 5000000000) (hk : 0 ≤ click ∧ click ≤ 200) (ha : 0 ≤ at' ∧ at' ≤ 10000000) :
    Calls Try.prog 18 #[.agg #[.int .i64 c, .int .i64 f, .int .i64 t], .int .i64 click, .int .i64 at'] w fun e w' => e = .returned (.int .i64 (prg c f t click at')) ∧ Below w.heap.size w w' := by
  by_cases h1 : c < click
  · have HV := Lib.hid (show prg c f t click at' = 1000 by unfold prg; rw [if_pos (.inl h1)])
    go_enter Try.func18, Try.ntmps18
    go_wp2_with fail
    go_ret
    refine ⟨by rw [HV.out]; (first | rfl | (congr 2; omega)), ?_⟩
    repeat' (with_reducible first | exact Below.refl _ _ | assumption | refine Below.setCell ?_ ?_ _ | refine Below.alloc ?_ ?_ _ | refine below_drewN ?_ _ | refine Below.drew ?_)
    all_goals first | omega | (simp; done) | (simp; omega)
  · by_cases h2 : c = click
    · subst h2
      have hcc : (c == c) = true := by simp
      by_cases h3 : t ≤ at'
      · have HV := Lib.hid (show prg c f t c at' = 1000 by unfold prg; rw [if_pos (.inr ⟨rfl, h3⟩)])
        go_enter Try.func18, Try.ntmps18
        go_wp2_with fail
        go_ret
        refine ⟨by rw [HV.out]; (first | rfl | (congr 2; omega)), ?_⟩
        repeat' (with_reducible first | exact Below.refl _ _ | assumption | refine Below.setCell ?_ ?_ _ | refine Below.alloc ?_ ?_ _ | refine below_drewN ?_ _ | refine Below.drew ?_)
        all_goals first | omega | (simp; done) | (simp; omega)
      · by_cases h4 : at' ≤ f
        · have HV := Lib.hid (show prg c f t c at' = 0 by unfold prg; rw [if_neg (by omega), if_neg (by omega)])
          go_enter Try.func18, Try.ntmps18
          go_wp2_with fail
          go_ret
          refine ⟨by rw [HV.out]; (first | rfl | (congr 2; omega)), ?_⟩
          repeat' (with_reducible first | exact Below.refl _ _ | assumption | refine Below.setCell ?_ ?_ _ | refine Below.alloc ?_ ?_ _ | refine below_drewN ?_ _ | refine Below.drew ?_)
          all_goals first | omega | (simp; done) | (simp; omega)
        · have HV := Lib.hid (show prg c f t c at' = 1000 * (at' - f) / (t - f) by unfold prg; rw [if_neg (by omega), if_pos (by omega)])
          have hq := prg_bd (c := c) (f := f) (t := t) (click := c) (at' := at') ht.1
          rw [HV.out] at hq
          go_enter Try.func18, Try.ntmps18
          go_wp2_with fail
          go_ret
          refine ⟨by rw [HV.out]; (first | rfl | (congr 2; omega)), ?_⟩
          repeat' (with_reducible first | exact Below.refl _ _ | assumption | refine Below.setCell ?_ ?_ _ | refine Below.alloc ?_ ?_ _ | refine below_drewN ?_ _ | refine Below.drew ?_)
          all_goals first | omega | (simp; done) | (simp; omega)
    · have hcc : (c == click) = false := by simpa using h2
      have HV := Lib.hid (show prg c f t click at' = 0 by unfold prg; rw [if_neg (by omega), if_neg (by omega)])
      have h5 : click < c := by omega
      clear h2
      go_enter Try.func18, Try.ntmps18
      go_wp2_with fail
      go_ret
      refine ⟨by rw [HV.out]; (first | rfl | (congr 2; omega)), ?_⟩
      repeat' (with_reducible first | exact Below.refl _ _ | assumption | refine Below.setCell ?_ ?_ _ | refine Below.alloc ?_ ?_ _ | refine below_drewN ?_ _ | refine Below.drew ?_)
      all_goals first | omega | (simp; done) | (simp; omega)
theorem part_any (x p : Int) (w : World) (hx : -1048576 ≤ x ∧ x ≤ 1048576) (hp : 0 ≤ p ∧ p ≤ 1000) :
    Calls Try.prog 19 #[.int .i64 x, .int .i64 p] w fun e w' => e = .returned (.int .i64 ((x * p).tdiv 1000)) ∧ w = w' := by
  have a1 : x * p ≤ 1048576000 := by
    have h1 := Int.mul_le_mul_of_nonneg_right hx.2 hp.1
    have h2 := Int.mul_le_mul_of_nonneg_left hp.2 (show (0 : Int) ≤ 1048576 by omega)
    omega
  have a2 : -1048576000 ≤ x * p := by
    have h1 := Int.mul_le_mul_of_nonneg_right hx.1 hp.1
    have h2 := Int.mul_le_mul_of_nonneg_left hp.2 (show (0 : Int) ≤ 1048576 by omega)
    omega
  have a3 : -1048576000 ≤ (x * p).tdiv 1000 ∧ (x * p).tdiv 1000 ≤ 1048576000 := by
    obtain ⟨q, hq⟩ : ∃ q, q = x * p := ⟨_, rfl⟩
    rw [← hq] at a1 a2 ⊢
    rcases Int.lt_or_le q 0 with h0 | h0
    · have e : q.tdiv 1000 = -((-q).tdiv 1000) := by rw [Int.neg_tdiv]; omega
      rw [e, Int.tdiv_eq_ediv_of_nonneg (by omega)]
      omega
    · rw [Int.tdiv_eq_ediv_of_nonneg h0]; omega
  go_enter Try.func19, Try.ntmps19
  go_wp2_with fail
  go_ret
  exact ⟨rfl, rfl⟩
theorem one_any (s0 s1 s2 s3 I : Int) (q : Nat) (w : World) (hq : w.cell? ⟨q, 0, none⟩ = some (.int .i64 I)) :
    Calls Try.prog 17 #[.agg #[.int .i64 s0, .int .i64 s1, .int .i64 s2, .int .i64 s3], .pointer (some ⟨q, 0, none⟩)] w fun e w' => e = .returned (.bool (s0 == I)) ∧ Below w.heap.size w w' := by
  have zq := lt_of_cell hq
  simp only at zq
  go_enter Try.func17, Try.ntmps17
  go_wp2_with fail
  go_ret
  exact ⟨rfl, (Below.refl _ _).alloc (Nat.le_refl _) _⟩
theorem two_any (s0 s1 s2 s3 r0 r1 r2 r3 : Int) (w : World) (hs : 0 ≤ s0 ∧ s0 ≤ 1073741824) (hr : 0 ≤ r0 ∧ r0 ≤ 1073741824) :
    Calls Try.prog 21 #[.agg #[.int .i64 s0, .int .i64 s1, .int .i64 s2, .int .i64 s3], .agg #[.int .i64 r0, .int .i64 r1, .int .i64 r2, .int .i64 r3]] w fun e w' => e = .returned (.int .i64 (s0 - r0)) ∧ ∃ o1 o2, w' = (w.alloc o1).alloc o2 := by
  go_enter Try.func21, Try.ntmps21
  go_wp2_with fail
  go_ret
  exact ⟨rfl, _, _, rfl⟩
/-- the cells of a row of states -/
def SV (l : Nat → Int) (V : Nat → Nat → Int) (k j : Nat) : Value := if j = 0 then .int .i64 (l k) else .int .i64 (V k j)
set_option maxHeartbeats 2000000 in
theorem index_found (n : Nat) (l : Nat → Int) (V : Nat → Nat → Int) (a : Option Addr) (c q k0 : Nat) (I : Int) (w : World) (ha : CellsF w a n 4 (SV l V)) (hn : n ≤ 1000) (hq : w.cell? ⟨q, 0, none⟩ = some (.int .i64 I)) (hk : k0 < n) (he : l k0 = I) (hne : ∀ j, j < k0 → l j ≠ I) :
    Calls Try.prog 16 #[.slice a n c, .func (.func 17) #[] #[.pointer (some ⟨q, 0, none⟩)]] w fun e w' => e = .returned (.int .i64 (k0 : Int)) ∧ Below w.heap.size w w' := by
  have HA := Lib.hid ha
  have HE := Lib.hid he
  have HN := Lib.hid hne
  have HQ := Lib.hid hq
  clear ha he hne hq
  go_enter Try.func16, Try.ntmps16
  go_wp2_with fail
  go_loopw [8] (fun iv wr => ∃ i : Nat, iv = .int .i64 i ∧ i ≤ k0 ∧ Below w.heap.size w wr) (fun iv _ => n - (intOf iv).toNat)
  case atStart => exact ⟨0, rfl, Nat.zero_le _, Below.refl _ _⟩
  case round =>
    obtain ⟨i, rfl, hi, hbel⟩ := hrel
    have HB := Lib.hid hbel
    obtain ⟨b, off, rfl, hcell⟩ := HA.out.below (Nat.le_refl _) hbel (by omega)
    have d0 : wr.cell? ⟨b, off + i * 4 + 0, none⟩ = some (.int .i64 (l i)) := hcell i (by omega) 0 (by omega)
    have d1 : wr.cell? ⟨b, off + i * 4 + 1, none⟩ = some (.int .i64 (V i 1)) := hcell i (by omega) 1 (by omega)
    have d2 : wr.cell? ⟨b, off + i * 4 + 2, none⟩ = some (.int .i64 (V i 2)) := hcell i (by omega) 2 (by omega)
    have d3 : wr.cell? ⟨b, off + i * 4 + 3, none⟩ = some (.int .i64 (V i 3)) := hcell i (by omega) 3 (by omega)
    rw [Nat.add_zero] at d0
    have zb := lt_of_cell d0
    simp only at zb
    have hqc : wr.cell? ⟨q, 0, none⟩ = some (.int .i64 I) := cell_below HQ.out (Nat.le_refl _) hbel
    obtain ⟨X, hX⟩ : ∃ y, y = l i := ⟨_, rfl⟩
    rw [← hX] at d0
    have hin : i < n := by omega
    clear hcell hbel
    by_cases hik : i = k0
    · subst hik
      obtain rfl : X = I := hX.trans HE.out
      have hxx : (X == X) = true := by simp
      clear hX
      go_wp2_with fail
      refine (one_any _ _ _ _ X q wr hqc).mono ?_
      rintro e w2 ⟨rfl, hb2⟩
      rw [hxx]
      have HB2 := Lib.hid (HB.out.trans (hb2.mono HB.out.size))
      clear hb2
      go_wp2_with fail
      go_ret
      exact ⟨rfl, HB2.out⟩
    · have hxi : (X == I) = false := by
        have := HN.out i (by omega)
        rw [← hX] at this
        simpa using this
      have hlt : i < k0 := by omega
      clear hX hik
      go_wp2_with fail
      refine (one_any _ _ _ _ I q wr hqc).mono ?_
      rintro e w2 ⟨rfl, hb2⟩
      rw [hxi]
      have HB2 := Lib.hid (HB.out.trans (hb2.mono HB.out.size))
      clear hb2
      go_wp2_with fail
      go_roundw
      case rel => exact ⟨i + 1, by go_num, by omega, HB2.out⟩
      case measure => simp [intOf]; omega
set_option maxHeartbeats 2000000 in
theorem index_none (n : Nat) (l : Nat → Int) (V : Nat → Nat → Int) (a : Option Addr) (c q : Nat) (I : Int) (w : World) (ha : CellsF w a n 4 (SV l V)) (hn : n ≤ 1000) (hq : w.cell? ⟨q, 0, none⟩ = some (.int .i64 I)) (hne : ∀ j, j < n → l j ≠ I) :
    Calls Try.prog 16 #[.slice a n c, .func (.func 17) #[] #[.pointer (some ⟨q, 0, none⟩)]] w fun e w' => e = .returned (.int .i64 (-1)) ∧ Below w.heap.size w w' := by
  have HA := Lib.hid ha
  have HN := Lib.hid hne
  have HQ := Lib.hid hq
  clear ha hne hq
  go_enter Try.func16, Try.ntmps16
  go_wp2_with fail
  go_loopw [8] (fun iv wr => ∃ i : Nat, iv = .int .i64 i ∧ i ≤ n ∧ Below w.heap.size w wr) (fun iv _ => n - (intOf iv).toNat)
  case atStart => exact ⟨0, rfl, Nat.zero_le _, Below.refl _ _⟩
  case round =>
    obtain ⟨i, rfl, hi, hbel⟩ := hrel
    have HB := Lib.hid hbel
    by_cases hin : i < n
    · obtain ⟨b, off, rfl, hcell⟩ := HA.out.below (Nat.le_refl _) hbel (by omega)
      have d0 : wr.cell? ⟨b, off + i * 4 + 0, none⟩ = some (.int .i64 (l i)) := hcell i (by omega) 0 (by omega)
      have d1 : wr.cell? ⟨b, off + i * 4 + 1, none⟩ = some (.int .i64 (V i 1)) := hcell i (by omega) 1 (by omega)
      have d2 : wr.cell? ⟨b, off + i * 4 + 2, none⟩ = some (.int .i64 (V i 2)) := hcell i (by omega) 2 (by omega)
      have d3 : wr.cell? ⟨b, off + i * 4 + 3, none⟩ = some (.int .i64 (V i 3)) := hcell i (by omega) 3 (by omega)
      rw [Nat.add_zero] at d0
      have zb := lt_of_cell d0
      simp only at zb
      have hqc : wr.cell? ⟨q, 0, none⟩ = some (.int .i64 I) := cell_below HQ.out (Nat.le_refl _) hbel
      obtain ⟨X, hX⟩ : ∃ y, y = l i := ⟨_, rfl⟩
      rw [← hX] at d0
      have hxi : (X == I) = false := by
        have := HN.out i (by omega)
        rw [← hX] at this
        simpa using this
      clear hcell hbel hX
      go_wp2_with fail
      refine (one_any _ _ _ _ I q wr hqc).mono ?_
      rintro e w2 ⟨rfl, hb2⟩
      rw [hxi]
      have HB2 := Lib.hid (HB.out.trans (hb2.mono HB.out.size))
      clear hb2
      go_wp2_with fail
      go_roundw
      case rel => exact ⟨i + 1, by go_num, by omega, HB2.out⟩
      case measure => simp [intOf]; omega
    · obtain rfl : n = i := by omega
      go_wp2_with fail
      go_ret
      exact ⟨rfl, HB.out⟩
end Go.Proofs.Ythddbinbeinafaa.TL
