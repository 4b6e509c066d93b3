
/-
  metric.Fit.
-/
import Derived.Test.YtnigebnibikolaaDoorMeWidLaw
namespace Go.Proofs.YtnigebnibikolaaDoor.ME
open Go.RowKit Go.Law Go.Law.Me Ref
set_option linter.unusedVariables false
set_option linter.unusedSimpArgs false
set_option maxRecDepth 100000
/-- the longest beginning that is not too wide, among the first -/
def fitN (t : Nat → Int) (k : Look) (m : Nat) (width : Int) : Nat → Nat
  | 0 => 0
  | i + 1 => if i + 1 < m ∧ markC (t (i + 1)) = true then fitN t k m width i else if wid t k (i + 1) ≤ width then i + 1 else fitN t k m width i
theorem fitN_le (t : Nat → Int) (k : Look) (m : Nat) (width : Int) : ∀ i : Nat, fitN t k m width i ≤ i
  | 0 => Nat.le_refl _
  | i + 1 => by
    have := fitN_le t k m width i
    simp only [fitN]
    split
    · omega
    · split <;> omega
set_option maxHeartbeats 2000000 in
theorem fit_look (n : Nat) (t : Nat → Int) (a : Option Addr) (c : Nat) (k : Look) (width : Int) (w : World) (hk : lookE k = 2) :
    Calls Tryd.prog 26 #[.slice a n c, lookV k, .int .i64 width] w fun e w' => e = .returned (.tuple #[.int .i64 0, .int .i64 0, .int .i64 2]) ∧ Below w.heap.size w w' := by
  have hc := fun w => check_any k w
  rw [hk] at hc
  have HC := Lib.hid hc
  clear hc hk
  obtain ⟨s, bold, fixed⟩ := k
  unfold lookV at *
  go_enter Tryd.func26, Tryd.ntmps26
  go_wp2_with fail
  refine (HC.out _).mono ?_
  rintro e w1 ⟨rfl, hb1⟩
  have hK1 := (Kept.start w s bold fixed 37).more hb1
  clear hb1
  go_wp2_with fail
  go_ret3
  exact ⟨rfl, hK1.1⟩
set_option maxHeartbeats 2000000 in
theorem fit_text (n : Nat) (t : Nat → Int) (a : Option Addr) (c : Nat) (k : Look) (width : Int) (w : World) (ha : IntsF w a n t) (hn : n ≤ 1000) (hk : lookE k = 0) (ht : charsE n t = 2) :
    Calls Tryd.prog 26 #[.slice a n c, lookV k, .int .i64 width] w fun e w' => e = .returned (.tuple #[.int .i64 0, .int .i64 0, .int .i64 2]) ∧ Below w.heap.size w w' := by
  have hc := fun w => check_any k w
  rw [hk] at hc
  have HC := Lib.hid hc
  have htx := fun w1 (hb : Below w.heap.size w w1) => checkText_any n t a c w1 (ha.below (Nat.le_refl _) hb) (by omega)
  rw [ht] at htx
  have HT := Lib.hid htx
  clear hc hk htx ht
  obtain ⟨s, bold, fixed⟩ := k
  unfold lookV at *
  go_enter Tryd.func26, Tryd.ntmps26
  go_wp2_with fail
  refine (HC.out _).mono ?_
  rintro e w1 ⟨rfl, hb1⟩
  have hK1 := (Kept.start w s bold fixed 37).more hb1
  clear hb1
  go_wp2_with fail
  refine (HT.out _ hK1.1).mono ?_
  rintro e w2 ⟨rfl, rfl⟩
  go_wp2_with fail
  go_ret3
  exact ⟨rfl, hK1.1⟩
set_option maxHeartbeats 2000000 in
theorem fit_range (n : Nat) (t : Nat → Int) (a : Option Addr) (c : Nat) (k : Look) (width : Int) (w : World) (ha : IntsF w a n t) (hn : n ≤ 1000) (hk : lookE k = 0) (ht : charsE n t = 0) (hw : ¬ (0 ≤ width ∧ width ≤ 1073741824)) :
    Calls Tryd.prog 26 #[.slice a n c, lookV k, .int .i64 width] w fun e w' => e = .returned (.tuple #[.int .i64 0, .int .i64 0, .int .i64 2]) ∧ Below w.heap.size w w' := by
  have hc := fun w => check_any k w
  rw [hk] at hc
  have HC := Lib.hid hc
  have htx := fun w1 (hb : Below w.heap.size w w1) => checkText_any n t a c w1 (ha.below (Nat.le_refl _) hb) (by omega)
  rw [ht] at htx
  have HT := Lib.hid htx
  have hw2 : width < 0 ∨ 1073741824 < width := by omega
  clear hc hk htx ht hw
  obtain ⟨s, bold, fixed⟩ := k
  unfold lookV at *
  go_enter Tryd.func26, Tryd.ntmps26
  go_wp2_with fail
  refine (HC.out _).mono ?_
  rintro e w1 ⟨rfl, hb1⟩
  have hK1 := (Kept.start w s bold fixed 37).more hb1
  clear hb1
  go_wp2_with fail
  refine (HT.out _ hK1.1).mono ?_
  rintro e w2 ⟨rfl, rfl⟩
  rcases hw2 with h | h
  · go_wp2_with fail
    go_ret3
    exact ⟨rfl, hK1.1⟩
  · have h2 : ¬ width < 0 := by omega
    go_wp2_with fail
    go_ret3
    exact ⟨rfl, hK1.1⟩
set_option maxHeartbeats 8000000 in
theorem fit_any (n : Nat) (t : Nat → Int) (a : Option Addr) (c : Nat) (k : Look) (width : Int) (w : World) (hT : Tabs w) (ha : IntsF w a n t) (hn : n ≤ 1000) (he : lookE k = 0) (ht : charsE n t = 0) (hw : 0 ≤ width ∧ width ≤ 1073741824) :
    Calls Tryd.prog 26 #[.slice a n c, lookV k, .int .i64 width] w fun e w' => e = .returned (.tuple #[.int .i64 ((fitN t k n width n : Nat) : Int), .int .i64 (wid t k (fitN t k n width n)), .int .i64 0]) ∧ Below w.heap.size w w' := by
  have hk := lookE_zero he
  have hc := fun w => check_any k w
  rw [he] at hc
  have HC := Lib.hid hc
  have htx := fun w1 (hb : Below w.heap.size w w1) => checkText_any n t a c w1 (ha.below (Nat.le_refl _) hb) (by omega)
  rw [ht] at htx
  have HT := Lib.hid htx
  have HTB := Lib.hid hT
  have HA := Lib.hid ha
  have HK := Lib.hid hk
  have HAD := Lib.hid (fun (x : Int) w (h : Tabs w) => advance_any x k w h hk)
  have HKE := Lib.hid (fun (x y : Int) w => kern_any x y k w hk)
  obtain ⟨hw1, hw2⟩ := hw
  clear hc hk htx ht hT ha he
  obtain ⟨s, bold, fixed⟩ := k
  unfold lookV at *
  go_enter Tryd.func26, Tryd.ntmps26
  go_wp2_with fail
  refine (HC.out _).mono ?_
  rintro e w1 ⟨rfl, hb1⟩
  have hK1 := (Kept.start w s bold fixed 37).more hb1
  clear hb1
  go_wp2_with fail
  refine (HT.out _ hK1.1).mono ?_
  rintro e w1 ⟨rfl, rfl⟩
  go_wp2_with fail
  go_loopw [11, 12, 13, 34] (fun nv bv av iv wr => ∃ i : Nat, iv = .int .i64 i ∧ nv = .int .i64 ((fitN t ⟨s, bold, fixed⟩ n width i : Nat) : Int) ∧ bv = .int .i64 (wid t ⟨s, bold, fixed⟩ (fitN t ⟨s, bold, fixed⟩ n width i)) ∧ av = .int .i64 (wid t ⟨s, bold, fixed⟩ i) ∧ i ≤ n ∧ Kept w s bold fixed wr) (fun _ _ _ iv _ => n - (intOf iv).toNat)
  case atStart => exact ⟨0, rfl, rfl, rfl, rfl, by omega, hK1⟩
  case round =>
    clear hK1
    obtain ⟨i, rfl, rfl, rfl, rfl, hi, hK⟩ := hrel
    have hNle := fitN_le t ⟨s, bold, fixed⟩ n width i
    have HNX := Lib.hid (show fitN t ⟨s, bold, fixed⟩ n width (i + 1) = if i + 1 < n ∧ markC (t (i + 1)) = true then fitN t ⟨s, bold, fixed⟩ n width i else if wid t ⟨s, bold, fixed⟩ (i + 1) ≤ width then i + 1 else fitN t ⟨s, bold, fixed⟩ n width i from rfl)
    obtain ⟨N, hN⟩ : ∃ N, N = fitN t ⟨s, bold, fixed⟩ n width i := ⟨_, rfl⟩
    rw [← hN] at HNX hNle ⊢
    have HN := Lib.hid hN
    obtain ⟨V, hV⟩ : ∃ V, V = wid t ⟨s, bold, fixed⟩ N := ⟨_, rfl⟩
    rw [← hV]
    have HVX := Lib.hid hV
    clear hN hV
    by_cases hin : i < n
    · obtain ⟨b, off, rfl, hcell⟩ := (HA.out.below (Nat.le_refl _) hK.1) (by omega)
      have d1 := hcell i hin
      obtain ⟨hbel, hz, x0, x1, x2⟩ := id hK
      have hwb := wid_bd (t := t) HK.out i
      have hwb2 := wid_bd (t := t) HK.out (i + 1)
      have hab := adv_bd (t i) HK.out
      obtain ⟨W, hW⟩ : ∃ W, W = wid t ⟨s, bold, fixed⟩ i := ⟨_, rfl⟩
      obtain ⟨A, hA⟩ : ∃ A, A = adv (t i) ⟨s, bold, fixed⟩ := ⟨_, rfl⟩
      have hst : wid t ⟨s, bold, fixed⟩ (i + 1) = W + A - (if 0 < i then nearer (t (i - 1)) (t i) ⟨s, bold, fixed⟩ else 0) := by rw [hW, hA]; rfl
      obtain ⟨W2, hW2⟩ : ∃ W2, W2 = wid t ⟨s, bold, fixed⟩ (i + 1) := ⟨_, rfl⟩
      rw [← hW] at hwb ⊢
      rw [← hW2] at hwb2 hst HNX
      rw [← hA] at hab
      have HST := Lib.hid hst
      have HAX := Lib.hid hA
      have HW2 := Lib.hid hW2
      have HKW := Lib.hid hK
      have HBEL := Lib.hid hbel
      have HCE := Lib.hid hcell
      clear hst hA hW hW2 hK hbel hcell
      go_wp2_with fail
      refine (HAD.out (t i) wr (HTB.out.below (Nat.le_refl _) HBEL.out)).mono ?_
      rintro e w2 ⟨rfl, hb2⟩
      rw [← HAX.out]
      have hK2 := HKW.out.more hb2
      have HCE2 := Lib.hid (fun q (hq : q < n) => (hb2.cell (p := ⟨b, off + q, none⟩) (lt_of_cell (HCE.out q hq))).trans (HCE.out q hq))
      clear hb2 d1 x0 x1 x2 hz
      obtain ⟨hbel2, hz2, y0, y1, y2⟩ := id hK2
      go_upto_if 45 with fail
      go_cut [13, 34] from 34 to 75 (fun av iv wx => av = .int .i64 W2 ∧ iv = .int .i64 i ∧ Kept w s bold fixed wx ∧ Below w2.heap.size w2 wx)
      case first =>
        by_cases h0 : 0 < i
        · obtain ⟨j, rfl⟩ : ∃ j, i = j + 1 := ⟨i - 1, by omega⟩
          have d0' := HCE2.out j (by omega)
          have hnb := nearer_bd (t j) (t (j + 1)) HK.out
          obtain ⟨NE, hNE⟩ : ∃ NE, NE = nearer (t j) (t (j + 1)) ⟨s, bold, fixed⟩ := ⟨_, rfl⟩
          have HS2 := Lib.hid (show W2 = W + A - NE by rw [HST.out, if_pos h0, hNE]; rfl)
          rw [← hNE] at hnb
          have HNE := Lib.hid hNE
          have HK2 := Lib.hid hK2
          have hj1 : (((j + 1 : Nat) : Int) - 1) = (j : Int) := by omega
          have w1' : IntKind.i64.wrap (((j + 1 : Nat) : Int) - 1) = (j : Int) := by rw [hj1]; exact IntWalk.i64_in _ ⟨by omega, by omega⟩
          have w2' : IntKind.i64.wrap (j : Int) = (j : Int) := IntWalk.i64_in _ ⟨by omega, by omega⟩
          have hj2 : (j : Int) < (n : Int) := by omega
          have hj3 : (0 : Int) ≤ (j : Int) := by omega
          have lb : b < w2.heap.size := lt_of_cell d0'
          clear hNE hbel2 hK2 hj1
          go_wp2_with fail
          go_region_held3 (fun w' => w'.cell? ⟨b, off + j, none⟩ = some (.int .i64 (t j)) ∧ w'.cell? ⟨w.heap.size, 0, none⟩ = some (.int .i64 s) ∧ w'.cell? ⟨w.heap.size, 1, none⟩ = some (.bool bold) ∧ w'.cell? ⟨w.heap.size, 2, none⟩ = some (.bool fixed))
            (first | go_keep | (refine ⟨?_, ?_, ?_, ?_⟩ <;> (rw [hb5.cell (by simp; omega)]; assumption)))
            (first | (go_at_call 48; refine (HKE.out (t j) (t (j + 1)) _).mono ?_; rintro e w5 ⟨rfl, hb5⟩))
          have hww : IntKind.i64.wrap (W + A + -nearer (t j) (t (j + 1)) ⟨s, bold, fixed⟩) = W2 := by rw [← HNE.out, HS2.out]; exact IntWalk.i64_in _ ⟨by omega, by omega⟩
          rw [hww]
          clear hww
          have HK5 := Lib.hid (HK2.out.drew.more hb5)
          have HB5 := Lib.hid (show Below w2.heap.size w2 w5 from ((Below.refl _ _).drew).trans hb5)
          clear hb5
          go_wp2_with fail
          go_meet
          exact ⟨rfl, by go_num, HK5.out, HB5.out⟩
        · obtain rfl : i = 0 := by omega
          have HS2 := Lib.hid (show W2 = W + A by rw [HST.out, if_neg h0]; omega)
          go_wp2_with fail
          go_meet
          exact ⟨by rw [HS2.out], by go_num, hK2, Below.refl _ _⟩
      case rest =>
        clear hK2 hbel2 hz2 y0 y1 y2
        obtain ⟨rfl, rfl, hK3, hb3⟩ := hcut
        obtain ⟨wa, rfl⟩ : ∃ wa, wa = wc := ⟨_, rfl⟩
        obtain ⟨hbel3, hz3, y0, y1, y2⟩ := id hK3
        by_cases h1 : i + 1 < n
        · have d2 := (hb3.cell (p := ⟨b, off + (i + 1), none⟩) (lt_of_cell (HCE2.out (i + 1) h1))).trans (HCE2.out (i + 1) h1)
          have hmk := fun w1 h => mark_any (t (i + 1)) w1 h
          obtain ⟨M, hM⟩ : ∃ M, M = markC (t (i + 1)) := ⟨_, rfl⟩
          rw [← hM] at hmk HNX
          have HMK := Lib.hid hmk
          have HK3 := Lib.hid hK3
          have HB3 := Lib.hid hbel3
          clear hM hmk hK3 hbel3 hb3
          go_wp2_with fail
          refine (HMK.out _ (HTB.out.below (Nat.le_refl _) HB3.out)).mono ?_
          rintro e w6 ⟨rfl, hb6⟩
          have hK6 := HK3.out.more hb6
          clear hb6
          cases M
          · by_cases hle : W2 ≤ width
            · have HE := Lib.hid (show fitN t ⟨s, bold, fixed⟩ n width (i + 1) = i + 1 by rw [HNX.out, if_neg (by simp), if_pos hle])
              go_wp2_with fail
              go_roundw
              case rel => exact ⟨i + 1, by go_num, by rw [HE.out]; go_num, by rw [HE.out, HW2.out], by rw [HW2.out], by omega, hK6⟩
              case measure => simp [intOf]; omega
            · have HE := Lib.hid (show fitN t ⟨s, bold, fixed⟩ n width (i + 1) = N by rw [HNX.out, if_neg (by simp), if_neg hle])
              go_wp2_with fail
              go_roundw
              case rel => exact ⟨i + 1, by go_num, by rw [HE.out], by rw [HE.out, HVX.out], by rw [HW2.out], by omega, hK6⟩
              case measure => simp [intOf]; omega
          · have HE := Lib.hid (show fitN t ⟨s, bold, fixed⟩ n width (i + 1) = N by rw [HNX.out, if_pos ⟨h1, rfl⟩])
            go_wp2_with fail
            go_roundw
            case rel => exact ⟨i + 1, by go_num, by rw [HE.out], by rw [HE.out, HVX.out], by rw [HW2.out], by omega, hK6⟩
            case measure => simp [intOf]; omega
        · by_cases hle : W2 ≤ width
          · have HE := Lib.hid (show fitN t ⟨s, bold, fixed⟩ n width (i + 1) = i + 1 by rw [HNX.out, if_neg (fun h => h1 h.1), if_pos hle])
            go_wp2_with fail
            go_roundw
            case rel => exact ⟨i + 1, by go_num, by rw [HE.out]; go_num, by rw [HE.out, HW2.out], by rw [HW2.out], by omega, hK3⟩
            case measure => simp [intOf]; omega
          · have HE := Lib.hid (show fitN t ⟨s, bold, fixed⟩ n width (i + 1) = N by rw [HNX.out, if_neg (fun h => h1 h.1), if_neg hle])
            go_wp2_with fail
            go_roundw
            case rel => exact ⟨i + 1, by go_num, by rw [HE.out], by rw [HE.out, HVX.out], by rw [HW2.out], by omega, hK3⟩
            case measure => simp [intOf]; omega
    · obtain rfl : n = i := by omega
      go_wp2_with fail
      go_ret3
      exact ⟨by rw [← HN.out, ← HVX.out]; rfl, hK.1⟩
end Go.Proofs.YtnigebnibikolaaDoor.ME
