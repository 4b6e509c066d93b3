
/-
  MetricWidths: the walk.
-/
import Derived.Test.YtnigebnibikolaaDoorMeWid
namespace Go.Proofs.YtnigebnibikolaaDoor.ME
open Go.RowKit Go.Law Go.Law.Me Ref
set_option linter.unusedVariables false
set_option linter.unusedSimpArgs false
set_option maxRecDepth 100000
theorem IntsF.take {w : World} {a : Option Addr} {n m : Nat} {f : Nat → Int} (h : IntsF w a n f) (hm : m ≤ n) : IntsF w a m f := by
  intro h0
  obtain ⟨b, off, rfl, hc⟩ := h (by omega)
  exact ⟨b, off, rfl, fun i hi => hc i (by omega)⟩
theorem IntsF.one {w : World} (x : Int) (e : TypeId) : IntsF (w.alloc (.cells #[.int .i64 x] e)) (some ⟨w.heap.size, 0, none⟩) 1 (fun _ => x) :=
  fun _ => ⟨_, 0, rfl, fun i hi => by obtain rfl : i = 0 := by omega
                                      simp⟩
theorem charsE_one (x : Int) : charsE 1 (fun _ => x) = if chr x then 0 else 2 := by
  by_cases h : chr x
  · rw [if_pos h]; exact charsE_ok fun i hi => h
  · rw [if_neg h]; exact charsE_bad fun h2 => h (h2 0 (by omega))
-- the three calls and what LookError says
set_option maxHeartbeats 4000000 in
theorem widths_bad (n : Nat) (t : Nat → Int) (a : Option Addr) (c : Nat) (k : Look) (x y : Int) (w : World) (hT : Tabs w) (ha : IntsF w a n t) (hnc : n ≤ c) (hcm : c ≤ maxLen) (he : lookE k = 2) :
    Calls Tryd.prog 5 #[.slice a n c, lookV k, .int .i64 x, .int .i64 y] w fun e w' => e = .returned (.bool true) ∧ Below w.heap.size w w' := by
  have hno : ¬ lookE k = 0 := by omega
  have hw := fun a c w1 h1 h2 => widthQ_any (min n 1000) t a c k w1 h1 h2 (by omega)
  have haq := fun w1 h1 => advanceQ_any x k w1 h1
  have hkq := fun w1 => kernQ_any x y k w1
  have hle := fun w1 => lookError_any k w1
  have hch := fun w1 => check_any k w1
  rw [show widQ (min n 1000) t k = (0, 2) from if_neg fun h => hno h.1] at hw
  rw [show advQ x k = (0, 2) from if_neg fun h => hno h.1] at haq
  rw [show kernQ x y k = (0, 2) from if_neg fun h => hno h.1] at hkq
  rw [he] at hle hch
  have HW := Lib.hid hw
  have HAQ := Lib.hid haq
  have HKQ := Lib.hid hkq
  have HLE := Lib.hid hle
  have HCH := Lib.hid hch
  clear hw haq hkq hle hch he hno
  obtain ⟨m, hm⟩ : ∃ m, m = min n 1000 := ⟨_, rfl⟩
  have hmn : m ≤ n := by omega
  have hm1 : m ≤ 1000 := by omega
  have HM := Lib.hid hm
  have HT := Lib.hid hT
  have HA := Lib.hid (IntsF.take ha hmn)
  have HNA := Lib.hid ha
  unfold maxLen at hcm
  clear hm ha hT
  obtain ⟨s, bold, fixed⟩ := k
  unfold lookV at *
  have hK0 := Kept.start w s bold fixed 37
  go_enter Tryd.func5, Tryd.ntmps5
  go_wp2_with fail
  refine (metrics_any _ (HT.out.below (Nat.le_refl _) hK0.1)).mono ?_
  rintro e w1 ⟨rfl, hb1⟩
  have hK1 := hK0.more hb1
  clear hb1 hK0
  obtain ⟨hbel, hz, x0, x1, x2⟩ := id hK1
  go_upto_if 20 with fail
  go_cut [0] from 16 (fun tv wx => tv = .slice a m c ∧ wx = w1)
  case first =>
    by_cases h : 1000 < n
    · obtain ⟨b0, off0, rfl, _⟩ := HNA.out (by omega)
      have hmm := Lib.hid (show m = 1000 by have := HM.out; omega)
      have hc3 : (1000 : Int) ≤ (c : Int) := by omega
      go_wp2_with fail
      go_meet
      exact ⟨by rw [hmm.out], rfl⟩
    · have hmm := Lib.hid (show m = n by have := HM.out; omega)
      go_wp2_with fail
      go_meet
      exact ⟨by rw [hmm.out], rfl⟩
  case rest =>
  obtain ⟨rfl, hwc⟩ := hcut
  rw [hwc]
  clear hwc
  rw [← HM.out] at HW
  go_wp2_with fail
  refine (HW.out a c _ (HT.out.below (Nat.le_refl _) hK1.1) (HA.out.below (Nat.le_refl _) hK1.1)).mono ?_
  rintro e w2 ⟨rfl, hb2⟩
  have hK2 := hK1.more hb2
  clear hb2 hK1 hbel hz x0 x1 x2
  obtain ⟨hbel, hz, x0, x1, x2⟩ := id hK2
  go_wp2_with fail
  refine (HAQ.out _ (HT.out.below (Nat.le_refl _) hK2.1)).mono ?_
  rintro e w3 ⟨rfl, hb3⟩
  have hK3 := hK2.more hb3
  clear hb3 hK2 hbel hz x0 x1 x2
  obtain ⟨hbel, hz, x0, x1, x2⟩ := id hK3
  go_wp2_with fail
  refine (HKQ.out _).mono ?_
  rintro e w4 ⟨rfl, hb4⟩
  have hK4 := hK3.more hb4
  clear hb4 hK3 hbel hz x0 x1 x2
  obtain ⟨hbel, hz, x0, x1, x2⟩ := id hK4
  go_wp2_with fail
  refine (HLE.out _).mono ?_
  rintro e w5 ⟨rfl, hb5⟩
  have hK5 := hK4.more hb5
  clear hb5 hK4 hbel hz x0 x1 x2
  obtain ⟨hbel, hz, x0, x1, x2⟩ := id hK5
  go_wp2_with fail
  refine (HCH.out _).mono ?_
  rintro e w6 ⟨rfl, hb6⟩
  have hK6 := hK5.more hb6
  clear hb6 hK5 hbel hz x0 x1 x2
  go_wp2_with fail
  go_ret
  exact ⟨rfl, hK6.1⟩
set_option maxHeartbeats 8000000 in
theorem widths_ok (n : Nat) (t : Nat → Int) (a : Option Addr) (c : Nat) (k : Look) (x y : Int) (w : World) (hT : Tabs w) (ha : IntsF w a n t) (hnc : n ≤ c) (hcm : c ≤ maxLen) (he : lookE k = 0) :
    Calls Tryd.prog 5 #[.slice a n c, lookV k, .int .i64 x, .int .i64 y] w fun e w' => e = .returned (.bool true) ∧ Below w.heap.size w w' := by
  have hk := lookE_zero he
  have hw := fun a c w1 h1 h2 => widthQ_any (min n 1000) t a c k w1 h1 h2 (by omega)
  have haq := fun w1 h1 => advanceQ_any x k w1 h1
  have hkq := fun w1 => kernQ_any x y k w1
  have hle := fun w1 => lookError_any k w1
  have htw := fun a c w1 h1 => textWidth_any (min n 1000) t a c k w1 h1 (by omega) hk
  have hwd := fun w1 => wide_any x k w1 hk
  have hnr := fun w1 => nearer_any x y k w1 hk
  have hce := fun a c w1 h1 => charsError_any (min n 1000) t a c w1 h1 (by omega)
  have hwq := show widQ (min n 1000) t k = if charsE (min n 1000) t = 0 then (wid t k (min n 1000), 0) else (0, 2) by unfold widQ; simp [he]
  have haq2 := show advQ x k = if chr x then (adv x k, 0) else (0, 2) by unfold advQ; simp [he]
  have hkq2 := show kernQ x y k = if chr x ∧ chr y then (-nearer x y k, 0) else (0, 2) by unfold kernQ; simp [he]
  have hnb := nearer_bd x y hk
  obtain ⟨WD, hWD⟩ : ∃ WD, WD = wid t k (min n 1000) := ⟨_, rfl⟩
  obtain ⟨AD, hAD⟩ : ∃ AD, AD = adv x k := ⟨_, rfl⟩
  obtain ⟨NR, hNR⟩ : ∃ NR, NR = nearer x y k := ⟨_, rfl⟩
  rw [← hWD] at htw hwq
  rw [← hAD] at hwd haq2
  rw [← hNR] at hnr hkq2 hnb
  rw [he] at hle
  obtain ⟨CE, hCE⟩ : ∃ CE, CE = charsE (min n 1000) t := ⟨_, rfl⟩
  have hce2 : CE = 0 ∨ CE = 2 := by
    rw [hCE]
    by_cases h : okText (min n 1000) t
    · exact .inl (charsE_ok h)
    · exact .inr (charsE_bad h)
  rw [← hCE] at hwq hce
  obtain ⟨X1, hX1⟩ : ∃ X1, X1 = (widQ (min n 1000) t k).1 := ⟨_, rfl⟩
  obtain ⟨X2, hX2⟩ : ∃ X2, X2 = (widQ (min n 1000) t k).2 := ⟨_, rfl⟩
  obtain ⟨Y1, hY1⟩ : ∃ Y1, Y1 = (advQ x k).1 := ⟨_, rfl⟩
  obtain ⟨Y2, hY2⟩ : ∃ Y2, Y2 = (advQ x k).2 := ⟨_, rfl⟩
  obtain ⟨Z1, hZ1⟩ : ∃ Z1, Z1 = (kernQ x y k).1 := ⟨_, rfl⟩
  obtain ⟨Z2, hZ2⟩ : ∃ Z2, Z2 = (kernQ x y k).2 := ⟨_, rfl⟩
  rw [← hX1, ← hX2] at hw
  rw [← hY1, ← hY2] at haq
  rw [← hZ1, ← hZ2] at hkq
  rw [hwq] at hX1 hX2
  rw [haq2] at hY1 hY2
  rw [hkq2] at hZ1 hZ2
  have HX1 := Lib.hid hX1
  have HX2 := Lib.hid hX2
  have HY1 := Lib.hid hY1
  have HY2 := Lib.hid hY2
  have HZ1 := Lib.hid hZ1
  have HZ2 := Lib.hid hZ2
  have HW := Lib.hid hw
  have HAQ := Lib.hid haq
  have HKQ := Lib.hid hkq
  have HLE := Lib.hid hle
  have HTW := Lib.hid htw
  have HWD := Lib.hid hwd
  have HNR := Lib.hid hnr
  have HCE := Lib.hid hce
  clear hw haq hkq hle he hwq haq2 hkq2 htw hwd hnr hce hk hWD hAD hNR hCE hX1 hX2 hY1 hY2 hZ1 hZ2
  obtain ⟨m, hm⟩ : ∃ m, m = min n 1000 := ⟨_, rfl⟩
  have hmn : m ≤ n := by omega
  have hm1 : m ≤ 1000 := by omega
  have HM := Lib.hid hm
  have HT := Lib.hid hT
  have HA := Lib.hid (IntsF.take ha hmn)
  have HNA := Lib.hid ha
  unfold maxLen at hcm
  clear hm ha hT
  obtain ⟨s, bold, fixed⟩ := k
  unfold lookV at *
  have hK0 := Kept.start w s bold fixed 37
  go_enter Tryd.func5, Tryd.ntmps5
  go_wp2_with fail
  refine (metrics_any _ (HT.out.below (Nat.le_refl _) hK0.1)).mono ?_
  rintro e w1 ⟨rfl, hb1⟩
  have hK1 := hK0.more hb1
  clear hb1 hK0
  obtain ⟨hbel, hz, x0, x1, x2⟩ := id hK1
  go_upto_if 20 with fail
  go_cut [0] from 16 (fun tv wx => tv = .slice a m c ∧ wx = w1)
  case first =>
    by_cases h : 1000 < n
    · obtain ⟨b0, off0, rfl, _⟩ := HNA.out (by omega)
      have hmm := Lib.hid (show m = 1000 by have := HM.out; omega)
      have hc3 : (1000 : Int) ≤ (c : Int) := by omega
      go_wp2_with fail
      go_meet
      exact ⟨by rw [hmm.out], rfl⟩
    · have hmm := Lib.hid (show m = n by have := HM.out; omega)
      go_wp2_with fail
      go_meet
      exact ⟨by rw [hmm.out], rfl⟩
  case rest =>
  obtain ⟨rfl, hwc⟩ := hcut
  rw [hwc]
  clear hwc
  rw [← HM.out] at HW HTW HCE
  go_wp2_with fail
  refine (HW.out a c _ (HT.out.below (Nat.le_refl _) hK1.1) (HA.out.below (Nat.le_refl _) hK1.1)).mono ?_
  rintro e w2 ⟨rfl, hb2⟩
  have hK2 := hK1.more hb2
  clear hb2 hK1 hbel hz x0 x1 x2
  obtain ⟨hbel, hz, x0, x1, x2⟩ := id hK2
  go_wp2_with fail
  refine (HAQ.out _ (HT.out.below (Nat.le_refl _) hK2.1)).mono ?_
  rintro e w3 ⟨rfl, hb3⟩
  have hK3 := hK2.more hb3
  clear hb3 hK2 hbel hz x0 x1 x2
  obtain ⟨hbel, hz, x0, x1, x2⟩ := id hK3
  go_wp2_with fail
  refine (HKQ.out _).mono ?_
  rintro e w4 ⟨rfl, hb4⟩
  have hK4 := hK3.more hb4
  clear hb4 hK3 hbel hz x0 x1 x2
  obtain ⟨hbel, hz, x0, x1, x2⟩ := id hK4
  go_wp2_with fail
  refine (HLE.out _).mono ?_
  rintro e w5 ⟨rfl, hb5⟩
  have hK5 := hK4.more hb5
  clear hb5 hK4 hbel hz x0 x1 x2
  obtain ⟨hbel, hz, x0, x1, x2⟩ := id hK5
  have HCE2 := Lib.hid hce2
  clear hce2
  go_upto_region 11 with fail
  go_cut [0, 79] from 16 (fun tv bv wx => tv = .slice a m c ∧ bv = .bool (CE != 0) ∧ wx = w5)
  case first =>
    go_wp2_with fail
    refine (HCE.out a c _ (HA.out.below (Nat.le_refl _) hK5.1)).mono ?_
    rintro e w9 ⟨rfl, rfl⟩
    go_wp2_with fail
    go_meet
    exact ⟨rfl, rfl, rfl⟩
  case rest =>
  obtain ⟨rfl, rfl, rfl⟩ := hcut
  go_upto_if 79 with fail
  go_cut [0] from 16 (fun tv wx => tv = .slice a m c ∧ Kept w s bold fixed wx)
  case first =>
    rcases HCE2.out with h | h
    · have h1 := HX1.out
      have h2 := HX2.out
      rw [if_pos h] at h1 h2
      simp only at h1 h2
      clear HX1 HX2
      subst h h1 h2
      go_wp2_with fail
      refine (HTW.out a c _ (HA.out.below (Nat.le_refl _) hK5.1)).mono ?_
      rintro e w6 ⟨rfl, hb6⟩
      have hK6 := hK5.more hb6
      have e1 : (X1 != X1) = false := by simp
      clear hb6
      go_wp2_with fail
      go_meet
      exact ⟨rfl, hK6⟩
    · have h1 := HX1.out
      have h2 := HX2.out
      rw [if_neg (by omega)] at h1 h2
      simp only at h1 h2
      clear HX1 HX2
      subst h h1 h2
      go_wp2_with fail
      go_meet
      exact ⟨rfl, hK5⟩
  case rest =>
  clear hK5 hbel hz x0 x1 x2
  obtain ⟨rfl, hK6⟩ := hcut
  obtain ⟨hbel, hz, x0, x1, x2⟩ := id hK6
  obtain ⟨wa, rfl⟩ : ∃ wa, wa = wc := ⟨_, rfl⟩
  clear HX1 HX2
  go_wp2_with fail
  refine (charsError_any 1 (fun _ => x) _ _ _ (IntsF.one x _) (by omega)).mono ?_
  rintro e w9 ⟨rfl, rfl⟩
  rw [charsE_one]
  have hKa := hK6.more ((Below.refl _ _).alloc (Nat.le_refl _) (Obj.cells #[.int .i64 x] 3))
  by_cases hx : chr x
  · have h1 := HY1.out
    have h2 := HY2.out
    rw [if_pos hx] at h1 h2 ⊢
    simp only at h1 h2
    clear HY1 HY2
    subst h1 h2
    have HX := Lib.hid hx
    clear hx hK6 hbel hz x0 x1 x2
    obtain ⟨hbel, hz, x0, x1, x2⟩ := id hKa
    go_wp2_with fail
    refine (HWD.out _).mono ?_
    rintro e w7 ⟨rfl, hb7⟩
    have hK7 := hKa.more hb7
    have e1 : (Y1 != Y1) = false := by simp
    clear hb7 hKa hbel hz x0 x1 x2
    obtain ⟨hbel, hz, x0, x1, x2⟩ := id hK7
    go_wp2_with fail
    refine (charsError_any 1 (fun _ => y) _ _ _ (IntsF.one y _) (by omega)).mono ?_
    rintro e w9 ⟨rfl, rfl⟩
    rw [charsE_one]
    have hKb := hK7.more ((Below.refl _ _).alloc (Nat.le_refl _) (Obj.cells #[.int .i64 y] 3))
    by_cases hy : chr y
    · have h1 := HZ1.out
      have h2 := HZ2.out
      rw [if_pos ⟨HX.out, hy⟩] at h1 h2
      rw [if_pos hy]
      simp only at h1 h2
      have HZ := Lib.hid h1
      clear HZ1 HZ2 hy
      subst h2
      obtain ⟨hn1, hn2⟩ := hnb
      clear hK7 hbel hz x0 x1 x2
      obtain ⟨hbel, hz, x0, x1, x2⟩ := id hKb
      go_wp2_with fail
      refine (HNR.out _).mono ?_
      rintro e w8 ⟨rfl, hb8⟩
      have hK8 := hKb.more hb8
      have e2 : (Z1 == -NR) = true := by simp [HZ.out]
      clear hb8 hKb h1
      go_wp2_with fail
      go_ret
      exact ⟨by simp [e2], hK8.1⟩
    · have h2 := HZ2.out
      rw [if_neg (fun h => hy h.2)] at h2
      rw [if_neg hy]
      simp only at h2
      clear HZ1 HZ2 hy
      subst h2
      go_wp2_with fail
      go_ret
      exact ⟨rfl, hKb.1⟩
  · have h2 := HY2.out
    have h4 := HZ2.out
    rw [if_neg hx] at h2 ⊢
    rw [if_neg (fun h => hx h.1)] at h4
    simp only at h2 h4
    clear HY1 HY2 HZ1 HZ2 hx
    subst h2 h4
    go_wp2_with fail
    go_ret
    exact ⟨rfl, hKa.1⟩
end Go.Proofs.YtnigebnibikolaaDoor.ME
