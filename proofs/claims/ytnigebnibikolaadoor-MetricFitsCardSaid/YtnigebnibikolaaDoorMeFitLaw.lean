
/-
  MetricFits: the walk.
-/
import Derived.Test.YtnigebnibikolaaDoorMeFit
import Derived.Test.YtnigebnibikolaaDoorTakes
namespace Go.Proofs.YtnigebnibikolaaDoor.ME
open Go.RowKit Go.Law Go.Law.Me Ref
set_option linter.unusedVariables false
set_option linter.unusedSimpArgs false
set_option maxRecDepth 100000
set_option maxHeartbeats 4000000 in
theorem fits_look (n : Nat) (t : Nat → Int) (a : Option Addr) (c : Nat) (k : Look) (width : Int) (w : World) (hT : Tabs w) (ha : IntsF w a n t) (hnc : n ≤ c) (hcm : c ≤ maxLen) (he : lookE k = 2) :
    Calls Tryd.prog 6 #[.slice a n c, lookV k, .int .i64 width] w fun e w' => e = .returned (.bool true) ∧ Below w.heap.size w w' := by
  have hf := fun a c w1 (h1 : Tabs w1) (h2 : IntsF w1 a (min n 1000) t) => fit_look (min n 1000) t a c k width w1 he
  have hle := fun w1 => lookError_any k w1
  rw [he] at hle
  have HF := Lib.hid hf
  have HLE := Lib.hid hle
  clear hf hle he
  obtain ⟨m, hm⟩ : ∃ m, m = min n 1000 := ⟨_, rfl⟩
  have hmn : m ≤ n := by omega
  have hm1 : m ≤ 1000 := by omega
  have HM := Lib.hid hm
  have HT := Lib.hid hT
  have HA := Lib.hid (IntsF.take ha hmn)
  have HNA := Lib.hid ha
  unfold maxLen at hcm
  clear hm ha hT
  obtain ⟨s, bold, fixed⟩ := k
  unfold lookV at *
  have hK0 := Kept.start w s bold fixed 37
  go_enter Tryd.func6, Tryd.ntmps6
  go_wp2_with fail
  refine (metrics_any _ (HT.out.below (Nat.le_refl _) hK0.1)).mono ?_
  rintro e w1 ⟨rfl, hb1⟩
  have hK1 := hK0.more hb1
  clear hb1 hK0
  obtain ⟨hbel, hz, x0, x1, x2⟩ := id hK1
  go_upto_if 17 with fail
  go_cut [0] from 13 (fun tv wx => tv = .slice a m c ∧ wx = w1)
  case first =>
    by_cases h : 1000 < n
    · obtain ⟨b0, off0, rfl, _⟩ := HNA.out (by omega)
      have hmm := Lib.hid (show m = 1000 by have := HM.out; omega)
      have hc3 : (1000 : Int) ≤ (c : Int) := by omega
      go_wp2_with fail
      go_meet
      exact ⟨by rw [hmm.out], rfl⟩
    · have hmm := Lib.hid (show m = n by have := HM.out; omega)
      go_wp2_with fail
      go_meet
      exact ⟨by rw [hmm.out], rfl⟩
  case rest =>
  obtain ⟨rfl, hwc⟩ := hcut
  rw [hwc]
  clear hwc
  rw [← HM.out] at HF
  go_wp2_with fail
  refine (HF.out a c _ (HT.out.below (Nat.le_refl _) hK1.1) (HA.out.below (Nat.le_refl _) hK1.1)).mono ?_
  rintro e w2 ⟨rfl, hb2⟩
  have hK2 := hK1.more hb2
  clear hb2 hK1 hbel hz x0 x1 x2
  obtain ⟨hbel, hz, x0, x1, x2⟩ := id hK2
  go_wp2_with fail
  refine (HLE.out _).mono ?_
  rintro e w3 ⟨rfl, hb3⟩
  have hK3 := hK2.more hb3
  clear hb3 hK2 hbel hz x0 x1 x2
  obtain ⟨hbel, hz, x0, x1, x2⟩ := id hK3
  go_wp2_with fail
  go_ret
  exact ⟨rfl, hK3.1⟩
set_option maxHeartbeats 4000000 in
theorem fits_text (n : Nat) (t : Nat → Int) (a : Option Addr) (c : Nat) (k : Look) (width : Int) (w : World) (hT : Tabs w) (ha : IntsF w a n t) (hnc : n ≤ c) (hcm : c ≤ maxLen) (he : lookE k = 0) (ht : charsE (min n 1000) t = 2) :
    Calls Tryd.prog 6 #[.slice a n c, lookV k, .int .i64 width] w fun e w' => e = .returned (.bool true) ∧ Below w.heap.size w w' := by
  have hf := fun a c w1 (h1 : Tabs w1) (h2 : IntsF w1 a (min n 1000) t) => fit_text (min n 1000) t a c k width w1 h2 (by omega) he ht
  have hle := fun w1 => lookError_any k w1
  have hce := fun a c w1 h1 => charsError_any (min n 1000) t a c w1 h1 (by omega)
  rw [he] at hle
  rw [ht] at hce
  have HF := Lib.hid hf
  have HLE := Lib.hid hle
  have HCE := Lib.hid hce
  clear hf hle he hce ht
  obtain ⟨m, hm⟩ : ∃ m, m = min n 1000 := ⟨_, rfl⟩
  have hmn : m ≤ n := by omega
  have hm1 : m ≤ 1000 := by omega
  have HM := Lib.hid hm
  have HT := Lib.hid hT
  have HA := Lib.hid (IntsF.take ha hmn)
  have HNA := Lib.hid ha
  unfold maxLen at hcm
  clear hm ha hT
  obtain ⟨s, bold, fixed⟩ := k
  unfold lookV at *
  have hK0 := Kept.start w s bold fixed 37
  go_enter Tryd.func6, Tryd.ntmps6
  go_wp2_with fail
  refine (metrics_any _ (HT.out.below (Nat.le_refl _) hK0.1)).mono ?_
  rintro e w1 ⟨rfl, hb1⟩
  have hK1 := hK0.more hb1
  clear hb1 hK0
  obtain ⟨hbel, hz, x0, x1, x2⟩ := id hK1
  go_upto_if 17 with fail
  go_cut [0] from 13 (fun tv wx => tv = .slice a m c ∧ wx = w1)
  case first =>
    by_cases h : 1000 < n
    · obtain ⟨b0, off0, rfl, _⟩ := HNA.out (by omega)
      have hmm := Lib.hid (show m = 1000 by have := HM.out; omega)
      have hc3 : (1000 : Int) ≤ (c : Int) := by omega
      go_wp2_with fail
      go_meet
      exact ⟨by rw [hmm.out], rfl⟩
    · have hmm := Lib.hid (show m = n by have := HM.out; omega)
      go_wp2_with fail
      go_meet
      exact ⟨by rw [hmm.out], rfl⟩
  case rest =>
  obtain ⟨rfl, hwc⟩ := hcut
  rw [hwc]
  clear hwc
  rw [← HM.out] at HF
  go_wp2_with fail
  refine (HF.out a c _ (HT.out.below (Nat.le_refl _) hK1.1) (HA.out.below (Nat.le_refl _) hK1.1)).mono ?_
  rintro e w2 ⟨rfl, hb2⟩
  have hK2 := hK1.more hb2
  clear hb2 hK1 hbel hz x0 x1 x2
  obtain ⟨hbel, hz, x0, x1, x2⟩ := id hK2
  go_wp2_with fail
  refine (HLE.out _).mono ?_
  rintro e w3 ⟨rfl, hb3⟩
  have hK3 := hK2.more hb3
  clear hb3 hK2 hbel hz x0 x1 x2
  obtain ⟨hbel, hz, x0, x1, x2⟩ := id hK3
  rw [← HM.out] at HCE
  go_wp2_with fail
  refine (HCE.out a c _ (HA.out.below (Nat.le_refl _) hK3.1)).mono ?_
  rintro e w4 ⟨rfl, rfl⟩
  go_wp2_with fail
  go_ret
  exact ⟨rfl, hK3.1⟩
set_option maxHeartbeats 4000000 in
theorem fits_range (n : Nat) (t : Nat → Int) (a : Option Addr) (c : Nat) (k : Look) (width : Int) (w : World) (hT : Tabs w) (ha : IntsF w a n t) (hnc : n ≤ c) (hcm : c ≤ maxLen) (he : lookE k = 0) (ht : charsE (min n 1000) t = 0) (hw : ¬ (0 ≤ width ∧ width ≤ 1073741824)) :
    Calls Tryd.prog 6 #[.slice a n c, lookV k, .int .i64 width] w fun e w' => e = .returned (.bool true) ∧ Below w.heap.size w w' := by
  have hf := fun a c w1 (h1 : Tabs w1) (h2 : IntsF w1 a (min n 1000) t) => fit_range (min n 1000) t a c k width w1 h2 (by omega) he ht hw
  have hle := fun w1 => lookError_any k w1
  have hce := fun a c w1 h1 => charsError_any (min n 1000) t a c w1 h1 (by omega)
  have i1 : inR width (0, 1073741824) = false := inR_false.2 hw
  rw [he] at hle
  rw [ht] at hce
  have HF := Lib.hid hf
  have HLE := Lib.hid hle
  have HCE := Lib.hid hce
  clear hf hle he hce ht hw
  obtain ⟨m, hm⟩ : ∃ m, m = min n 1000 := ⟨_, rfl⟩
  have hmn : m ≤ n := by omega
  have hm1 : m ≤ 1000 := by omega
  have HM := Lib.hid hm
  have HT := Lib.hid hT
  have HA := Lib.hid (IntsF.take ha hmn)
  have HNA := Lib.hid ha
  unfold maxLen at hcm
  clear hm ha hT
  obtain ⟨s, bold, fixed⟩ := k
  unfold lookV at *
  have hK0 := Kept.start w s bold fixed 37
  go_enter Tryd.func6, Tryd.ntmps6
  go_wp2_with fail
  refine (metrics_any _ (HT.out.below (Nat.le_refl _) hK0.1)).mono ?_
  rintro e w1 ⟨rfl, hb1⟩
  have hK1 := hK0.more hb1
  clear hb1 hK0
  obtain ⟨hbel, hz, x0, x1, x2⟩ := id hK1
  go_upto_if 17 with fail
  go_cut [0] from 13 (fun tv wx => tv = .slice a m c ∧ wx = w1)
  case first =>
    by_cases h : 1000 < n
    · obtain ⟨b0, off0, rfl, _⟩ := HNA.out (by omega)
      have hmm := Lib.hid (show m = 1000 by have := HM.out; omega)
      have hc3 : (1000 : Int) ≤ (c : Int) := by omega
      go_wp2_with fail
      go_meet
      exact ⟨by rw [hmm.out], rfl⟩
    · have hmm := Lib.hid (show m = n by have := HM.out; omega)
      go_wp2_with fail
      go_meet
      exact ⟨by rw [hmm.out], rfl⟩
  case rest =>
  obtain ⟨rfl, hwc⟩ := hcut
  rw [hwc]
  clear hwc
  rw [← HM.out] at HF
  go_wp2_with fail
  refine (HF.out a c _ (HT.out.below (Nat.le_refl _) hK1.1) (HA.out.below (Nat.le_refl _) hK1.1)).mono ?_
  rintro e w2 ⟨rfl, hb2⟩
  have hK2 := hK1.more hb2
  clear hb2 hK1 hbel hz x0 x1 x2
  obtain ⟨hbel, hz, x0, x1, x2⟩ := id hK2
  go_wp2_with fail
  refine (HLE.out _).mono ?_
  rintro e w3 ⟨rfl, hb3⟩
  have hK3 := hK2.more hb3
  clear hb3 hK2 hbel hz x0 x1 x2
  obtain ⟨hbel, hz, x0, x1, x2⟩ := id hK3
  rw [← HM.out] at HCE
  go_wp2_with fail
  refine (HCE.out a c _ (HA.out.below (Nat.le_refl _) hK3.1)).mono ?_
  rintro e w4 ⟨rfl, rfl⟩
  go_wp2_with (go_at_call 27; refine (in_r _ _ _ _).mono ?_; rw [i1]; rintro e w5 ⟨rfl, rfl⟩)
  go_ret
  exact ⟨rfl, hK3.1⟩
set_option maxHeartbeats 8000000 in
theorem fits_ok (n : Nat) (t : Nat → Int) (a : Option Addr) (c : Nat) (k : Look) (width : Int) (w : World) (hT : Tabs w) (ha : IntsF w a n t) (hnc : n ≤ c) (hcm : c ≤ maxLen) (he : lookE k = 0) (ht : charsE (min n 1000) t = 0) (hw : 0 ≤ width ∧ width ≤ 1073741824) :
    Calls Tryd.prog 6 #[.slice a n c, lookV k, .int .i64 width] w fun e w' => e = .returned (.bool true) ∧ Below w.heap.size w w' := by
  have hk := lookE_zero he
  have hf := fun a c w1 (h1 : Tabs w1) (h2 : IntsF w1 a (min n 1000) t) => fit_any (min n 1000) t a c k width w1 h1 h2 (by omega) he ht hw
  have hle := fun w1 => lookError_any k w1
  have hce := fun a c w1 h1 => charsError_any (min n 1000) t a c w1 h1 (by omega)
  have htw := fun q a c w1 h1 (hq : q ≤ 1000) => textWidth_any q t a c k w1 h1 hq hk
  have i1 : inR width (0, 1073741824) = true := inR_true.2 hw
  rw [he] at hle
  rw [ht] at hce
  have HWB := Lib.hid (fun q => wid_bd (t := t) hk q)
  have HF := Lib.hid hf
  have HLE := Lib.hid hle
  have HCE := Lib.hid hce
  have HTW := Lib.hid htw
  obtain ⟨hw1, hw2⟩ := hw
  clear hf hle he hce ht htw hk
  obtain ⟨m, hm⟩ : ∃ m, m = min n 1000 := ⟨_, rfl⟩
  have hmn : m ≤ n := by omega
  have hm1 : m ≤ 1000 := by omega
  have HM := Lib.hid hm
  have HT := Lib.hid hT
  have HA := Lib.hid (IntsF.take ha hmn)
  have HNA := Lib.hid ha
  unfold maxLen at hcm
  clear hm ha hT
  obtain ⟨s, bold, fixed⟩ := k
  unfold lookV at *
  have hK0 := Kept.start w s bold fixed 37
  go_enter Tryd.func6, Tryd.ntmps6
  go_wp2_with fail
  refine (metrics_any _ (HT.out.below (Nat.le_refl _) hK0.1)).mono ?_
  rintro e w1 ⟨rfl, hb1⟩
  have hK1 := hK0.more hb1
  clear hb1 hK0
  obtain ⟨hbel, hz, x0, x1, x2⟩ := id hK1
  go_upto_if 17 with fail
  go_cut [0] from 13 (fun tv wx => tv = .slice a m c ∧ wx = w1)
  case first =>
    by_cases h : 1000 < n
    · obtain ⟨b0, off0, rfl, _⟩ := HNA.out (by omega)
      have hmm := Lib.hid (show m = 1000 by have := HM.out; omega)
      have hc3 : (1000 : Int) ≤ (c : Int) := by omega
      go_wp2_with fail
      go_meet
      exact ⟨by rw [hmm.out], rfl⟩
    · have hmm := Lib.hid (show m = n by have := HM.out; omega)
      go_wp2_with fail
      go_meet
      exact ⟨by rw [hmm.out], rfl⟩
  case rest =>
  obtain ⟨rfl, hwc⟩ := hcut
  rw [hwc]
  clear hwc
  rw [← HM.out] at HF
  go_wp2_with fail
  refine (HF.out a c _ (HT.out.below (Nat.le_refl _) hK1.1) (HA.out.below (Nat.le_refl _) hK1.1)).mono ?_
  rintro e w2 ⟨rfl, hb2⟩
  have hK2 := hK1.more hb2
  clear hb2 hK1 hbel hz x0 x1 x2
  obtain ⟨hbel, hz, x0, x1, x2⟩ := id hK2
  go_wp2_with fail
  refine (HLE.out _).mono ?_
  rintro e w3 ⟨rfl, hb3⟩
  have hK3 := hK2.more hb3
  clear hb3 hK2 hbel hz x0 x1 x2
  obtain ⟨hbel, hz, x0, x1, x2⟩ := id hK3
  rw [← HM.out] at HCE
  go_wp2_with fail
  refine (HCE.out a c _ (HA.out.below (Nat.le_refl _) hK3.1)).mono ?_
  rintro e w4 ⟨rfl, rfl⟩
  go_wp2_with (go_at_call 27; refine (in_r _ _ _ _).mono ?_; rw [i1]; rintro e w5 ⟨rfl, rfl⟩)
  clear i1
  go_loopw [11, 56] (fun bv iv wr => ∃ i : Nat, iv = .int .i64 i ∧ bv = .int .i64 ((fitN t ⟨s, bold, fixed⟩ m width i : Nat) : Int) ∧ i ≤ m ∧ Kept w s bold fixed wr) (fun _ iv _ => m - (intOf iv).toNat)
  case atStart => exact ⟨0, rfl, rfl, by omega, hK3⟩
  case round =>
    clear hK3 hbel hz x0 x1 x2
    obtain ⟨i, rfl, rfl, hi, hK⟩ := hrel
    obtain ⟨hbel, hz, x0, x1, x2⟩ := id hK
    have hNle := fitN_le t ⟨s, bold, fixed⟩ m width i
    have HNX := Lib.hid (show fitN t ⟨s, bold, fixed⟩ m width (i + 1) = if i + 1 < m ∧ markC (t (i + 1)) = true then fitN t ⟨s, bold, fixed⟩ m width i else if wid t ⟨s, bold, fixed⟩ (i + 1) ≤ width then i + 1 else fitN t ⟨s, bold, fixed⟩ m width i from rfl)
    have hfin := fitN_le t ⟨s, bold, fixed⟩ m width m
    obtain ⟨N, hN⟩ : ∃ N, N = fitN t ⟨s, bold, fixed⟩ m width i := ⟨_, rfl⟩
    rw [← hN] at HNX hNle ⊢
    have HN := Lib.hid hN
    clear hN
    have HKW := Lib.hid hK
    have HBEL := Lib.hid hbel
    by_cases him : i < m
    · obtain ⟨b, off, rfl, hcell⟩ := (HA.out.below (Nat.le_refl _) hK.1) (by omega)
      have HCE := Lib.hid hcell
      have htw := fun w1 (hb : Below w.heap.size w w1) => HTW.out (i + 1) (some ⟨b, off, none⟩) c w1 (IntsF.take (HA.out.below (Nat.le_refl _) hb) (by omega)) (by omega)
      obtain ⟨W2, hW2⟩ : ∃ W2, W2 = wid t ⟨s, bold, fixed⟩ (i + 1) := ⟨_, rfl⟩
      rw [← hW2] at htw HNX
      have HTX := Lib.hid htw
      have hc1 : (i : Int) + 1 ≤ (c : Int) := by omega
      have hc0 : (0 : Int) ≤ (i : Int) + 1 := by omega
      have hiw : IntKind.i64.wrap ((i : Int) + 1) = (i : Int) + 1 := IntWalk.i64_in _ ⟨by omega, by omega⟩
      have lbb : b < wr.heap.size := lt_of_cell (hcell i him)
      clear hcell hW2 htw hK hbel
      by_cases h1 : i + 1 < m
      · have d2 := HCE.out (i + 1) h1
        have hc2 : (i : Int) + 1 < (m : Int) := by omega
        have hmk := fun w1 => isMark_any (t (i + 1)) w1
        obtain ⟨M, hM⟩ : ∃ M, M = markC (t (i + 1)) := ⟨_, rfl⟩
        rw [← hM] at hmk HNX
        have HMK := Lib.hid hmk
        have e0 : ((i : Int) + 1 == (m : Int)) = false := by simp; omega
        have e0n : (i + 1 == m) = false := by simp; omega
        have e0p : ¬ i + 1 = m := by omega
        have e0q : ¬ (i : Int) + 1 = (m : Int) := by omega
        clear hM hmk
        cases M
        · go_wp2_with fail
          go_region_held3 (fun w' => w'.cell? ⟨b, off + (i + 1), none⟩ = some (.int .i64 (t (i + 1))) ∧ w'.cell? ⟨w.heap.size, 0, none⟩ = some (.int .i64 s) ∧ w'.cell? ⟨w.heap.size, 1, none⟩ = some (.bool bold) ∧ w'.cell? ⟨w.heap.size, 2, none⟩ = some (.bool fixed))
            (first | go_keep | (refine ⟨?_, ?_, ?_, ?_⟩ <;> (rw [hb6.cell (by simp; omega)]; assumption)))
            (first | (go_at_call 14; refine (HMK.out _).mono ?_; rintro e w5 ⟨rfl, rfl⟩) | (go_at_call 23; refine (HTX.out wr.drew HBEL.out.drew).mono ?_; rintro e w6 ⟨rfl, hb6⟩))
          have hK6 := HKW.out.drew.more hb6
          clear hb6
          by_cases hle : W2 ≤ width
          · have HE := Lib.hid (show fitN t ⟨s, bold, fixed⟩ m width (i + 1) = i + 1 by rw [HNX.out, if_neg (by simp), if_pos hle])
            go_wp2_with fail
            go_roundw
            case rel => exact ⟨i + 1, by go_num, by rw [HE.out]; go_num, by omega, hK6⟩
            case measure => simp [intOf]; omega
          · have HE := Lib.hid (show fitN t ⟨s, bold, fixed⟩ m width (i + 1) = N by rw [HNX.out, if_neg (by simp), if_neg hle])
            go_wp2_with fail
            go_roundw
            case rel => exact ⟨i + 1, by go_num, by rw [HE.out], by omega, hK6⟩
            case measure => simp [intOf]; omega
        · have HE := Lib.hid (show fitN t ⟨s, bold, fixed⟩ m width (i + 1) = N by rw [HNX.out, if_pos ⟨h1, rfl⟩])
          go_wp2_with fail
          go_quiet ((go_at_call 14; exact quiet_call (HMK.out _)))
          go_wp2_with fail
          go_roundw
          case rel => exact ⟨i + 1, by go_num, by rw [HE.out], by omega, HKW.out.drewN _⟩
          case measure => simp [intOf]; omega
      · have HMI := Lib.hid (show m = i + 1 by omega)
        have e0 : ((i : Int) + 1 == (m : Int)) = true := by rw [HMI.out]; simp
        go_wp2_with fail
        clear HCE HTW HF HLE
        refine wp_region_held_drew (S := (fun w' => w'.cell? ⟨w.heap.size, 0, none⟩ = some (.int .i64 s) ∧ w'.cell? ⟨w.heap.size, 1, none⟩ = some (.bool bold) ∧ w'.cell? ⟨w.heap.size, 2, none⟩ = some (.bool fixed))) (by kernel_rfl) (by exact ⟨x0, x1, x2⟩) ?_
        intro hHeld
        refine takeD (i := 0) (oi := { dst := some 59, op := _, type := _, pos := _, after := _, guard := _ }) (d := some 59) (v := ?vv59) rfl rfl (by kernel_rfl) (by kernel_rfl) (by kernel_rfl) ?dd59 (by rfl) ?yy59 hHeld ?rr59
        case dd59 => exact fun _ _ _ h => h
        case yy59 => (intro wx hSw; obtain ⟨y0, y1, y2⟩ := hSw; go_simp; try (with_reducible rfl))
        try simp only [Act.put, List.setIfInBounds_toArray, List.set_cons_zero, List.set_cons_succ]
        refine takeD (i := 1) (oi := { dst := some 60, op := _, type := _, pos := _, after := _, guard := _ }) (d := some 60) (v := ?vv60) rfl rfl (by kernel_rfl) (by kernel_rfl) (by kernel_rfl) ?dd60 (by rfl) ?yy60 hHeld ?rr60
        case dd60 => exact fun _ _ _ h => h
        case yy60 => (intro wx hSw; obtain ⟨y0, y1, y2⟩ := hSw; go_simp; try (with_reducible rfl))
        try simp only [Act.put, List.setIfInBounds_toArray, List.set_cons_zero, List.set_cons_succ]
        refine takeD (i := 2) (oi := { dst := some 61, op := _, type := _, pos := _, after := _, guard := _ }) (d := some 61) (v := ?vv61) rfl rfl (by kernel_rfl) (by kernel_rfl) (by kernel_rfl) ?dd61 (by rfl) ?yy61 hHeld ?rr61
        case dd61 => exact fun _ _ _ h => h
        case yy61 => (intro wx hSw; obtain ⟨y0, y1, y2⟩ := hSw; go_simp; try (with_reducible rfl))
        try simp only [Act.put, List.setIfInBounds_toArray, List.set_cons_zero, List.set_cons_succ]
        refine takeD (i := 3) (oi := { dst := some 62, op := _, type := _, pos := _, after := _, guard := _ }) (d := some 62) (v := ?vv62) rfl rfl (by kernel_rfl) (by kernel_rfl) (by kernel_rfl) ?dd62 (by rfl) ?yy62 hHeld ?rr62
        case dd62 => exact fun _ _ _ h => h
        case yy62 => (intro wx hSw; obtain ⟨y0, y1, y2⟩ := hSw; go_simp; try (with_reducible rfl))
        try simp only [Act.put, List.setIfInBounds_toArray, List.set_cons_zero, List.set_cons_succ]
        refine takeD (i := 4) (oi := { dst := some 63, op := _, type := _, pos := _, after := _, guard := _ }) (d := some 63) (v := ?vv63) rfl rfl (by kernel_rfl) (by kernel_rfl) (by kernel_rfl) ?dd63 (by rfl) ?yy63 hHeld ?rr63
        case dd63 => exact fun _ _ _ h => h
        case yy63 => (intro wx hSw; obtain ⟨y0, y1, y2⟩ := hSw; go_simp; try (with_reducible rfl))
        try simp only [Act.put, List.setIfInBounds_toArray, List.set_cons_zero, List.set_cons_succ]
        refine takeD (i := 5) (oi := { dst := some 64, op := _, type := _, pos := _, after := _, guard := _ }) (d := some 64) (v := ?vv64) rfl rfl (by kernel_rfl) (by kernel_rfl) (by kernel_rfl) ?dd64 (by rfl) ?yy64 hHeld ?rr64
        case dd64 => exact fun _ _ _ h => h
        case yy64 => (intro wx hSw; obtain ⟨y0, y1, y2⟩ := hSw; go_simp; try (with_reducible rfl))
        try simp only [Act.put, List.setIfInBounds_toArray, List.set_cons_zero, List.set_cons_succ]
        refine skipD (i := 6) (oi := { dst := some 65, op := _, type := _, pos := _, after := _, guard := _ }) (d := some 65) rfl rfl (by kernel_rfl) (by kernel_rfl) (by kernel_rfl) (fun _ _ _ h => h) (by rfl) hHeld ?_
        try simp only [Act.put, List.setIfInBounds_toArray, List.set_cons_zero, List.set_cons_succ]
        refine skipD (i := 7) (oi := { dst := some 66, op := _, type := _, pos := _, after := _, guard := _ }) (d := some 66) rfl rfl (by kernel_rfl) (by kernel_rfl) (by kernel_rfl) (fun _ _ _ h => h) (by rfl) hHeld ?_
        try simp only [Act.put, List.setIfInBounds_toArray, List.set_cons_zero, List.set_cons_succ]
        refine skipD (i := 8) (oi := { dst := some 67, op := _, type := _, pos := _, after := _, guard := _ }) (d := some 67) rfl rfl (by kernel_rfl) (by kernel_rfl) (by kernel_rfl) (fun _ _ _ h => h) (by rfl) hHeld ?_
        try simp only [Act.put, List.setIfInBounds_toArray, List.set_cons_zero, List.set_cons_succ]
        refine skipD (i := 9) (oi := { dst := some 68, op := _, type := _, pos := _, after := _, guard := _ }) (d := some 68) rfl rfl (by kernel_rfl) (by kernel_rfl) (by kernel_rfl) (fun _ _ _ h => h) (by rfl) hHeld ?_
        try simp only [Act.put, List.setIfInBounds_toArray, List.set_cons_zero, List.set_cons_succ]
        refine skipD (i := 10) (oi := { dst := some 69, op := _, type := _, pos := _, after := _, guard := _ }) (d := some 69) rfl rfl (by kernel_rfl) (by kernel_rfl) (by kernel_rfl) (fun _ _ _ h => h) (by rfl) hHeld ?_
        try simp only [Act.put, List.setIfInBounds_toArray, List.set_cons_zero, List.set_cons_succ]
        refine skipD (i := 11) (oi := { dst := some 70, op := _, type := _, pos := _, after := _, guard := _ }) (d := some 70) rfl rfl (by kernel_rfl) (by kernel_rfl) (by kernel_rfl) (fun _ _ _ h => h) (by rfl) hHeld ?_
        try simp only [Act.put, List.setIfInBounds_toArray, List.set_cons_zero, List.set_cons_succ]
        refine skipD (i := 12) (oi := { dst := some 71, op := _, type := _, pos := _, after := _, guard := _ }) (d := some 71) rfl rfl (by kernel_rfl) (by kernel_rfl) (by kernel_rfl) (fun _ _ _ h => h) (by rfl) hHeld ?_
        try simp only [Act.put, List.setIfInBounds_toArray, List.set_cons_zero, List.set_cons_succ]
        refine takeD (i := 13) (oi := { dst := some 72, op := _, type := _, pos := _, after := _, guard := _ }) (d := some 72) (v := ?vv72) rfl rfl (by kernel_rfl) (by kernel_rfl) (by kernel_rfl) ?dd72 (by rfl) ?yy72 hHeld ?rr72
        case dd72 => exact fun _ _ _ h => h
        case yy72 => (intro wx hSw; obtain ⟨y0, y1, y2⟩ := hSw; go_simp; try (with_reducible rfl))
        try simp only [Act.put, List.setIfInBounds_toArray, List.set_cons_zero, List.set_cons_succ]
        refine takeD (i := 14) (oi := { dst := some 73, op := _, type := _, pos := _, after := _, guard := _ }) (d := some 73) (v := ?vv73) rfl rfl (by kernel_rfl) (by kernel_rfl) (by kernel_rfl) ?dd73 (by rfl) ?yy73 hHeld ?rr73
        case dd73 => exact fun _ _ _ h => h
        case yy73 => (intro wx hSw; obtain ⟨y0, y1, y2⟩ := hSw; go_simp; try (with_reducible rfl))
        try simp only [Act.put, List.setIfInBounds_toArray, List.set_cons_zero, List.set_cons_succ]
        refine takeD (i := 15) (oi := { dst := some 74, op := _, type := _, pos := _, after := _, guard := _ }) (d := some 74) (v := ?vv74) rfl rfl (by kernel_rfl) (by kernel_rfl) (by kernel_rfl) ?dd74 (by rfl) ?yy74 hHeld ?rr74
        case dd74 => exact fun _ _ _ h => h
        case yy74 => (intro wx hSw; obtain ⟨y0, y1, y2⟩ := hSw; go_simp; try (with_reducible rfl))
        try simp only [Act.put, List.setIfInBounds_toArray, List.set_cons_zero, List.set_cons_succ]
        refine takeD (i := 16) (oi := { dst := some 75, op := _, type := _, pos := _, after := _, guard := _ }) (d := some 75) (v := ?vv75) rfl rfl (by kernel_rfl) (by kernel_rfl) (by kernel_rfl) ?dd75 (by rfl) ?yy75 hHeld ?rr75
        case dd75 => exact fun _ _ _ h => h
        case yy75 => (intro wx hSw; obtain ⟨y0, y1, y2⟩ := hSw; go_simp; try (with_reducible rfl))
        try simp only [Act.put, List.setIfInBounds_toArray, List.set_cons_zero, List.set_cons_succ]
        refine takeD (i := 17) (oi := { dst := some 76, op := _, type := _, pos := _, after := _, guard := _ }) (d := some 76) (v := ?vv76) rfl rfl (by kernel_rfl) (by kernel_rfl) (by kernel_rfl) ?dd76 (by rfl) ?yy76 hHeld ?rr76
        case dd76 => exact fun _ _ _ h => h
        case yy76 => (intro wx hSw; obtain ⟨y0, y1, y2⟩ := hSw; go_simp; try (with_reducible rfl))
        try simp only [Act.put, List.setIfInBounds_toArray, List.set_cons_zero, List.set_cons_succ]
        refine takeD (i := 18) (oi := { dst := some 77, op := _, type := _, pos := _, after := _, guard := _ }) (d := some 77) (v := ?vv77) rfl rfl (by kernel_rfl) (by kernel_rfl) (by kernel_rfl) ?dd77 (by rfl) ?yy77 hHeld ?rr77
        case dd77 => exact fun _ _ _ h => h
        case yy77 => (intro wx hSw; obtain ⟨y0, y1, y2⟩ := hSw; go_simp; try (with_reducible rfl))
        try simp only [Act.put, List.setIfInBounds_toArray, List.set_cons_zero, List.set_cons_succ]
        refine takeD (i := 19) (oi := { dst := some 78, op := _, type := _, pos := _, after := _, guard := _ }) (d := some 78) (v := ?vv78) rfl rfl (by kernel_rfl) (by kernel_rfl) (by kernel_rfl) ?dd78 (by rfl) ?yy78 hHeld ?rr78
        case dd78 => exact fun _ _ _ h => h
        case yy78 => (intro wx hSw; obtain ⟨y0, y1, y2⟩ := hSw; go_simp; try (with_reducible rfl))
        try simp only [Act.put, List.setIfInBounds_toArray, List.set_cons_zero, List.set_cons_succ]
        refine takeD (i := 21) (oi := { dst := some 80, op := _, type := _, pos := _, after := _, guard := _ }) (d := some 80) (v := ?vv80) rfl rfl (by kernel_rfl) (by kernel_rfl) (by kernel_rfl) ?dd80 (by rfl) ?yy80 hHeld ?rr80
        case dd80 => exact fun _ _ _ h => h
        case yy80 => (intro wx hSw; obtain ⟨y0, y1, y2⟩ := hSw; go_simp; try (with_reducible rfl))
        try simp only [Act.put, List.setIfInBounds_toArray, List.set_cons_zero, List.set_cons_succ]
        refine wpAnyH_ready (rs := [20]) (by kernel_rfl) (by simp) ?_
        refine AllReadyH.cons (o := { dst := some 79, op := _, type := _, pos := _, after := _, guard := _ }) rfl (fun K hK => ?_) AllReadyH.nil
        go_simp
        go_at_call 23
        refine (HTX.out wr.drew HBEL.out.drew).mono ?_
        rintro e w6 ⟨rfl, hb6⟩
        refine hK.out _ _ ?_ (fun hHeld2 => ?_)
        · refine ⟨?_, ?_, ?_⟩ <;> (rw [hb6.cell (by simp; omega)]; assumption)
        clear hK K
        try simp only [Act.put, List.setIfInBounds_toArray, List.set_cons_zero, List.set_cons_succ]
        refine takeD (i := 22) (oi := { dst := some 81, op := _, type := _, pos := _, after := _, guard := _ }) (d := some 81) (v := ?vv81) rfl rfl (by kernel_rfl) (by kernel_rfl) (by kernel_rfl) ?dd81 (by rfl) ?yy81 hHeld2 ?rr81
        case dd81 => exact fun _ _ _ h => h
        case yy81 => (intro wx hSw; obtain ⟨y0, y1, y2⟩ := hSw; go_simp; try (with_reducible rfl))
        try simp only [Act.put, List.setIfInBounds_toArray, List.set_cons_zero, List.set_cons_succ]
        refine takeD (i := 23) (oi := { dst := some 82, op := _, type := _, pos := _, after := _, guard := _ }) (d := some 82) (v := ?vv82) rfl rfl (by kernel_rfl) (by kernel_rfl) (by kernel_rfl) ?dd82 (by rfl) ?yy82 hHeld2 ?rr82
        case dd82 => exact fun _ _ _ h => h
        case yy82 => (intro wx hSw; obtain ⟨y0, y1, y2⟩ := hSw; go_simp; try (with_reducible rfl))
        try simp only [Act.put, List.setIfInBounds_toArray, List.set_cons_zero, List.set_cons_succ]
        refine wpAnyH_done (by kernel_rfl) ?_ _
        have hK6 := HKW.out.drew.more hb6
        clear hb6
        by_cases hle : W2 ≤ width
        · have HE := Lib.hid (show fitN t ⟨s, bold, fixed⟩ m width (i + 1) = i + 1 by rw [HNX.out, if_neg (fun h => h1 h.1), if_pos hle])
          go_wp2_with fail
          go_roundw
          case rel => exact ⟨i + 1, by go_num, by rw [HE.out]; go_num, by omega, hK6⟩
          case measure => simp [intOf]; omega
        · have HE := Lib.hid (show fitN t ⟨s, bold, fixed⟩ m width (i + 1) = N by rw [HNX.out, if_neg (fun h => h1 h.1), if_neg hle])
          go_wp2_with fail
          go_roundw
          case rel => exact ⟨i + 1, by go_num, by rw [HE.out], by omega, hK6⟩
          case measure => simp [intOf]; omega
    · obtain rfl : m = i := by omega
      have hNN := HN.out
      rw [← hNN]
      have htw := fun w1 (hb : Below w.heap.size w w1) => HTW.out N a c w1 (IntsF.take (HA.out.below (Nat.le_refl _) hb) (by omega)) (by omega)
      obtain ⟨V, hV⟩ : ∃ V, V = wid t ⟨s, bold, fixed⟩ N := ⟨_, rfl⟩
      rw [← hV] at htw ⊢
      have HTX := Lib.hid htw
      have hc1 : (N : Int) ≤ (c : Int) := by omega
      have hc2 : N ≤ c := by omega
      have e0 : ((N : Int) == (N : Int)) = true := by simp
      have e1 : (V == V) = true := by simp
      clear hV htw hK hbel hNN hfin
      go_wp2_with fail
      refine wp_region_held_drew (S := (fun w' => w'.cell? ⟨w.heap.size, 0, none⟩ = some (.int .i64 s) ∧ w'.cell? ⟨w.heap.size, 1, none⟩ = some (.bool bold) ∧ w'.cell? ⟨w.heap.size, 2, none⟩ = some (.bool fixed))) (by kernel_rfl) (by exact ⟨x0, x1, x2⟩) ?_
      intro hHeld
      refine takeD (i := 0) (oi := { dst := some 86, op := _, type := _, pos := _, after := _, guard := _ }) (d := some 86) (v := ?vv86) rfl rfl (by kernel_rfl) (by kernel_rfl) (by kernel_rfl) ?dd86 (by rfl) ?yy86 hHeld ?rr86
      case dd86 => exact fun _ _ _ h => h
      case yy86 => (intro wx hSw; obtain ⟨y0, y1, y2⟩ := hSw; go_simp; try (with_reducible rfl))
      try simp only [Act.put, List.setIfInBounds_toArray, List.set_cons_zero, List.set_cons_succ]
      refine takeD (i := 1) (oi := { dst := some 87, op := _, type := _, pos := _, after := _, guard := _ }) (d := some 87) (v := ?vv87) rfl rfl (by kernel_rfl) (by kernel_rfl) (by kernel_rfl) ?dd87 (by rfl) ?yy87 hHeld ?rr87
      case dd87 => exact fun _ _ _ h => h
      case yy87 => (intro wx hSw; obtain ⟨y0, y1, y2⟩ := hSw; go_simp; try (with_reducible rfl))
      try simp only [Act.put, List.setIfInBounds_toArray, List.set_cons_zero, List.set_cons_succ]
      refine takeD (i := 2) (oi := { dst := some 88, op := _, type := _, pos := _, after := _, guard := _ }) (d := some 88) (v := ?vv88) rfl rfl (by kernel_rfl) (by kernel_rfl) (by kernel_rfl) ?dd88 (by rfl) ?yy88 hHeld ?rr88
      case dd88 => exact fun _ _ _ h => h
      case yy88 => (intro wx hSw; obtain ⟨y0, y1, y2⟩ := hSw; go_simp; try (with_reducible rfl))
      try simp only [Act.put, List.setIfInBounds_toArray, List.set_cons_zero, List.set_cons_succ]
      refine takeD (i := 3) (oi := { dst := some 89, op := _, type := _, pos := _, after := _, guard := _ }) (d := some 89) (v := ?vv89) rfl rfl (by kernel_rfl) (by kernel_rfl) (by kernel_rfl) ?dd89 (by rfl) ?yy89 hHeld ?rr89
      case dd89 => exact fun _ _ _ h => h
      case yy89 => (intro wx hSw; obtain ⟨y0, y1, y2⟩ := hSw; go_simp; try (with_reducible rfl))
      try simp only [Act.put, List.setIfInBounds_toArray, List.set_cons_zero, List.set_cons_succ]
      refine takeD (i := 4) (oi := { dst := some 90, op := _, type := _, pos := _, after := _, guard := _ }) (d := some 90) (v := ?vv90) rfl rfl (by kernel_rfl) (by kernel_rfl) (by kernel_rfl) ?dd90 (by rfl) ?yy90 hHeld ?rr90
      case dd90 => exact fun _ _ _ h => h
      case yy90 => (intro wx hSw; obtain ⟨y0, y1, y2⟩ := hSw; go_simp; try (with_reducible rfl))
      try simp only [Act.put, List.setIfInBounds_toArray, List.set_cons_zero, List.set_cons_succ]
      refine takeD (i := 5) (oi := { dst := some 91, op := _, type := _, pos := _, after := _, guard := _ }) (d := some 91) (v := ?vv91) rfl rfl (by kernel_rfl) (by kernel_rfl) (by kernel_rfl) ?dd91 (by rfl) ?yy91 hHeld ?rr91
      case dd91 => exact fun _ _ _ h => h
      case yy91 => (intro wx hSw; obtain ⟨y0, y1, y2⟩ := hSw; go_simp; try (with_reducible rfl))
      try simp only [Act.put, List.setIfInBounds_toArray, List.set_cons_zero, List.set_cons_succ]
      refine takeD (i := 6) (oi := { dst := some 92, op := _, type := _, pos := _, after := _, guard := _ }) (d := some 92) (v := ?vv92) rfl rfl (by kernel_rfl) (by kernel_rfl) (by kernel_rfl) ?dd92 (by rfl) ?yy92 hHeld ?rr92
      case dd92 => exact fun _ _ _ h => h
      case yy92 => (intro wx hSw; obtain ⟨y0, y1, y2⟩ := hSw; go_simp; try (with_reducible rfl))
      try simp only [Act.put, List.setIfInBounds_toArray, List.set_cons_zero, List.set_cons_succ]
      refine takeD (i := 7) (oi := { dst := some 93, op := _, type := _, pos := _, after := _, guard := _ }) (d := some 93) (v := ?vv93) rfl rfl (by kernel_rfl) (by kernel_rfl) (by kernel_rfl) ?dd93 (by rfl) ?yy93 hHeld ?rr93
      case dd93 => exact fun _ _ _ h => h
      case yy93 => (intro wx hSw; obtain ⟨y0, y1, y2⟩ := hSw; go_simp; try (with_reducible rfl))
      try simp only [Act.put, List.setIfInBounds_toArray, List.set_cons_zero, List.set_cons_succ]
      refine takeD (i := 8) (oi := { dst := some 94, op := _, type := _, pos := _, after := _, guard := _ }) (d := some 94) (v := ?vv94) rfl rfl (by kernel_rfl) (by kernel_rfl) (by kernel_rfl) ?dd94 (by rfl) ?yy94 hHeld ?rr94
      case dd94 => exact fun _ _ _ h => h
      case yy94 => (intro wx hSw; obtain ⟨y0, y1, y2⟩ := hSw; go_simp; try (with_reducible rfl))
      try simp only [Act.put, List.setIfInBounds_toArray, List.set_cons_zero, List.set_cons_succ]
      refine takeD (i := 9) (oi := { dst := some 95, op := _, type := _, pos := _, after := _, guard := _ }) (d := some 95) (v := ?vv95) rfl rfl (by kernel_rfl) (by kernel_rfl) (by kernel_rfl) ?dd95 (by rfl) ?yy95 hHeld ?rr95
      case dd95 => exact fun _ _ _ h => h
      case yy95 => (intro wx hSw; obtain ⟨y0, y1, y2⟩ := hSw; go_simp; try (with_reducible rfl))
      try simp only [Act.put, List.setIfInBounds_toArray, List.set_cons_zero, List.set_cons_succ]
      refine takeD (i := 10) (oi := { dst := some 96, op := _, type := _, pos := _, after := _, guard := _ }) (d := some 96) (v := ?vv96) rfl rfl (by kernel_rfl) (by kernel_rfl) (by kernel_rfl) ?dd96 (by rfl) ?yy96 hHeld ?rr96
      case dd96 => exact fun _ _ _ h => h
      case yy96 => (intro wx hSw; obtain ⟨y0, y1, y2⟩ := hSw; go_simp; try (with_reducible rfl))
      try simp only [Act.put, List.setIfInBounds_toArray, List.set_cons_zero, List.set_cons_succ]
      refine takeD (i := 11) (oi := { dst := some 97, op := _, type := _, pos := _, after := _, guard := _ }) (d := some 97) (v := ?vv97) rfl rfl (by kernel_rfl) (by kernel_rfl) (by kernel_rfl) ?dd97 (by rfl) ?yy97 hHeld ?rr97
      case dd97 => exact fun _ _ _ h => h
      case yy97 => (intro wx hSw; obtain ⟨y0, y1, y2⟩ := hSw; go_simp; try (with_reducible rfl))
      try simp only [Act.put, List.setIfInBounds_toArray, List.set_cons_zero, List.set_cons_succ]
      refine takeD (i := 12) (oi := { dst := some 98, op := _, type := _, pos := _, after := _, guard := _ }) (d := some 98) (v := ?vv98) rfl rfl (by kernel_rfl) (by kernel_rfl) (by kernel_rfl) ?dd98 (by rfl) ?yy98 hHeld ?rr98
      case dd98 => exact fun _ _ _ h => h
      case yy98 => (intro wx hSw; obtain ⟨y0, y1, y2⟩ := hSw; go_simp; try (with_reducible rfl))
      try simp only [Act.put, List.setIfInBounds_toArray, List.set_cons_zero, List.set_cons_succ]
      refine wpAnyH_ready (rs := [13]) (by kernel_rfl) (by simp) ?_
      refine AllReadyH.cons (o := { dst := some 99, op := _, type := _, pos := _, after := _, guard := _ }) rfl (fun K hK => ?_) AllReadyH.nil
      go_simp
      go_at_call 23
      refine (HTX.out wr.drew HBEL.out.drew).mono ?_
      rintro e w6 ⟨rfl, hb6⟩
      refine hK.out _ _ ?_ (fun hHeld2 => ?_)
      · refine ⟨?_, ?_, ?_⟩ <;> (rw [hb6.cell (by simp; omega)]; assumption)
      clear hK K
      try simp only [Act.put, List.setIfInBounds_toArray, List.set_cons_zero, List.set_cons_succ]
      refine takeD (i := 14) (oi := { dst := some 100, op := _, type := _, pos := _, after := _, guard := _ }) (d := some 100) (v := ?vv100) rfl rfl (by kernel_rfl) (by kernel_rfl) (by kernel_rfl) ?dd100 (by rfl) ?yy100 hHeld2 ?rr100
      case dd100 => exact fun _ _ _ h => h
      case yy100 => (intro wx hSw; obtain ⟨y0, y1, y2⟩ := hSw; go_simp; try (with_reducible rfl))
      try simp only [Act.put, List.setIfInBounds_toArray, List.set_cons_zero, List.set_cons_succ]
      refine takeD (i := 15) (oi := { dst := some 101, op := _, type := _, pos := _, after := _, guard := _ }) (d := some 101) (v := ?vv101) rfl rfl (by kernel_rfl) (by kernel_rfl) (by kernel_rfl) ?dd101 (by rfl) ?yy101 hHeld2 ?rr101
      case dd101 => exact fun _ _ _ h => h
      case yy101 => (intro wx hSw; obtain ⟨y0, y1, y2⟩ := hSw; go_simp; try (with_reducible rfl))
      try simp only [Act.put, List.setIfInBounds_toArray, List.set_cons_zero, List.set_cons_succ]
      refine takeD (i := 16) (oi := { dst := some 6, op := _, type := _, pos := _, after := _, guard := _ }) (d := some 6) (v := ?vv102) rfl rfl (by kernel_rfl) (by kernel_rfl) (by kernel_rfl) ?dd102 (by rfl) ?yy102 hHeld2 ?rr102
      case dd102 => exact fun _ _ _ h => h
      case yy102 => (intro wx hSw; obtain ⟨y0, y1, y2⟩ := hSw; go_simp; try (with_reducible rfl))
      try simp only [Act.put, List.setIfInBounds_toArray, List.set_cons_zero, List.set_cons_succ]
      refine wpAnyH_done (by kernel_rfl) ?_ _
      have hK6 := HKW.out.drew.more hb6
      clear hb6
      go_wp2_with fail
      go_ret
      exact ⟨rfl, hK6.1⟩
theorem fits_any (n : Nat) (t : Nat → Int) (a : Option Addr) (c : Nat) (k : Look) (width : Int) (w : World) (hT : Tabs w) (ha : IntsF w a n t) (hnc : n ≤ c) (hcm : c ≤ maxLen) :
    Calls Tryd.prog 6 #[.slice a n c, lookV k, .int .i64 width] w fun e w' => e = .returned (.bool true) ∧ Below w.heap.size w w' := by
  rcases look_cases k with he | he
  · by_cases ht : okText (min n 1000) t
    · by_cases hw : 0 ≤ width ∧ width ≤ 1073741824
      · exact fits_ok n t a c k width w hT ha hnc hcm he (charsE_ok ht) hw
      · exact fits_range n t a c k width w hT ha hnc hcm he (charsE_ok ht) hw
    · exact fits_text n t a c k width w hT ha hnc hcm he (charsE_bad ht)
  · exact fits_look n t a c k width w hT ha hnc hcm he
end Go.Proofs.YtnigebnibikolaaDoor.ME
