

/-
  TimelineTimes: the law's walk.
-/
import Derived.Test.YthddbinbeinafaaTlSort
import Derived.Test.YthddbinbeinafaaTlTimed
import Derived.Test.YthddbinbeinafaaTlClicks
import Derived.Test.YthddbinbeinafaaTlBases
import Derived.Test.YthddbinbeinafaaSameInts
import Derived.StillTailTactics
import Derived.Deep.CutRange
import Derived.Deep.CutBlock
import Derived.BigQuiet
namespace Go.Proofs.Ythddbinbeinafaa.TL
open Go.RowKit Go.Law Go.Law.Tl Ref
set_option linter.unusedVariables false
set_option linter.unusedSimpArgs false
set_option maxRecDepth 100000
set_option maxHeartbeats 8000000 in
theorem timesLaw_bad (n : Nat) (L : Nat → Eff) (a : Option Addr) (c : Nat) (w : World) (ha : CellsF w a n 7 (fun i => (L i).V)) (hn : n ≤ 1000000000000000) (hE : effsE n L ≠ 0) :
    Calls Try.prog 4 #[.slice a n c] w fun e w' => e = .returned (.bool true) ∧ Below w.heap.size w w' := by
  have HA := Lib.hid ha
  have hn2 : n ≤ 1000000000000000000 := by omega
  obtain ⟨E, hEE⟩ : ∃ E, E = effsE n L := ⟨_, rfl⟩
  have HNE := Lib.hid hE
  rw [← hEE] at hE
  have HE := Lib.hid hEE
  have g : (E != 0) = true := by simpa using hE
  clear ha hEE
  go_enter Try.func4, Try.ntmps4
  go_wp2_with fail
  refine (timed_any w sortC).mono ?_
  rintro e w1 ⟨rfl, hb1⟩
  have HB1 := Lib.hid hb1
  have HA1 := Lib.hid (HA.out.below (Nat.le_refl _) hb1)
  clear hb1
  go_wp2_with fail
  refine (timesX_bad n L a c w1 HA1.out hn HNE.out).mono ?_
  rintro e w2 ⟨rfl, hb2⟩
  rw [← HE.out]
  have HB2 := Lib.hid (HB1.out.trans (hb2.mono HB1.out.size))
  have HA2 := Lib.hid (HA1.out.below (Nat.le_refl _) hb2)
  clear hb2
  go_wp2_with fail
  refine (clicks_bad n L a c w2 HA2.out hn HNE.out).mono ?_
  rintro e w3 ⟨rfl, hb3⟩
  rw [← HE.out]
  have HB3 := Lib.hid (HB2.out.trans (hb3.mono HB2.out.size))
  have HA3 := Lib.hid (HA2.out.below (Nat.le_refl _) hb3)
  clear hb3
  go_wp2_with fail
  refine (error_any n L a c w3 HA3.out hn2).mono ?_
  rintro e w4 ⟨rfl, hb4⟩
  rw [← HE.out]
  have HB4 := Lib.hid (HB3.out.trans (hb4.mono HB3.out.size))
  have HA4 := Lib.hid (HA3.out.below (Nat.le_refl _) hb4)
  clear hb4
  go_wp2_with fail
  refine (check_any n L a c w4 HA4.out hn2).mono ?_
  rintro e w5 ⟨rfl, hb5⟩
  rw [← HE.out]
  have HB5 := Lib.hid (HB4.out.trans (hb5.mono HB4.out.size))
  clear hb5
  go_wp2_with fail
  go_ret
  exact ⟨rfl, HB5.out⟩
theorem rowI_ints {w : World} {base : Nat} {e : TypeId} {a : Option Addr} {n c : Nat} {F : Nat → Int} (h : RowI w base e 1 (.slice a n c) n F) : IntsF w a n F := by
  intro hn
  obtain ⟨g, cap, hv, _, _, _, _, _, hc⟩ := RowI.at h (by omega)
  cases hv
  exact ⟨g, 0, rfl, fun i hi => by rw [Nat.zero_add]; exact hc i (by omega)⟩
set_option maxHeartbeats 8000000 in
theorem timesLaw_ok (n : Nat) (L : Nat → Eff) (a : Option Addr) (c : Nat) (w : World) (ha : CellsF w a n 7 (fun i => (L i).V)) (hE : effsE n L = 0) :
    Calls Try.prog 4 #[.slice a n c] w fun e w' => e = .returned (.bool true) ∧ Below w.heap.size w w' := by
  obtain ⟨hn, hok⟩ := effsE_zero hE
  have HA := Lib.hid ha
  have HE := Lib.hid hE
  have HOK := Lib.hid hok
  have hn2 : n ≤ 1000000000000000000 := by omega
  have hmax : ∀ x y : Int, (if x < y then y else x) = max x y := fun x y => by omega
  clear ha hE hok
  go_enter Try.func4, Try.ntmps4
  go_wp2_with fail
  refine (timed_any w sortC).mono ?_
  rintro e w1 ⟨rfl, hb1⟩
  have HB1 := Lib.hid hb1
  have HA1 := Lib.hid (HA.out.below (Nat.le_refl _) hb1)
  clear hb1
  go_wp2_with fail
  refine (timesX_ok n L a c w1 HA1.out HE.out).mono ?_
  rintro e w2 ⟨tv, rfl, ht2, hb2⟩
  have HB2 := Lib.hid (HB1.out.trans (hb2.mono HB1.out.size))
  have HA2 := Lib.hid (HA1.out.below (Nat.le_refl _) hb2)
  have HT2 := Lib.hid (ht2.mono HB1.out.size)
  clear hb2 ht2
  go_wp2_with fail
  refine (clicks_ok n L a c w2 HA2.out HE.out).mono ?_
  rintro e w3 ⟨cv, rfl, hc3, hb3⟩
  have HB3 := Lib.hid (HB2.out.trans (hb3.mono HB2.out.size))
  have HA3 := Lib.hid (HA2.out.below (Nat.le_refl _) hb3)
  have HT3 := Lib.hid (HT2.out.below hb3 (Nat.le_refl _))
  have HC3 := Lib.hid (hc3.mono HB2.out.size)
  clear hb3 hc3
  go_wp2_with fail
  refine (error_any n L a c w3 HA3.out hn2).mono ?_
  rintro e w4 ⟨rfl, hb4⟩
  rw [HE.out]
  have HB4 := Lib.hid (HB3.out.trans (hb4.mono HB3.out.size))
  have HA4 := Lib.hid (HA3.out.below (Nat.le_refl _) hb4)
  have HT4 := Lib.hid (HT3.out.below hb4 (Nat.le_refl _))
  have HC4 := Lib.hid (HC3.out.below hb4 (Nat.le_refl _))
  clear hb4
  go_wp2_with fail
  refine (bases_any n L a c w4 HA4.out hn HOK.out).mono ?_
  rintro e w5 ⟨bv, rfl, hr5, hb5⟩
  have HB5 := Lib.hid (HB4.out.trans (hb5.mono HB4.out.size))
  have HT5 := Lib.hid (HT4.out.below hb5 (Nat.le_refl _))
  have HC5 := Lib.hid (HC4.out.below hb5 (Nat.le_refl _))
  have HR5 := Lib.hid (hr5.mono HB4.out.size)
  obtain ⟨ta, tc, htv, _, _⟩ := RowI.slice HT5.out
  obtain ⟨ba, bc, hbv, _, _⟩ := RowI.slice HR5.out
  obtain ⟨ca, cc, hcv, _, _⟩ := RowI.slice HC5.out
  subst htv hbv hcv
  clear hb5 hr5
  have HI := Lib.hid (info_parts (show (Try.prog.info? 3).map (fun i => (i.zero, i.size, i.bytes)) = some (some (.int .i64 0), 1, 8) by kernel_rfl))
  have hrn : RowI w5 w5.heap.size 3 1 (.slice none 0 0) 0 (endF L 0) := RowI.nil _ _ _ _ _
  obtain ⟨xs, hown0, hxl, hxs⟩ := row_own hrn
  have HX := Lib.hid hown0
  have HXL := Lib.hid hxl
  have HXS := Lib.hid hxs
  have HLOW := Lib.hid (show w5.heap.size ≤ w5.heap.size from Nat.le_refl _)
  clear hown0 hxl hxs hrn
  obtain ⟨ii, hii, hz0, hz1, hz2⟩ := HI.out
  go_upto_region 12 with fail
  go_wp2_with (at_builtin; go_loud (refine wpList_append_own _ rfl _ _ 40 rfl (w5.heap.size) 3 ii _ 1 8 Try.underlying40 hii hz0 hz1 hz2 rfl (by decide) _ _ _ rfl (RowL.alloc HX.out _) ⟨w5.heap.size, 0, none⟩ 1 1 [.int .i64 0] rfl rfl ?k1a ?k2a ?k3a ?k4a ?k5a ?_))
  try (case k1a =>
    intro j u hj
    match j, hj with
    | 0, hj => (simp at hj; subst hj; simp [Addr.add]))
  try (case k2a => first | rfl | (intro u hu; simp at hu; subst hu; rfl))
  try (case k3a => unfold maxLen; (try simp); (try omega))
  try (case k4a => (try simp); (try omega))
  try (case k5a => have := HLOW.out; (try simp); (try omega))
  intro v6 w6 hown hgrow _
  have HB6 := Lib.hid (Below.grown ((Below.refl w5.heap.size w5).alloc (Nat.le_refl _) _) hgrow (by simp) (fun k hk => by simp [Value.ownBlock] at hk))
  have HR6 := Lib.hid (push_zero hown HXL.out HXS.out (show endF L 0 0 = 0 from rfl))
  clear hown hgrow hii hz0 hz1 hz2 HX HXL HXS HLOW
  go_wp2_with fail
  go_loopw [9, 10, 69] (fun v jv iv wr => ∃ i : Nat, iv = .int .i64 i ∧ i ≤ n ∧ Below w5.heap.size w5 wr ∧ RowI wr w5.heap.size 3 1 v (cLen L i) (endF L i)) (fun _ _ iv _ => n - (intOf iv).toNat)
  case atStart =>
    have e40 : cLen L 0 = 1 := by unfold cLen; rw [clk]; rfl
    exact ⟨0, rfl, by omega, HB6.out, by rw [e40]; exact HR6.out⟩
  case round =>
    obtain ⟨i, rfl, hi, hb, hr⟩ := hrel
    have HB := Lib.hid hb
    have HR := Lib.hid hr
    obtain ⟨va, vc, hv, _, _⟩ := RowI.slice hr
    subst hv
    clear hb hr HB6 HR6
    by_cases hin : i < n
    · obtain ⟨g, cap, htv, _, hgl, _, _, _, hgc⟩ := RowI.at (HT5.out.below HB.out (Nat.le_refl _)) (by omega)
      obtain ⟨rfl, rfl⟩ : ta = some ⟨g, 0, none⟩ ∧ tc = cap := by cases htv; exact ⟨rfl, rfl⟩
      obtain ⟨g2, cap2, hbv, _, hgl2, _, _, _, hgc2⟩ := RowI.at (HR5.out.below HB.out (Nat.le_refl _)) (by omega)
      obtain ⟨rfl, rfl⟩ : ba = some ⟨g2, 0, none⟩ ∧ bc = cap2 := by cases hbv; exact ⟨rfl, rfl⟩
      have d0 := hgc (i * 3) (by omega)
      have d1 := hgc (i * 3 + 1) (by omega)
      have d2 := hgc (i * 3 + 2) (by omega)
      have e0 := hgc2 (i * 3) (by omega)
      have e1 := hgc2 (i * 3 + 1) (by omega)
      have e2 := hgc2 (i * 3 + 2) (by omega)
      have hib : (0 : Int) ≤ i ∧ (i : Int) < n := by omega
      have hi1 : (i : Int) < n := hib.2
      clear hgc hgc2 htv hbv
      go_upto_region 16 with fail
      go_quiet (fail)
      have htb := tm_bd HOK.out hn hin
      obtain ⟨hc1, hc2, hc3, hc4⟩ := cLen_step L i
      have hz := fun k => endF_zero (L := L) (i := i) (k := k)
      have heb := endF_bd HOK.out hn (i := i) (k := (tmC L i).toNat) (by omega)
      have hst : endF L (i + 1) = upd (endF L i) (tmC L i).toNat (max (endF L i (tmC L i).toNat) (tmT L i)) := rfl
      rw [(TF_at L i).1] at d0
      rw [(TF_at L i).2.2] at d2
      obtain ⟨m, hm⟩ : ∃ m, m = (tmC L i).toNat := ⟨_, rfl⟩
      rw [← hm] at hc1 hc4 heb hst
      rw [hc4] at d0 htb
      obtain ⟨TT, hTT⟩ : ∃ y, y = tmT L i := ⟨_, rfl⟩
      obtain ⟨K0, hK0⟩ : ∃ y, y = cLen L i := ⟨_, rfl⟩
      rw [← hTT] at d2 htb hst
      rw [← hK0] at hc2 hc3 hz HR ⊢
      have HST := Lib.hid hst
      have HC1 := Lib.hid hc1
      have HZ := Lib.hid hz
      have hK1 : K0 ≤ m + 1 ∧ m ≤ K0 := by omega
      clear hc1 hc2 hc3 hc4 hst hz hm hTT hK0 e0 e1 e2 d1
      obtain ⟨wz, hwz⟩ : ∃ wz, wz = wr.drewN nq := ⟨_, rfl⟩
      have HBZ := Lib.hid (show Below w5.heap.size w5 wz by rw [hwz]; exact ⟨HB.out.os, HB.out.tape, HB.out.output, HB.out.size, HB.out.block⟩)
      have HRZ := Lib.hid (show RowI wz w5.heap.size 3 1 (.slice va K0 vc) K0 (endF L i) by rw [hwz]; exact HR.out.block (fun _ _ => rfl))
      have c0 : wz.cell? ⟨g, i * 3, none⟩ = some (.int .i64 m) := by rw [hwz]; exact d0
      have c2 : wz.cell? ⟨g, i * 3 + 2, none⟩ = some (.int .i64 TT) := by rw [hwz]; exact d2
      have HG := Lib.hid (And.intro c0 c2)
      have hgl5 : g < w5.heap.size := rowI_lt HT5.out (by simp [Value.ownBlock])
      rw [← hwz]
      clear hwz d0 d2 c0 c2 HB HR
      go_upto_block 2 with fail
      have hgw : ∀ wx, Below w5.heap.size w5 wx → wx.cell? ⟨g, i * 3, none⟩ = some (.int .i64 m) ∧ wx.cell? ⟨g, i * 3 + 2, none⟩ = some (.int .i64 TT) := fun wx hb => by
        have k1 := hb.cell (p := ⟨g, i * 3, none⟩) hgl5
        have k2 := hb.cell (p := ⟨g, i * 3 + 2, none⟩) hgl5
        have k3 := HBZ.out.cell (p := ⟨g, i * 3, none⟩) hgl5
        have k4 := HBZ.out.cell (p := ⟨g, i * 3 + 2, none⟩) hgl5
        exact ⟨k1.trans (k3.symm.trans HG.out.1), k2.trans (k4.symm.trans HG.out.2)⟩
      have HGW := Lib.hid hgw
      clear hgw
      go_cut [9] from 81 to 91 (fun v wx => Below w5.heap.size w5 wx ∧ RowI wx w5.heap.size 3 1 v (m + 1) (endF L i))
      case first =>
        go_wp2_with fail
        go_loopw [9] (fun v wx => ∃ K : Nat, K0 ≤ K ∧ K ≤ m + 1 ∧ lenV v = K ∧ Below w5.heap.size w5 wx ∧ RowI wx w5.heap.size 3 1 v K (endF L i)) (fun v _ => m + 1 - lenV v)
        case atStart => exact ⟨K0, Nat.le_refl _, hK1.1, rfl, HBZ.out, HRZ.out⟩
        case round =>
          obtain ⟨K, hk1, hk2, hlv, hb, hr⟩ := hrel
          have HB7 := Lib.hid hb
          obtain ⟨xs, hown0, hxl, hxs⟩ := row_own hr
          have HX := Lib.hid hown0
          have HXL := Lib.hid hxl
          have HXS := Lib.hid hxs
          have HR7 := Lib.hid hr
          obtain ⟨av, cv, hv, _, _⟩ := RowI.slice hr
          subst hv
          have y0 := (HGW.out wr hb).1
          have zg := lt_of_cell y0
          simp only at zg
          have HLOW := Lib.hid hb.size
          clear hown0 hxl hxs hb hr hlv
          by_cases hkm : K ≤ m
          · have hkm2 : (K : Int) ≤ (m : Int) := by omega
            obtain ⟨ii, hii, hz0, hz1, hz2⟩ := HI.out
            go_wp2_with (at_builtin; go_loud (refine wpList_append_own _ rfl _ _ 40 rfl (w5.heap.size) 3 ii _ 1 8 Try.underlying40 hii hz0 hz1 hz2 rfl (by decide) _ _ _ rfl (RowL.alloc HX.out _) ⟨wr.heap.size, 0, none⟩ 1 1 [.int .i64 0] rfl rfl ?k1b ?k2b ?k3b ?k4b ?k5b ?_))
            try (case k1b =>
              intro j u hj
              match j, hj with
              | 0, hj => (simp at hj; subst hj; simp [Addr.add]))
            try (case k2b => first | rfl | (intro u hu; simp at hu; subst hu; rfl))
            try (case k3b => unfold maxLen; (try simp); (try omega))
            try (case k4b => (try simp); (try omega))
            try (case k5b => have := HLOW.out; (try simp); (try omega))
            intro v6 w6 hown hgrow _
            have HB8 := Lib.hid (Below.grown (HB7.out.alloc HLOW.out _) hgrow (by have := HLOW.out; simp; omega) (fun k hk => RowL.ge HX.out k hk))
            have HR8 := Lib.hid (push_zero hown HXL.out HXS.out (HZ.out K (by omega)))
            obtain ⟨av5, cv5, hv5, _, _⟩ := RowI.slice HR8.out
            subst hv5
            clear hown hgrow hii hz0 hz1 hz2
            go_wp2_with fail
            go_roundw
            case rel => exact ⟨K + 1, by omega, by omega, rfl, HB8.out, HR8.out⟩
            case measure => simp only [lenV]; omega
          · obtain rfl : K = m + 1 := by omega
            have hkm2 : ¬ ((m + 1 : Nat) : Int) ≤ (m : Int) := by omega
            go_wp2_with fail
            go_meet
            exact ⟨HB7.out, HR7.out⟩
      case rest =>
      obtain ⟨hb, hr⟩ := hcut
      have HB9 := Lib.hid hb
      have HR9 := Lib.hid hr
      obtain ⟨go, co, hv, hgo, _, _, _, hfz, hoc⟩ := RowI.at hr (by omega)
      subst hv
      have y0 := (HGW.out wc hb).1
      have y2 := (HGW.out wc hb).2
      have zg := lt_of_cell y0
      simp only at zg
      have o0 := hoc m (by omega)
      have z0 := hfz m
      have zo := lt_of_cell o0
      simp only at zo
      have i1 : (m : Int) < (m : Int) + 1 := by omega
      have i2 : (m : Int) < ((m + 1 : Nat) : Int) := by omega
      obtain ⟨OM, hOM⟩ : ∃ y, y = endF L i m := ⟨_, rfl⟩
      rw [← hOM] at o0 heb HST
      clear hb hr hoc hfz hOM HBZ HRZ HG
      go_wp2_with fail
      go_still_tail 21, (by kernel_rfl)
      change wpList _ _ _ _ _ wc.drew
      obtain ⟨we, hwe⟩ : ∃ we, we = wc.drew := ⟨_, rfl⟩
      have HBE := Lib.hid (show Below w5.heap.size w5 we by rw [hwe]; exact HB9.out.drew)
      have HRE := Lib.hid (show RowI we w5.heap.size 3 1 (.slice (some ⟨go, 0, none⟩) (m + 1) co) (m + 1) (endF L i) by rw [hwe]; exact HR9.out.block (fun _ _ => rfl))
      have z1 : we.frozen? ⟨go, m, none⟩ = false := by rw [hwe]; exact z0
      have o1 : we.cell? ⟨go, m, none⟩ = some (.int .i64 OM) := by rw [hwe]; exact o0
      rw [← hwe]
      clear hwe z0 o0 y0 y2 HB9 HR9
      go_wp2_with fail
      go_roundw
      case rel => exact ⟨i + 1, by go_num, by omega, HBE.out.setCell hgo _, by rw [HST.out, HC1.out]; exact HRE.out.set m (by omega) _⟩
      case measure => simp [intOf]; omega
    · obtain rfl : n = i := by omega
      have hi1 := rowI_ints HR.out
      have hi2 := rowI_ints (HC5.out.below HB.out (Nat.le_refl _))
      have hcl : cLen L n ≤ 9223372036854775806 := by have := cLen_step L n; have := clk_bd (L := L) n; unfold cLen; omega
      go_wp2_with fail
      refine (same_any _ _ _ _ _ _ _ _ wr hi2 hi1 hcl hcl).mono ?_
      rintro e w9 ⟨rfl, hb9⟩
      have HB9 := Lib.hid hb9
      go_wp2_with fail
      go_ret
      refine ⟨?_, HB5.out.trans ((HB.out.trans (HB9.out.mono HB.out.size)).mono HB5.out.size)⟩
      have es : sameB (cLen L n) (cLen L n) (endF L n) (endF L n) = true := sameB_true.2 ⟨rfl, fun _ _ => rfl⟩
      simp only [es]
      rfl
theorem timesLaw_any (n : Nat) (L : Nat → Eff) (a : Option Addr) (c : Nat) (w : World) (ha : CellsF w a n 7 (fun i => (L i).V)) (hn : n ≤ 1000000000000000) :
    Calls Try.prog 4 #[.slice a n c] w fun e w' => e = .returned (.bool true) ∧ Below w.heap.size w w' := by
  by_cases hE : effsE n L = 0
  · exact timesLaw_ok n L a c w ha hE
  · exact timesLaw_bad n L a c w ha hn hE
end Go.Proofs.Ythddbinbeinafaa.TL
