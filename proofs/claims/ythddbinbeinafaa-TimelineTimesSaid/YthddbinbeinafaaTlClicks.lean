

/-
  Times and Clicks.
-/
import Derived.Test.YthddbinbeinafaaTlClicksP
import Derived.Test.YthddbinbeinafaaTlCheck
import Derived.StillTailTactics
import Derived.Deep.CutRange
import Derived.Deep.CutBlock
namespace Go.Proofs.Ythddbinbeinafaa.TL
open Go.RowKit Go.Law Go.Law.Tl Ref
set_option linter.unusedVariables false
set_option linter.unusedSimpArgs false
set_option maxRecDepth 100000
def TsPost (w : World) (n : Nat) (L : Nat → Eff) (e : Ending) (w' : World) : Prop := ∃ v, e = .returned (.tuple #[v, .int .i64 0]) ∧ RowI w' w.heap.size 44 3 v n (TF L) ∧ Below w.heap.size w w'
theorem timesX_ok (n : Nat) (L : Nat → Eff) (a : Option Addr) (c : Nat) (w : World) (ha : CellsF w a n 7 (fun i => (L i).V)) (hE : effsE n L = 0) :
    Calls Try.prog 11 #[.slice a n c] w (TsPost w n L) := by
  obtain ⟨hn, hok⟩ := effsE_zero hE
  have HA := Lib.hid ha
  have HE := Lib.hid hE
  have HOK := Lib.hid hok
  clear ha hE hok
  go_enter Try.func11, Try.ntmps11
  go_wp2_with fail
  refine (check_any n L a c w HA.out (by omega)).mono ?_
  rintro e w2 ⟨rfl, hb2⟩
  rw [HE.out]
  have HB2 := Lib.hid hb2
  clear hb2
  go_wp2_with fail
  refine (times_any n L a c w2 (HA.out.below (Nat.le_refl _) HB2.out) hn HOK.out).mono ?_
  rintro e w3 ⟨v, rfl, hrow, hb3⟩
  have HR := Lib.hid hrow
  have HB3 := Lib.hid hb3
  clear hrow hb3
  go_wp2_with fail
  go_ret2
  exact ⟨v, rfl, HR.out.mono HB2.out.size, HB2.out.trans (HB3.out.mono HB2.out.size)⟩
theorem timesX_bad (n : Nat) (L : Nat → Eff) (a : Option Addr) (c : Nat) (w : World) (ha : CellsF w a n 7 (fun i => (L i).V)) (hn : n ≤ 1000000000000000) (hE : effsE n L ≠ 0) :
    Calls Try.prog 11 #[.slice a n c] w fun e w' => e = .returned (.tuple #[.slice none 0 0, .int .i64 (effsE n L)]) ∧ Below w.heap.size w w' := by
  have HA := Lib.hid ha
  obtain ⟨E, hE'⟩ : ∃ E, E = effsE n L := ⟨_, rfl⟩
  rw [← hE'] at hE ⊢
  have HE := Lib.hid hE'
  have g : (E != 0) = true := by simpa using hE
  clear ha hE hE'
  go_enter Try.func11, Try.ntmps11
  go_wp2_with fail
  refine (check_any n L a c w HA.out (by omega)).mono ?_
  rintro e w2 ⟨rfl, hb2⟩
  rw [← HE.out]
  have HB2 := Lib.hid hb2
  clear hb2
  go_wp2_with fail
  go_ret2
  exact ⟨rfl, HB2.out⟩
theorem clicks_bad (n : Nat) (L : Nat → Eff) (a : Option Addr) (c : Nat) (w : World) (ha : CellsF w a n 7 (fun i => (L i).V)) (hn : n ≤ 1000000000000000) (hE : effsE n L ≠ 0) :
    Calls Try.prog 12 #[.slice a n c] w fun e w' => e = .returned (.tuple #[.slice none 0 0, .int .i64 (effsE n L)]) ∧ Below w.heap.size w w' := by
  have HA := Lib.hid ha
  obtain ⟨E, hE'⟩ : ∃ E, E = effsE n L := ⟨_, rfl⟩
  rw [← hE'] at hE ⊢
  have HE := Lib.hid hE'
  have g : (E != 0) = true := by simpa using hE
  clear ha hE hE'
  go_enter Try.func12, Try.ntmps12
  go_wp2_with fail
  refine (check_any n L a c w HA.out (by omega)).mono ?_
  rintro e w2 ⟨rfl, hb2⟩
  rw [← HE.out]
  have HB2 := Lib.hid hb2
  clear hb2
  go_wp2_with fail
  go_ret2
  exact ⟨rfl, HB2.out⟩
def lenV : Value → Nat
  | .slice _ n _ => n
  | _ => 0
def CkPost (w : World) (n : Nat) (L : Nat → Eff) (e : Ending) (w' : World) : Prop := ∃ v, e = .returned (.tuple #[v, .int .i64 0]) ∧ RowI w' w.heap.size 3 1 v (cLen L n) (endF L n) ∧ Below w.heap.size w w'
set_option maxHeartbeats 8000000 in
theorem clicks_ok (n : Nat) (L : Nat → Eff) (a : Option Addr) (c : Nat) (w : World) (ha : CellsF w a n 7 (fun i => (L i).V)) (hE : effsE n L = 0) :
    Calls Try.prog 12 #[.slice a n c] w (CkPost w n L) := by
  obtain ⟨hn, hok⟩ := effsE_zero hE
  have HA := Lib.hid ha
  have HE := Lib.hid hE
  have HOK := Lib.hid hok
  have hmax : ∀ x y : Int, (if x < y then y else x) = max x y := fun x y => by omega
  have HI := Lib.hid (info_parts (show (Try.prog.info? 3).map (fun i => (i.zero, i.size, i.bytes)) = some (some (.int .i64 0), 1, 8) by kernel_rfl))
  clear ha hE hok
  go_enter Try.func12, Try.ntmps12
  go_wp2_with fail
  refine (check_any n L a c w HA.out (by omega)).mono ?_
  rintro e w2 ⟨rfl, hb2⟩
  rw [HE.out]
  have HB2 := Lib.hid hb2
  clear hb2
  go_upto_region 5 with fail
  obtain ⟨w3, hw3⟩ : ∃ w3, w3 = w2.alloc (Obj.cells #[.int .i64 0] 3) := ⟨_, rfl⟩
  have hb3 : Below w2.heap.size w2 w3 := by rw [hw3]; exact (Below.refl _ _).alloc (Nat.le_refl _) _
  have hr3 : RowI w3 w.heap.size 3 1 (.slice (some ⟨w2.heap.size, 0, none⟩) 1 1) 1 (endF L 0) := by
    refine ⟨[.int .i64 0], ⟨rfl, .inr ⟨w2.heap.size, 1, #[.int .i64 0], rfl, HB2.out.size, by rw [hw3]; show (w2.heap.push _)[_]? = _; simp, Nat.le_refl _, by unfold maxLen; omega, rfl, rfl⟩⟩, fun i hi => ?_⟩
    obtain rfl : i = 0 := by omega
    rfl
  have HB3 := Lib.hid (HB2.out.trans (hb3.mono HB2.out.size))
  have HR3 := Lib.hid hr3
  rw [← hw3]
  clear hw3 hb3 hr3
  go_wp2_with fail
  refine (times_any n L a c w3 (HA.out.below (Nat.le_refl _) HB3.out) hn HOK.out).mono ?_
  rintro e w4 ⟨tv, rfl, hrow, hb4⟩
  have hS4 : TcS 44 3 w.heap.size w n L tv tv (.slice (some ⟨w2.heap.size, 0, none⟩) 1 1) (cLen L 0) (endF L 0) w4 :=
    ⟨HB3.out.trans (hb4.mono HB3.out.size), Nat.le_trans HB3.out.size hb4.size, hrow.mono HB3.out.size, hrow.mono HB3.out.size, by
      have h := HR3.out.below hb4 (Nat.le_refl _)
      have e : cLen L 0 = 1 := by unfold cLen; rw [clk]; rfl
      rw [e]; exact h, by decide⟩
  obtain ⟨ta, tc, htv, _, _⟩ := RowI.slice hrow
  subst htv
  have HS4 := Lib.hid hS4
  have e40 : cLen L 0 = 1 := by unfold cLen; rw [clk]; rfl
  have HS40 := Lib.hid e40
  clear hrow hb4 hS4 HB2 HB3 HR3 e40
  go_wp2_with fail
  go_loopw [5, 17] (fun v iv wr => ∃ i : Nat, iv = .int .i64 i ∧ i ≤ n ∧ TcS 44 3 w.heap.size w n L (.slice ta n tc) (.slice ta n tc) v (cLen L i) (endF L i) wr) (fun _ iv _ => n - (intOf iv).toNat)
  case atStart => exact ⟨0, rfl, by omega, HS4.out⟩
  case round =>
    obtain ⟨i, rfl, hi, hS⟩ := hrel
    have HS := Lib.hid hS
    obtain ⟨va, vc, hv, _, _⟩ := RowI.slice hS.out
    subst hv
    clear hS HS4
    by_cases hin : i < n
    · obtain ⟨g, cap, htv, _, _, _, _, _, hgc⟩ := RowI.at HS.out.one (by omega)
      obtain ⟨rfl, rfl⟩ : ta = some ⟨g, 0, none⟩ ∧ tc = cap := by cases htv; exact ⟨rfl, rfl⟩
      have d0 := hgc (i * 3) (by omega)
      have d1 := hgc (i * 3 + 1) (by omega)
      have d2 := hgc (i * 3 + 2) (by omega)
      rw [(TF_at L i).1] at d0
      rw [(TF_at L i).2.1] at d1
      rw [(TF_at L i).2.2] at d2
      have zb := lt_of_cell d0
      simp only at zb
      have htb := tm_bd HOK.out hn hin
      obtain ⟨hc1, hc2, hc3, hc4⟩ := cLen_step L i
      have hz := fun k => endF_zero (L := L) (i := i) (k := k)
      have heb := endF_bd HOK.out hn (i := i) (k := (tmC L i).toNat) (by omega)
      have hst : endF L (i + 1) = upd (endF L i) (tmC L i).toNat (max (endF L i (tmC L i).toNat) (tmT L i)) := rfl
      obtain ⟨m, hm⟩ : ∃ m, m = (tmC L i).toNat := ⟨_, rfl⟩
      rw [← hm] at hc1 hc4 heb hst
      rw [hc4] at d0 htb
      obtain ⟨FF, hFF⟩ : ∃ y, y = tmF L i := ⟨_, rfl⟩
      obtain ⟨TT, hTT⟩ : ∃ y, y = tmT L i := ⟨_, rfl⟩
      obtain ⟨K0, hK0⟩ : ∃ y, y = cLen L i := ⟨_, rfl⟩
      rw [← hFF] at d1 htb
      rw [← hTT] at d2 htb hst
      rw [← hK0] at hc2 hc3 hz HS ⊢
      have HST := Lib.hid hst
      have HC1 := Lib.hid hc1
      have HZ := Lib.hid hz
      have hK1 : K0 ≤ m + 1 ∧ m ≤ K0 := by omega
      clear hgc hc1 hc2 hc3 hc4 hst hz hm hFF hTT hK0 htv
      obtain ⟨wz, hwz⟩ : ∃ wz, wz = wr.alloc (Obj.cells #[.int .i64 m, .int .i64 FF, .int .i64 TT] 44) := ⟨_, rfl⟩
      have qz : Blk wz wr.heap.size #[.int .i64 m, .int .i64 FF, .int .i64 TT] 44 := by rw [hwz]; exact Blk.new _ _ _
      have hSz := HS.out.under (w' := wz) (by rw [hwz]; exact (Below.refl _ _).alloc (Nat.le_refl _) _)
      go_upto_block 2 with fail
      rw [← hwz]
      obtain ⟨q, hq⟩ : ∃ q, q = wr.heap.size := ⟨_, rfl⟩
      rw [← hq] at qz ⊢
      have HSZ := Lib.hid hSz
      have HQZ := Lib.hid qz
      clear hwz hq d0 d1 d2 zb qz hSz HS
      go_cut [5, 17] from 17 to 41 (fun v iv wx => iv = .int .i64 i ∧ Blk wx q #[.int .i64 m, .int .i64 FF, .int .i64 TT] 44 ∧ TcS 44 3 w.heap.size w n L (.slice (some ⟨g, 0, none⟩) n tc) (.slice (some ⟨g, 0, none⟩) n tc) v (m + 1) (endF L i) wx)
      case first =>
        go_wp2_with fail
        go_loopw [5] (fun v wx => ∃ K : Nat, K0 ≤ K ∧ K ≤ m + 1 ∧ lenV v = K ∧ Blk wx q #[.int .i64 m, .int .i64 FF, .int .i64 TT] 44 ∧ TcS 44 3 w.heap.size w n L (.slice (some ⟨g, 0, none⟩) n tc) (.slice (some ⟨g, 0, none⟩) n tc) v K (endF L i) wx) (fun v _ => m + 1 - lenV v)
        case atStart => exact ⟨K0, Nat.le_refl _, hK1.1, rfl, HQZ.out, HSZ.out⟩
        case round =>
          obtain ⟨K, hk1, hk2, hlv, hQ, hS⟩ := hrel
          have HS := Lib.hid hS
          have HQ := Lib.hid hQ
          obtain ⟨xs, hown0, hxl, hxs⟩ := row_own hS.out
          have HX := Lib.hid hown0
          have HXL := Lib.hid hxl
          have HXS := Lib.hid hxs
          obtain ⟨av, cv, hv, _, _⟩ := RowI.slice hS.out
          subst hv
          have y0 := hQ.cell (i := 0) rfl
          have y2 := hQ.cell (i := 2) rfl
          have zq := hQ.lt
          clear hown0 hxl hxs hS hQ hlv HSZ HQZ
          by_cases hkm : K ≤ m
          · have hkm2 : (K : Int) ≤ (m : Int) := by omega
            obtain ⟨ii, hii, hz0, hz1, hz2⟩ := HI.out
            go_wp2_with (at_builtin; go_loud (refine wpList_append_own _ rfl _ _ 40 rfl (w.heap.size) 3 ii _ 1 8 Try.underlying40 hii hz0 hz1 hz2 rfl (by decide) _ _ _ rfl (RowL.alloc HX.out _) ⟨wr.heap.size, 0, none⟩ 1 1 [.int .i64 0] rfl rfl ?k1a ?k2a ?k3a ?k4a ?k5a ?_))
            try (case k1a =>
              intro j u hj
              match j, hj with
              | 0, hj => (simp at hj; subst hj; simp [Addr.add]))
            try (case k2a => first | rfl | (intro u hu; simp at hu; subst hu; rfl))
            try (case k3a => unfold maxLen; (try simp); (try omega))
            try (case k4a => (try simp); (try omega))
            try (case k5a => have := HS.out.low; (try simp); (try omega))
            intro v5 w5 hown hgrow _
            have hb := HS.out.under ((Below.refl _ _).alloc (Nat.le_refl _) (Obj.cells #[.int .i64 0] 3))
            have HS5 := Lib.hid (hb.grown hgrow (push_zero hown HXL.out HXS.out (HZ.out K (by omega))))
            have HQ5 := Lib.hid (hb.box (HQ.out.alloc _) hgrow)
            obtain ⟨av5, cv5, hv5, _, _⟩ := RowI.slice HS5.out.out
            subst hv5
            clear hown hgrow hii hz0 hz1 hz2 hb
            go_wp2_with fail
            go_roundw
            case rel => exact ⟨K + 1, by omega, by omega, rfl, HQ5.out, HS5.out⟩
            case measure => simp only [lenV]; omega
          · obtain rfl : K = m + 1 := by omega
            have hkm2 : ¬ ((m + 1 : Nat) : Int) ≤ (m : Int) := by omega
            go_wp2_with fail
            go_meet
            exact ⟨rfl, HQ.out, HS.out⟩
      case rest =>
      obtain ⟨rfl, hQ, hS⟩ := hcut
      have HS := Lib.hid hS
      obtain ⟨go, co, hv, _, _, _, _, hfz, hoc⟩ := RowI.at hS.out (by omega)
      subst hv
      have y0 := hQ.cell (i := 0) rfl
      have y2 := hQ.cell (i := 2) rfl
      have zq := hQ.lt
      have o0 := hoc m (by omega)
      have z0 := hfz m
      have zo := lt_of_cell o0
      simp only at zo
      have i1 : (m : Int) < (m : Int) + 1 := by omega
      obtain ⟨OM, hOM⟩ : ∃ y, y = endF L i m := ⟨_, rfl⟩
      rw [← hOM] at o0 heb HST
      clear hQ hS hoc hfz hOM HSZ HQZ
      go_wp2_with fail
      go_still_tail 12, (by kernel_rfl)
      change wpList _ _ _ _ _ wc.drew
      obtain ⟨we, hwe⟩ : ∃ we, we = wc.drew := ⟨_, rfl⟩
      have HSE := Lib.hid (HS.out.under (w' := we) (by rw [hwe]; exact (Below.refl _ _).drew))
      have z1 : we.frozen? ⟨go, m, none⟩ = false := by rw [hwe]; exact z0
      have o1 : we.cell? ⟨go, m, none⟩ = some (.int .i64 OM) := by rw [hwe]; exact o0
      rw [← hwe]
      clear hwe z0 o0 y0 y2 HS
      go_wp2_with fail
      go_roundw
      case rel => exact ⟨i + 1, by go_num, by omega, by rw [HST.out, HC1.out]; exact HSE.out.set (by omega) _⟩
      case measure => simp [intOf]; omega
    · obtain rfl : n = i := by omega
      go_wp2_with fail
      go_ret2
      exact ⟨_, rfl, HS.out.out, HS.out.below⟩
end Go.Proofs.Ythddbinbeinafaa.TL
