
/-
  The text of a set: the walk.
-/
import Derived.Test.YtghbicajcffjhaaDoorPcShSet
namespace Go.Proofs.YtghbicajcffjhaaDoor.PC
open Go.RowKit Go.Law Go.Law.Pn
set_option linter.unusedVariables false
set_option linter.unusedSimpArgs false
set_option maxRecDepth 100000
set_option maxHeartbeats 8000000 in
theorem showSet_any (kind : Int) (nt lz : Bool) (lo hi : Int) (sn : Nat) (sa : Option Addr) (sc : Nat) (sf : Nat → Int × Int) (kn : Nat) (ka : Option Addr) (kc : Nat) (w : World) (hs : SetOk w sa sn sf) (hE : PEnv w) (hv : setE sn sf = 0) :
    Calls Tryd.prog 56 #[.agg #[.int .i64 kind, .bool nt, .bool lz, .int .i64 lo, .int .i64 hi, .slice sa sn sc, .slice ka kn kc]] w fun e w' => e = .returned (.string (setS nt sn sf)) ∧ Below w.heap.size w w' := by
  obtain ⟨hn1, hn40, hrg⟩ := setE_good hv
  obtain ⟨V, hV⟩ : ∃ V, V = setS nt sn sf := ⟨_, rfl⟩
  rw [← hV]
  obtain ⟨m, hm⟩ : ∃ m, m = nmB sn sf := ⟨_, rfl⟩
  have hmr := nmB_range sn sf
  rw [← hm] at hmr
  have HV := Lib.hid (show V = if m ≠ 0 then ⟨#[92]⟩ ++ strOfNums [if nt then m - 32 else m] else if (sn = 1 ∧ (sf 0).1 = (sf 0).2) ∧ nt = false then chrS (sf 0).1.toNat else if (sn = 1 ∧ (sf 0).1 = (sf 0).2) ∧ (sf 0).1 = 10 then ⟨#[46]⟩ else rgsS nt sf sn ++ ⟨#[93]⟩ by rw [hV, hm]; rfl)
  have HRG := Lib.hid hrg
  have HS := Lib.hid hs
  have HE := Lib.hid hE
  obtain ⟨w1, hw1⟩ : ∃ x, x = w.alloc (.cells #[.int .i64 kind, .bool nt, .bool lz, .int .i64 lo, .int .i64 hi, .slice sa sn sc, .slice ka kn kc] 25) := ⟨_, rfl⟩
  have HB1 := Lib.hid (show Below w.heap.size w w1 by rw [hw1]; exact (Below.refl _ _).alloc (Nat.le_refl _) _)
  obtain ⟨P, hP⟩ : ∃ x, x = w.heap.size := ⟨_, rfl⟩
  have HP1 := Lib.hid (show Blk w1 P #[.int .i64 kind, .bool nt, .bool lz, .int .i64 lo, .int .i64 hi, .slice sa sn sc, .slice ka kn kc] 25 by rw [hw1, hP]; exact Blk.new _ _ _)
  have HNM := Lib.hid (named_any sn sf sa sc w1 (CellsF.below hs (Nat.le_refl _) HB1.out) hn40 (hE.below HB1.out (Nat.le_refl _)))
  rw [← hm] at HNM
  have HW1 := Lib.hid hw1
  have HPE := Lib.hid hP
  clear hv hV hm hrg hs hE hw1 hP
  go_enter Tryd.func56, Tryd.ntmps56
  go_upto_region 1 with fail
  rw [← HW1.out, ← HPE.out]
  have p5 := HP1.out.cell (i := 5) rfl
  go_upto_region 2 with (go_at_call 84; refine HNM.out.mono ?_; rintro e w2 ⟨rfl, hb2⟩)
  have HB2 := Lib.hid (HB1.out.trans (hb2.mono HB1.out.size))
  have HP2 := Lib.hid (HP1.out.below hb2 HP1.out.lt)
  clear p5 hb2 HNM
  have p1 : w2.cell? ⟨P, 1, none⟩ = some (.bool nt) := HP2.out.cell (i := 1) rfl
  have p5 : w2.cell? ⟨P, 5, none⟩ = some (.slice sa sn sc) := HP2.out.cell (i := 5) rfl
  have hPl := HP2.out.lt
  by_cases hm0 : m = 0
  case neg =>
    have hm1 : (m != 0) = true := by simpa using hm0
    obtain ⟨x, hx⟩ : ∃ x, x = if nt then m - 32 else m := ⟨_, rfl⟩
    have HEE := Lib.hid (show V = ⟨#[92]⟩ ++ strOfNums [x] by rw [HV.out, if_pos hm0, hx])
    have hcv := run_convert_bytes_arg (P := Tryd.prog) (w2.alloc (.cells #[.int .u8 x] 5)) 94 5 Tryd.underlying94 Tryd.underlying5 w2.heap.size 0 1 1 [x] rfl (fun i hi => by
      rw [show i = 0 by omega]
      exact (Blk.new w2 #[.int .u8 x] 5).cell (i := 0) rfl) 9 Tryd.underlying9
    have hsz : (strOfNums [x]).size = 1 := strOfNums_size _
    obtain ⟨S, hS⟩ : ∃ S, S = strOfNums [x] := ⟨_, rfl⟩
    rw [← hS] at hcv hsz HEE
    have e1 : IntKind.u8.wrap (m - 32) = m - 32 := by rw [IntKind.wrap_u8]; omega
    clear hS
    cases nt
    · have hx2 : x = m := by rw [hx]; rfl
      clear hx
      subst hx2
      go_wp2_with fail
      go_ret
      exact ⟨by rw [HEE.out]; rfl, HB2.out.alloc HB2.out.size _⟩
    · have hx2 : x = m - 32 := by rw [hx]; rfl
      clear hx
      subst hx2
      go_wp2_with fail
      go_ret
      exact ⟨by rw [HEE.out]; rfl, HB2.out.alloc HB2.out.size _⟩
  subst hm0
  have HVN := Lib.hid (show V = if (sn = 1 ∧ (sf 0).1 = (sf 0).2) ∧ nt = false then chrS (sf 0).1.toNat else if (sn = 1 ∧ (sf 0).1 = (sf 0).2) ∧ (sf 0).1 = 10 then ⟨#[46]⟩ else rgsS nt sf sn ++ ⟨#[93]⟩ by rw [HV.out, if_neg (by simp)])
  clear HV hmr
  obtain ⟨b, off, hba, hcG⟩ := CellsF.below HS.out (Nat.le_refl _) HB2.out (by omega)
  subst hba
  have HCL := Lib.hid (show ∀ wr, Below w.heap.size w wr → ∀ i, i < sn → wr.cell? ⟨b, off + i * 2, none⟩ = some (.int .i64 (sf i).1) ∧ wr.cell? ⟨b, off + i * 2 + 1, none⟩ = some (.int .i64 (sf i).2) ∧ b < wr.heap.size from fun wr hb i hi => by
    obtain ⟨b', off', hba, hc⟩ := CellsF.below HS.out (Nat.le_refl _) hb (by omega)
    obtain ⟨rfl, rfl⟩ : b = b' ∧ off = off' := by cases hba; exact ⟨rfl, rfl⟩
    have h0 := hc i hi 0 (by omega)
    exact ⟨h0, hc i hi 1 (by omega), lt_of_cell h0⟩)
  have HCH := Lib.hid (show ∀ c : Nat, c ≤ 1114111 → ∀ w', Below w.heap.size w w' → Calls Tryd.prog 85 #[.int .i64 (c : Int)] w' fun e w'' => e = .returned (.string (chrS c)) ∧ Below w'.heap.size w' w'' from fun c hc w' hb => showChar_any c hc w' (HE.out.below hb (Nat.le_refl _)).db)
  have h00 := HCL.out w2 HB2.out 0 (by omega)
  simp only [Nat.zero_mul, Nat.add_zero] at h00
  have hr0 := HRG.out 0 (by omega)
  obtain ⟨x, hx⟩ : ∃ x, x = sf 0 := ⟨_, rfl⟩
  rw [← hx] at h00 hr0 HVN
  have HX0 := Lib.hid hx
  clear hx hcG HS
  obtain ⟨fz, tz⟩ := x
  simp only at h00 hr0 HVN
  obtain ⟨f, rfl⟩ : ∃ f : Nat, fz = f := ⟨fz.toNat, by omega⟩
  obtain ⟨t, rfl⟩ : ∃ t : Nat, tz = t := ⟨tz.toNat, by omega⟩
  obtain ⟨d0, d1, zb⟩ := h00
  obtain ⟨one, hone⟩ : ∃ o : Bool, o = decide (sn = 1 ∧ f = t) := ⟨_, rfl⟩
  go_upto_region 6 with fail
  go_cut [4] from 21 to 37 (fun v wx => v = .bool one ∧ ∃ q, wx = w2.drewN q)
  case first =>
    by_cases h1 : sn = 1
    · have e1 : ((sn : Int) == 1) = true := by simp; omega
      by_cases h2 : f = t
      · have e2 : ((f : Int) == (t : Int)) = true := by simp; omega
        have HO := Lib.hid (show one = true by rw [hone]; simp [h1, h2])
        clear h1 h2 hone
        go_quiet (fail)
        go_wp2_with fail
        go_meet
        exact ⟨by rw [HO.out], _, rfl⟩
      · have e2 : ((f : Int) == (t : Int)) = false := by simp; omega
        have HO := Lib.hid (show one = false by rw [hone]; simp [h2])
        clear h1 h2 hone
        go_quiet (fail)
        go_wp2_with fail
        go_meet
        exact ⟨by rw [HO.out], _, rfl⟩
    · have e1 : ((sn : Int) == 1) = false := by simp; omega
      have HO := Lib.hid (show one = false by rw [hone]; simp [h1])
      clear h1 hone
      go_quiet (fail)
      go_wp2_with fail
      go_meet
      exact ⟨by rw [HO.out], _, rfl⟩
  case rest =>
  obtain ⟨rfl, q, hwc⟩ := hcut
  obtain ⟨w3, rfl⟩ : ∃ x : World, x = wc := ⟨_, rfl⟩
  have HB3 := Lib.hid (show Below w.heap.size w w3 by rw [hwc]; exact below_drewN HB2.out _)
  have HP3 := Lib.hid (show Blk w3 P #[.int .i64 kind, .bool nt, .bool lz, .int .i64 lo, .int .i64 hi, .slice (some ⟨b, off, none⟩) sn sc, .slice ka kn kc] 25 by rw [hwc]; exact HP2.out.drewN _)
  have HC3 := HCL.out w3 HB3.out 0 (by omega)
  rw [← HX0.out] at HC3
  have HONE := Lib.hid hone
  clear d0 d1 p1 p5 hwc hone
  simp only [Nat.zero_mul, Nat.add_zero] at HC3
  obtain ⟨d0, d1, zb3⟩ := HC3
  have p1 : w3.cell? ⟨P, 1, none⟩ = some (.bool nt) := HP3.out.cell (i := 1) rfl
  have p5 : w3.cell? ⟨P, 5, none⟩ = some (.slice (some ⟨b, off, none⟩) sn sc) := HP3.out.cell (i := 5) rfl
  have hPl3 := HP3.out.lt
  have hsn0 : (0 : Int) < (sn : Int) := by omega
  have hsn00 : 0 < sn := by omega
  cases one
  case false =>
    have h1 := of_decide_eq_false HONE.out.symm
    have hn : ¬ (sn = 1 ∧ (f : Int) = (t : Int)) := fun h => h1 ⟨h.1, by have := h.2; omega⟩
    have HVL := Lib.hid (show V = rgsS nt sf sn ++ ⟨#[93]⟩ by rw [HVN.out, if_neg (fun h => hn h.1), if_neg (fun h => hn h.1)])
    clear h1 hn HVN
    cases nt
    · go_upto_region 14 with fail
      have p5 : w3.cell? ⟨P, 5, none⟩ = some (.slice (some ⟨b, off, none⟩) sn sc) := HP3.out.cell (i := 5) rfl
      go_wp2_with fail
      clear p1 p5 d0 d1
      go_loopw [5, 66] (fun sv iv wr => ∃ i : Nat, iv = .int .i64 i ∧ i ≤ sn ∧ sv = .string (rgsS false sf i) ∧ Below w.heap.size w wr) (fun _ iv _ => sn - (intOf iv).toNat)
      case atStart => exact ⟨0, rfl, by omega, rfl, HB3.out⟩
      case round =>
        obtain ⟨i, rfl, hi2, rfl, hbr⟩ := hrel
        have HBR := Lib.hid hbr
        have hss := rgsS_size false sf i
        obtain ⟨s, hs⟩ : ∃ s, s = rgsS false sf i := ⟨_, rfl⟩
        rw [← hs] at hss ⊢
        have HSS := Lib.hid (show rgsS false sf (i + 1) = oneS s (sf i) by rw [hs]; rfl)
        by_cases hin : i < sn
        case neg =>
          have hin2 : ¬ (i : Int) < (sn : Int) := by omega
          have HEE := Lib.hid (show V = s ++ ⟨#[93]⟩ by rw [HVL.out, hs, show i = sn by omega])
          clear hs hbr
          go_wp2_with fail
          go_ret
          exact ⟨by rw [HEE.out]; rfl, HBR.out⟩
        have hin2 : (i : Int) < (sn : Int) := by omega
        have hrg := HRG.out i hin
        have hc0 := HCL.out wr hbr i hin
        obtain ⟨x, hx⟩ : ∃ x, x = sf i := ⟨_, rfl⟩
        rw [← hx] at hrg hc0 HSS
        clear hx hs
        obtain ⟨fz, tz⟩ := x
        simp only at hrg hc0
        obtain ⟨f, rfl⟩ : ∃ f : Nat, fz = f := ⟨fz.toNat, by omega⟩
        obtain ⟨t, rfl⟩ : ∃ t : Nat, tz = t := ⟨tz.toNat, by omega⟩
        obtain ⟨k0, k1, zb⟩ := hc0
        have hsz := hbr.size
        obtain ⟨wx, hwx⟩ : ∃ wx, wx = wr.alloc (.cells #[.int .i64 (f : Int), .int .i64 (t : Int)] 119) := ⟨_, rfl⟩
        have HBX := Lib.hid (show Below w.heap.size w wx by rw [hwx]; exact hbr.alloc hsz _)
        have HX := Lib.hid (show Blk wx wr.heap.size #[.int .i64 (f : Int), .int .i64 (t : Int)] 119 by rw [hwx]; exact Blk.new _ _ _)
        have hx0 : wx.cell? ⟨wr.heap.size, 0, none⟩ = some (.int .i64 (f : Int)) := HX.out.cell (i := 0) rfl
        have HWX := Lib.hid hwx
        have HC1 := Lib.hid (HCH.out f (by omega) wx HBX.out)
        have hz1 := chrS_size f
        have hz2 := chrS_size t
        obtain ⟨cf, hcf⟩ : ∃ c, c = chrS f := ⟨_, rfl⟩
        obtain ⟨ct, hct⟩ : ∃ c, c = chrS t := ⟨_, rfl⟩
        rw [← hcf] at hz1 HC1
        rw [← hct] at hz2
        have HCT := Lib.hid (fun w' (hb : Below w.heap.size w w') => HCH.out t (by omega) w' hb)
        rw [← hct] at HCT
        have HO := Lib.hid (show oneS s ((f : Int), (t : Int)) = if (f : Int) < t then (if (f : Int) + 1 < t then s ++ cf ++ ⟨#[45]⟩ else s ++ cf) ++ ct else s ++ cf by rw [hcf, hct, oneS, Int.toNat_natCast, Int.toNat_natCast])
        clear hwx hcf hct hbr
        have w1f : IntKind.i64.wrap ((f : Int) + 1) = (f : Int) + 1 := IntWalk.i64_in _ ⟨by omega, by omega⟩
        go_upto_region 17 with fail
        rw [← HWX.out]
        go_upto_region 18 with (go_at_call 85; refine HC1.out.mono ?_; rintro e w5 ⟨rfl, hb5⟩)
        have HB5 := Lib.hid (HBX.out.trans (hb5.mono HBX.out.size))
        have HX5 := Lib.hid (HX.out.below hb5 HX.out.lt)
        clear hb5 hx0
        have hx0 : w5.cell? ⟨wr.heap.size, 0, none⟩ = some (.int .i64 (f : Int)) := HX5.out.cell (i := 0) rfl
        have hx1 : w5.cell? ⟨wr.heap.size, 1, none⟩ = some (.int .i64 (t : Int)) := HX5.out.cell (i := 1) rfl
        have HCT5 := Lib.hid (HCT.out w5 HB5.out)
        obtain ⟨s1, hs1⟩ : ∃ x, x = s ++ cf := ⟨_, rfl⟩
        have hs1z : s1.size ≤ 700 := by rw [hs1, ByteArray.size_append]; omega
        rw [← hs1] at HO ⊢
        clear hs1
        by_cases hft : f < t
        · have q1 : (f : Int) < (t : Int) := by omega
          by_cases hft1 : f + 1 < t
          · have q2 : (f : Int) + 1 < (t : Int) := by omega
            have HEE := Lib.hid (show rgsS false sf (i + 1) = s1 ++ ⟨#[45]⟩ ++ ct by rw [HSS.out, HO.out, if_pos q1, if_pos q2])
            clear hft hft1
            go_wp2_with (go_at_call 85; refine HCT5.out.mono ?_; rintro e w6 ⟨rfl, hb6⟩)
            go_roundw
            case rel => exact ⟨i + 1, by go_num, by omega, by rw [HEE.out]; (try rfl), HB5.out.trans (hb6.mono HB5.out.size)⟩
            case measure => (simp [intOf]; try omega)
          · have q2 : ¬ (f : Int) + 1 < (t : Int) := by omega
            have HEE := Lib.hid (show rgsS false sf (i + 1) = s1 ++ ct by rw [HSS.out, HO.out, if_pos q1, if_neg q2])
            clear hft hft1
            go_wp2_with (go_at_call 85; refine HCT5.out.mono ?_; rintro e w6 ⟨rfl, hb6⟩)
            go_roundw
            case rel => exact ⟨i + 1, by go_num, by omega, by rw [HEE.out]; (try rfl), HB5.out.trans (hb6.mono HB5.out.size)⟩
            case measure => (simp [intOf]; try omega)
        · have q1 : ¬ (f : Int) < (t : Int) := by omega
          have q2 : ¬ (f : Int) + 1 < (t : Int) := by omega
          have HEE := Lib.hid (show rgsS false sf (i + 1) = s1 by rw [HSS.out, HO.out, if_neg q1])
          clear hft
          go_wp2_with fail
          go_roundw
          case rel => exact ⟨i + 1, by go_num, by omega, by rw [HEE.out]; (try rfl), HB5.out⟩
          case measure => (simp [intOf]; try omega)
    · go_upto_region 14 with fail
      have p5 : w3.cell? ⟨P, 5, none⟩ = some (.slice (some ⟨b, off, none⟩) sn sc) := HP3.out.cell (i := 5) rfl
      go_wp2_with fail
      clear p1 p5 d0 d1
      go_loopw [5, 66] (fun sv iv wr => ∃ i : Nat, iv = .int .i64 i ∧ i ≤ sn ∧ sv = .string (rgsS true sf i) ∧ Below w.heap.size w wr) (fun _ iv _ => sn - (intOf iv).toNat)
      case atStart => exact ⟨0, rfl, by omega, rfl, HB3.out⟩
      case round =>
        obtain ⟨i, rfl, hi2, rfl, hbr⟩ := hrel
        have HBR := Lib.hid hbr
        have hss := rgsS_size true sf i
        obtain ⟨s, hs⟩ : ∃ s, s = rgsS true sf i := ⟨_, rfl⟩
        rw [← hs] at hss ⊢
        have HSS := Lib.hid (show rgsS true sf (i + 1) = oneS s (sf i) by rw [hs]; rfl)
        by_cases hin : i < sn
        case neg =>
          have hin2 : ¬ (i : Int) < (sn : Int) := by omega
          have HEE := Lib.hid (show V = s ++ ⟨#[93]⟩ by rw [HVL.out, hs, show i = sn by omega])
          clear hs hbr
          go_wp2_with fail
          go_ret
          exact ⟨by rw [HEE.out]; rfl, HBR.out⟩
        have hin2 : (i : Int) < (sn : Int) := by omega
        have hrg := HRG.out i hin
        have hc0 := HCL.out wr hbr i hin
        obtain ⟨x, hx⟩ : ∃ x, x = sf i := ⟨_, rfl⟩
        rw [← hx] at hrg hc0 HSS
        clear hx hs
        obtain ⟨fz, tz⟩ := x
        simp only at hrg hc0
        obtain ⟨f, rfl⟩ : ∃ f : Nat, fz = f := ⟨fz.toNat, by omega⟩
        obtain ⟨t, rfl⟩ : ∃ t : Nat, tz = t := ⟨tz.toNat, by omega⟩
        obtain ⟨k0, k1, zb⟩ := hc0
        have hsz := hbr.size
        obtain ⟨wx, hwx⟩ : ∃ wx, wx = wr.alloc (.cells #[.int .i64 (f : Int), .int .i64 (t : Int)] 119) := ⟨_, rfl⟩
        have HBX := Lib.hid (show Below w.heap.size w wx by rw [hwx]; exact hbr.alloc hsz _)
        have HX := Lib.hid (show Blk wx wr.heap.size #[.int .i64 (f : Int), .int .i64 (t : Int)] 119 by rw [hwx]; exact Blk.new _ _ _)
        have hx0 : wx.cell? ⟨wr.heap.size, 0, none⟩ = some (.int .i64 (f : Int)) := HX.out.cell (i := 0) rfl
        have HWX := Lib.hid hwx
        have HC1 := Lib.hid (HCH.out f (by omega) wx HBX.out)
        have hz1 := chrS_size f
        have hz2 := chrS_size t
        obtain ⟨cf, hcf⟩ : ∃ c, c = chrS f := ⟨_, rfl⟩
        obtain ⟨ct, hct⟩ : ∃ c, c = chrS t := ⟨_, rfl⟩
        rw [← hcf] at hz1 HC1
        rw [← hct] at hz2
        have HCT := Lib.hid (fun w' (hb : Below w.heap.size w w') => HCH.out t (by omega) w' hb)
        rw [← hct] at HCT
        have HO := Lib.hid (show oneS s ((f : Int), (t : Int)) = if (f : Int) < t then (if (f : Int) + 1 < t then s ++ cf ++ ⟨#[45]⟩ else s ++ cf) ++ ct else s ++ cf by rw [hcf, hct, oneS, Int.toNat_natCast, Int.toNat_natCast])
        clear hwx hcf hct hbr
        have w1f : IntKind.i64.wrap ((f : Int) + 1) = (f : Int) + 1 := IntWalk.i64_in _ ⟨by omega, by omega⟩
        go_upto_region 17 with fail
        rw [← HWX.out]
        go_upto_region 18 with (go_at_call 85; refine HC1.out.mono ?_; rintro e w5 ⟨rfl, hb5⟩)
        have HB5 := Lib.hid (HBX.out.trans (hb5.mono HBX.out.size))
        have HX5 := Lib.hid (HX.out.below hb5 HX.out.lt)
        clear hb5 hx0
        have hx0 : w5.cell? ⟨wr.heap.size, 0, none⟩ = some (.int .i64 (f : Int)) := HX5.out.cell (i := 0) rfl
        have hx1 : w5.cell? ⟨wr.heap.size, 1, none⟩ = some (.int .i64 (t : Int)) := HX5.out.cell (i := 1) rfl
        have HCT5 := Lib.hid (HCT.out w5 HB5.out)
        obtain ⟨s1, hs1⟩ : ∃ x, x = s ++ cf := ⟨_, rfl⟩
        have hs1z : s1.size ≤ 700 := by rw [hs1, ByteArray.size_append]; omega
        rw [← hs1] at HO ⊢
        clear hs1
        by_cases hft : f < t
        · have q1 : (f : Int) < (t : Int) := by omega
          by_cases hft1 : f + 1 < t
          · have q2 : (f : Int) + 1 < (t : Int) := by omega
            have HEE := Lib.hid (show rgsS true sf (i + 1) = s1 ++ ⟨#[45]⟩ ++ ct by rw [HSS.out, HO.out, if_pos q1, if_pos q2])
            clear hft hft1
            go_wp2_with (go_at_call 85; refine HCT5.out.mono ?_; rintro e w6 ⟨rfl, hb6⟩)
            go_roundw
            case rel => exact ⟨i + 1, by go_num, by omega, by rw [HEE.out]; (try rfl), HB5.out.trans (hb6.mono HB5.out.size)⟩
            case measure => (simp [intOf]; try omega)
          · have q2 : ¬ (f : Int) + 1 < (t : Int) := by omega
            have HEE := Lib.hid (show rgsS true sf (i + 1) = s1 ++ ct by rw [HSS.out, HO.out, if_pos q1, if_neg q2])
            clear hft hft1
            go_wp2_with (go_at_call 85; refine HCT5.out.mono ?_; rintro e w6 ⟨rfl, hb6⟩)
            go_roundw
            case rel => exact ⟨i + 1, by go_num, by omega, by rw [HEE.out]; (try rfl), HB5.out.trans (hb6.mono HB5.out.size)⟩
            case measure => (simp [intOf]; try omega)
        · have q1 : ¬ (f : Int) < (t : Int) := by omega
          have q2 : ¬ (f : Int) + 1 < (t : Int) := by omega
          have HEE := Lib.hid (show rgsS true sf (i + 1) = s1 by rw [HSS.out, HO.out, if_neg q1])
          clear hft
          go_wp2_with fail
          go_roundw
          case rel => exact ⟨i + 1, by go_num, by omega, by rw [HEE.out]; (try rfl), HB5.out⟩
          case measure => (simp [intOf]; try omega)
  case true =>
    have h1 := of_decide_eq_true HONE.out.symm
    obtain ⟨h1, h2⟩ := h1
    cases nt
    · have HEE := Lib.hid (show V = chrS f by rw [HVN.out, if_pos ⟨⟨h1, by rw [h2]⟩, rfl⟩, Int.toNat_natCast])
      clear h1 h2 HVN
      go_wp2_with (go_at_call 85; refine (HCH.out f (by omega) w3 HB3.out).mono ?_; rintro e w5 ⟨rfl, hb5⟩)
      go_ret
      exact ⟨by rw [HEE.out]; rfl, HB3.out.trans (hb5.mono HB3.out.size)⟩
    · by_cases h10 : f = 10
      · have HEE := Lib.hid (show V = ⟨#[46]⟩ by rw [HVN.out, if_neg (fun h => by cases h.2), if_pos ⟨⟨h1, by rw [h2]⟩, by omega⟩])
        have e1 : ((f : Int) == 10) = true := by simp; omega
        clear h1 h2 h10 HVN
        go_wp2_with fail
        go_ret
        exact ⟨by rw [HEE.out]; rfl, HB3.out⟩
      · have HVL := Lib.hid (show V = rgsS true sf sn ++ ⟨#[93]⟩ by rw [HVN.out, if_neg (fun h => by cases h.2), if_neg (fun h => h10 (by have := h.2; omega))])
        have e1 : ((f : Int) == 10) = false := by simp; omega
        clear h1 h2 h10 HVN
        go_upto_region 14 with fail
        have p5 : w3.cell? ⟨P, 5, none⟩ = some (.slice (some ⟨b, off, none⟩) sn sc) := HP3.out.cell (i := 5) rfl
        go_wp2_with fail
        clear p1 p5 d0 d1
        go_loopw [5, 66] (fun sv iv wr => ∃ i : Nat, iv = .int .i64 i ∧ i ≤ sn ∧ sv = .string (rgsS true sf i) ∧ Below w.heap.size w wr) (fun _ iv _ => sn - (intOf iv).toNat)
        case atStart => exact ⟨0, rfl, by omega, rfl, HB3.out⟩
        case round =>
          obtain ⟨i, rfl, hi2, rfl, hbr⟩ := hrel
          have HBR := Lib.hid hbr
          have hss := rgsS_size true sf i
          obtain ⟨s, hs⟩ : ∃ s, s = rgsS true sf i := ⟨_, rfl⟩
          rw [← hs] at hss ⊢
          have HSS := Lib.hid (show rgsS true sf (i + 1) = oneS s (sf i) by rw [hs]; rfl)
          by_cases hin : i < sn
          case neg =>
            have hin2 : ¬ (i : Int) < (sn : Int) := by omega
            have HEE := Lib.hid (show V = s ++ ⟨#[93]⟩ by rw [HVL.out, hs, show i = sn by omega])
            clear hs hbr
            go_wp2_with fail
            go_ret
            exact ⟨by rw [HEE.out]; rfl, HBR.out⟩
          have hin2 : (i : Int) < (sn : Int) := by omega
          have hrg := HRG.out i hin
          have hc0 := HCL.out wr hbr i hin
          obtain ⟨x, hx⟩ : ∃ x, x = sf i := ⟨_, rfl⟩
          rw [← hx] at hrg hc0 HSS
          clear hx hs
          obtain ⟨fz, tz⟩ := x
          simp only at hrg hc0
          obtain ⟨f, rfl⟩ : ∃ f : Nat, fz = f := ⟨fz.toNat, by omega⟩
          obtain ⟨t, rfl⟩ : ∃ t : Nat, tz = t := ⟨tz.toNat, by omega⟩
          obtain ⟨k0, k1, zb⟩ := hc0
          have hsz := hbr.size
          obtain ⟨wx, hwx⟩ : ∃ wx, wx = wr.alloc (.cells #[.int .i64 (f : Int), .int .i64 (t : Int)] 119) := ⟨_, rfl⟩
          have HBX := Lib.hid (show Below w.heap.size w wx by rw [hwx]; exact hbr.alloc hsz _)
          have HX := Lib.hid (show Blk wx wr.heap.size #[.int .i64 (f : Int), .int .i64 (t : Int)] 119 by rw [hwx]; exact Blk.new _ _ _)
          have hx0 : wx.cell? ⟨wr.heap.size, 0, none⟩ = some (.int .i64 (f : Int)) := HX.out.cell (i := 0) rfl
          have HWX := Lib.hid hwx
          have HC1 := Lib.hid (HCH.out f (by omega) wx HBX.out)
          have hz1 := chrS_size f
          have hz2 := chrS_size t
          obtain ⟨cf, hcf⟩ : ∃ c, c = chrS f := ⟨_, rfl⟩
          obtain ⟨ct, hct⟩ : ∃ c, c = chrS t := ⟨_, rfl⟩
          rw [← hcf] at hz1 HC1
          rw [← hct] at hz2
          have HCT := Lib.hid (fun w' (hb : Below w.heap.size w w') => HCH.out t (by omega) w' hb)
          rw [← hct] at HCT
          have HO := Lib.hid (show oneS s ((f : Int), (t : Int)) = if (f : Int) < t then (if (f : Int) + 1 < t then s ++ cf ++ ⟨#[45]⟩ else s ++ cf) ++ ct else s ++ cf by rw [hcf, hct, oneS, Int.toNat_natCast, Int.toNat_natCast])
          clear hwx hcf hct hbr
          have w1f : IntKind.i64.wrap ((f : Int) + 1) = (f : Int) + 1 := IntWalk.i64_in _ ⟨by omega, by omega⟩
          go_upto_region 17 with fail
          rw [← HWX.out]
          go_upto_region 18 with (go_at_call 85; refine HC1.out.mono ?_; rintro e w5 ⟨rfl, hb5⟩)
          have HB5 := Lib.hid (HBX.out.trans (hb5.mono HBX.out.size))
          have HX5 := Lib.hid (HX.out.below hb5 HX.out.lt)
          clear hb5 hx0
          have hx0 : w5.cell? ⟨wr.heap.size, 0, none⟩ = some (.int .i64 (f : Int)) := HX5.out.cell (i := 0) rfl
          have hx1 : w5.cell? ⟨wr.heap.size, 1, none⟩ = some (.int .i64 (t : Int)) := HX5.out.cell (i := 1) rfl
          have HCT5 := Lib.hid (HCT.out w5 HB5.out)
          obtain ⟨s1, hs1⟩ : ∃ x, x = s ++ cf := ⟨_, rfl⟩
          have hs1z : s1.size ≤ 700 := by rw [hs1, ByteArray.size_append]; omega
          rw [← hs1] at HO ⊢
          clear hs1
          by_cases hft : f < t
          · have q1 : (f : Int) < (t : Int) := by omega
            by_cases hft1 : f + 1 < t
            · have q2 : (f : Int) + 1 < (t : Int) := by omega
              have HEE := Lib.hid (show rgsS true sf (i + 1) = s1 ++ ⟨#[45]⟩ ++ ct by rw [HSS.out, HO.out, if_pos q1, if_pos q2])
              clear hft hft1
              go_wp2_with (go_at_call 85; refine HCT5.out.mono ?_; rintro e w6 ⟨rfl, hb6⟩)
              go_roundw
              case rel => exact ⟨i + 1, by go_num, by omega, by rw [HEE.out]; (try rfl), HB5.out.trans (hb6.mono HB5.out.size)⟩
              case measure => (simp [intOf]; try omega)
            · have q2 : ¬ (f : Int) + 1 < (t : Int) := by omega
              have HEE := Lib.hid (show rgsS true sf (i + 1) = s1 ++ ct by rw [HSS.out, HO.out, if_pos q1, if_neg q2])
              clear hft hft1
              go_wp2_with (go_at_call 85; refine HCT5.out.mono ?_; rintro e w6 ⟨rfl, hb6⟩)
              go_roundw
              case rel => exact ⟨i + 1, by go_num, by omega, by rw [HEE.out]; (try rfl), HB5.out.trans (hb6.mono HB5.out.size)⟩
              case measure => (simp [intOf]; try omega)
          · have q1 : ¬ (f : Int) < (t : Int) := by omega
            have q2 : ¬ (f : Int) + 1 < (t : Int) := by omega
            have HEE := Lib.hid (show rgsS true sf (i + 1) = s1 by rw [HSS.out, HO.out, if_neg q1])
            clear hft
            go_wp2_with fail
            go_roundw
            case rel => exact ⟨i + 1, by go_num, by omega, by rw [HEE.out]; (try rfl), HB5.out⟩
            case measure => (simp [intOf]; try omega)
end Go.Proofs.YtghbicajcffjhaaDoor.PC
