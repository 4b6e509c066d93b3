

/-
  The reference's Filled.
-/
import Derived.Test.YtnigebnibikolaaLnFill
namespace Go.Proofs.Ytnigebnibikolaa.LN
open Go.RowKit Go.Law Go.Law.Ln
set_option linter.unusedVariables false
set_option linter.unusedSimpArgs false
set_option maxRecDepth 100000
/-- what Filled leaves -/
def FdPost (w : World) (xs : List Int) (e : Ending) (w' : World) : Prop := ∃ v, e = .returned v ∧ RowL w' w.heap.size 3 1 v xs.length (xs.map (Value.int .i64)) ∧ Below w.heap.size w w'
set_option maxHeartbeats 8000000 in
theorem filled_some (n : Nat) (L : Nat → Part) (aP : Option Addr) (cP a z : Nat) (N0 S0 R0 X : Int) (just : Bool) (w : World) (mP : CellsF w aP n 6 (fun i => (L i).V)) (hcP : n ≤ cP) (hcM : cP ≤ 1000000000000000) (haz : a < z) (hz : z ≤ n) (hX : 1 ≤ X ∧ X ≤ 100000) (hE : partsE n L = 0) :
    Calls Try.prog 35 #[.slice aP n cP, .agg #[.int .i64 a, .int .i64 z, .int .i64 N0, .int .i64 S0, .int .i64 R0, .int .i64 X], .bool just] w (FdPost w (fillF n L X a z just)) := by
  obtain ⟨hn, hok⟩ := partsE_zero hE
  have HPS := Lib.hid mP
  have HOK := Lib.hid hok
  obtain ⟨R, hR⟩ : ∃ R, R = fillF n L X a z just := ⟨_, rfl⟩
  have HR := Lib.hid (hR.trans (by unfold fillF; rfl : _ = glueF L (decide (X - (wdF L z - wdF L a + addF n L z) < 0)) (byF X (wdF L z - wdF L a + addF n L z) (grF L z - grF L a) (ylF L z - ylF L a) just) (canF X (wdF L z - wdF L a + addF n L z) (grF L z - grF L a) (ylF L z - ylF L a)) (sumF L (decide (X - (wdF L z - wdF L a + addF n L z) < 0)) a) a (z - a)))
  rw [← hR]
  obtain ⟨b, off, rfl, hcl⟩ := HPS.out (by omega)
  have HI := Lib.hid (info_parts (show (Try.prog.info? 3).map (fun i => (i.zero, i.size, i.bytes)) = some (some (.int .i64 0), 1, 8) by kernel_rfl))
  have hbd := line_bd (nw := 1) (W := fun _ => X) (num := 0) hn hok (show a ≤ z by omega) hz
  have hx : lineF n L 1 (fun _ => X) a z 0 = ⟨a, z, wdF L z - wdF L a + addF n L z, grF L z - grF L a, ylF L z - ylF L a, X⟩ := rfl
  obtain ⟨M, hM⟩ : ∃ y, y = wdF L z - wdF L a + addF n L z := ⟨_, rfl⟩
  obtain ⟨G, hG⟩ : ∃ y, y = grF L z - grF L a := ⟨_, rfl⟩
  obtain ⟨Y, hY⟩ : ∃ y, y = ylF L z - ylF L a := ⟨_, rfl⟩
  rw [hx] at hbd
  rw [← hM, ← hG, ← hY] at hx HR
  rw [← hM, ← hG, ← hY] at hbd
  simp only at hbd
  obtain ⟨b1, b2, b3⟩ := hbd
  have HX := Lib.hid hx
  have HNB := Lib.hid hn
  obtain ⟨w1, hw1⟩ : ∃ w1, w1 = w.alloc (Obj.cells #[.int .i64 a, .int .i64 z, .int .i64 N0, .int .i64 S0, .int .i64 R0, .int .i64 X] 74) := ⟨_, rfl⟩
  have hq1 : FlB w a z N0 S0 R0 X w1 := by rw [hw1]; exact ⟨(Below.refl _ _).alloc (Nat.le_refl _) _, Blk.new _ _ _⟩
  have HQ1 := Lib.hid hq1
  clear mP hok hR hcl hM hG hY hx hq1
  have hlt : a < cP := by omega
  have e1 : (a : Int) ≤ (z : Int) := by omega
  have e2 : (z : Int) ≤ (cP : Int) := by omega
  go_enter Try.func35, Try.ntmps35
  go_upto_region 1 with fail
  rw [← hw1]
  clear hw1
  have x0 := HQ1.out.box.cell (i := 0) rfl
  have x1 := HQ1.out.box.cell (i := 1) rfl
  have x5 := HQ1.out.box.cell (i := 5) rfl
  have zx := HQ1.out.box.lt
  go_wp2_with fail
  have hb2 : Below w1.heap.size w1 (w1.alloc (Obj.cells #[.int .i64 X] 3)) := (Below.refl _ _).alloc (Nat.le_refl _) _
  have HQ2 := HQ1.out.under hb2
  refine (oneLine_any n L 1 (fun _ => X) 0 (some ⟨b, off, none⟩) (some ⟨w1.heap.size, 0, none⟩) cP 1 a z 0 _ (HPS.out.below (Nat.le_refl _) HQ2.below) ?hI HNB.out hcP hcM (by omega) hz HOK.out (by omega) (by omega)).mono ?_
  case hI =>
    intro _
    refine ⟨w1.heap.size, 0, rfl, fun i hi => ?_⟩
    obtain rfl : i = 0 := by omega
    exact Blk.cell (Blk.new w1 #[.int .i64 X] 3) (i := 0) rfl
  rintro e w3 ⟨rfl, hb3⟩
  rw [HX.out]
  rw [show lineV ⟨a, z, M, G, Y, X⟩ = .agg #[.int .i64 a, .int .i64 z, .int .i64 M, .int .i64 G, .int .i64 Y, .int .i64 X] from rfl]
  have HQ3 := Lib.hid (HQ2.under hb3)
  clear hb2 hb3 HQ1 HQ2 x0 x1 x5 zx HX
  obtain ⟨d, hd⟩ : ∃ y, y = byF X M G Y just := ⟨_, rfl⟩
  obtain ⟨c, hc⟩ : ∃ y, y = canF X M G Y := ⟨_, rfl⟩
  obtain ⟨lv, hlv⟩ : ∃ y, y = decide (X - M < 0) := ⟨_, rfl⟩
  have HD := Lib.hid hd
  have HC := Lib.hid hc
  have HL := Lib.hid hlv
  clear hd hc hlv
  go_upto_region 2 with fail
  obtain ⟨w4, hw4⟩ : ∃ w4, w4 = w3.alloc (Obj.cells #[.int .i64 a, .int .i64 z, .int .i64 M, .int .i64 G, .int .i64 Y, .int .i64 X] 74) := ⟨_, rfl⟩
  rw [← hw4]
  have q4 : Blk w4 w3.heap.size #[.int .i64 a, .int .i64 z, .int .i64 M, .int .i64 G, .int .i64 Y, .int .i64 X] 74 := by rw [hw4]; exact Blk.new _ _ _
  have HQ4 := Lib.hid (HQ3.out.under (w' := w4) (by rw [hw4]; exact (Below.refl _ _).alloc (Nat.le_refl _) _))
  obtain ⟨q, hq⟩ : ∃ q, q = w3.heap.size := ⟨_, rfl⟩
  rw [← hq] at q4 ⊢
  clear hw4 hq HQ3
  have y2 := q4.cell (i := 2) rfl
  have y3 := q4.cell (i := 3) rfl
  have y4 := q4.cell (i := 4) rfl
  have y5 := q4.cell (i := 5) rfl
  have zy := q4.lt
  clear q4
  go_upto_region 3 with fail
  go_cut [9, 33] from 17 (fun lt _ wx => lt = .bool lv ∧ wx = w4)
  case first =>
    by_cases hl : X - M < 0
    · have h3 := Lib.hid (show lv = true by rw [HL.out, decide_eq_true hl])
      go_wp2_with fail
      go_meet
      exact ⟨by rw [h3.out], rfl⟩
    · have h3 := Lib.hid (show lv = false by rw [HL.out, decide_eq_false hl])
      go_wp2_with fail
      go_meet
      exact ⟨by rw [h3.out], rfl⟩
  case rest =>
  obtain ⟨rfl, hw⟩ := hcut
  obtain rfl : w4 = wc := hw.symm
  go_upto_if 36 with fail
  go_cut [8, 10] from 17 (fun dv cv wx => dv = .int .i64 d ∧ cv = .int .i64 c ∧ FlB w a z N0 S0 R0 X wx)
  case first =>
    cases lv
    · have hl : ¬ X - M < 0 := of_decide_eq_false HL.out.symm
      have h2 := Lib.hid (show c = G by rw [HC.out]; unfold canF; rw [if_neg hl])
      have h1 := HD.out
      unfold byF at h1
      rw [if_neg hl] at h1
      cases just
      · have h4 := Lib.hid (h1.trans (if_pos (.inl rfl)))
        clear h1
        go_wp2_with fail
        go_meet
        exact ⟨by rw [h4.out], by rw [h2.out], HQ4.out⟩
      · by_cases hg : G = 0
        · have h4 := Lib.hid (h1.trans (if_pos (.inr hg)))
          clear h1
          have hg2 : (G == 0) = true := by simpa using hg
          have h5 := Lib.hid hg
          clear hg
          go_wp2_with fail
          go_meet
          exact ⟨by rw [h4.out], by rw [h2.out], HQ4.out⟩
        · have h4 := Lib.hid (h1.trans (if_neg (fun h => h.elim (fun h => nomatch h) hg)))
          clear h1
          have hg2 : (G == 0) = false := by simpa using hg
          clear hg
          go_wp2_with fail
          go_meet
          exact ⟨by rw [h4.out], by rw [h2.out], HQ4.out⟩
    · have hl : X - M < 0 := of_decide_eq_true HL.out.symm
      have h1 := Lib.hid (show d = min (-(X - M)) Y by rw [HD.out]; unfold byF; rw [if_pos hl])
      have h2 := Lib.hid (show c = Y by rw [HC.out]; unfold canF; rw [if_pos hl])
      have f1 : IntKind.i64.wrap (-(X - M)) = -(X - M) := IntWalk.i64_in _ ⟨by omega, by omega⟩
      go_wp2_with fail
      go_quiet (fail)
      have HQ5 := Lib.hid (HQ4.out.under (w' := w4.drewN nq) (below_drewN (Below.refl _ _) _))
      by_cases hm : Y < -(X - M)
      · go_wp2_with fail
        go_meet
        exact ⟨by rw [h1.out, Int.min_eq_right (by omega)], by rw [h2.out], HQ5.out⟩
      · go_wp2_with fail
        go_meet
        exact ⟨by rw [h1.out, Int.min_eq_left (by omega)], by rw [h2.out], HQ5.out⟩
  case rest =>
  obtain ⟨rfl, rfl, hO⟩ := hcut
  have HO := Lib.hid hO
  clear HQ4 y2 y3 y4 y5 zy hO
  have x0 := HO.out.box.cell (i := 0) rfl
  have x1 := HO.out.box.cell (i := 1) rfl
  have zx := HO.out.box.lt
  obtain ⟨s0, hs0⟩ : ∃ y, y = sumF L lv a := ⟨_, rfl⟩
  have HR2 := Lib.hid (show R = glueF L lv d c s0 a (z - a) by rw [HR.out, hs0, HD.out, HC.out, HL.out])
  have HS0 := Lib.hid hs0
  have HB3 := byF_bd (X := X) (N := M) (G := G) (Y := Y) (just := just) hX (by omega) b2 b3
  rw [← HD.out, ← HC.out] at HB3
  have HDB := Lib.hid HB3.1
  have HCP := Lib.hid HB3.2.2
  clear hs0 HR HD HC HB3
  cases lv
  · clear HL
    go_wp2_with fail
    go_loopw [11, 12, 13, 58] (fun v sv dv jv wr => ∃ (i : Nat), jv = .int .i64 ((i - a : Nat) : Int) ∧ sv = .int .i64 (if 0 < d then sumF L false i - s0 else 0) ∧ dv = .int .i64 (if 0 < d then d * (sumF L false i - s0) / c else 0) ∧ a ≤ i ∧ i ≤ z ∧ FlR w a z N0 S0 R0 X v (glueF L false d c s0 a (i - a)) wr) (fun _ _ _ jv _ => z - a - (intOf jv).toNat)
    case atStart => exact ⟨a, by simp, by rw [HS0.out]; simp, by rw [HS0.out]; simp, Nat.le_refl _, by omega, by rw [Nat.sub_self]; exact ⟨HO.out, RowL.nil _ _ _ _⟩⟩
    case round =>
      obtain ⟨i, rfl, rfl, rfl, hai, hiz, hO⟩ := hrel
      replace HO := Lib.hid hO
      obtain ⟨SN, hSN⟩ : ∃ y, y = (if 0 < d then sumF L false i - s0 else 0) := ⟨_, rfl⟩
      obtain ⟨DN, hDN⟩ : ∃ y, y = (if 0 < d then d * (sumF L false i - s0) / c else 0) := ⟨_, rfl⟩
      rw [← hSN, ← hDN]
      by_cases hlt2 : i < z
      · obtain ⟨j, hj⟩ : ∃ j, j = i - a := ⟨_, rfl⟩
        have hji : i = a + j := by omega
        have hjl : j < z - a := by omega
        have hj1 : ((i + 1 - a : Nat) : Int) = (j : Int) + 1 := by omega
        have HJ := Lib.hid hj1
        have hok := HOK.out i (by omega)
        have hsk := sumF_skip (less := false) HOK.out (i := i) (by omega)
        have hsu := sumF_succ (L := L) (less := false) i
        have hpb := partB_bd (less := false) HOK.out (i := i) (by omega)
        have hsb := sumF_bd (less := false) HNB.out HOK.out hai (by omega)
        have hsb1 := sumF_bd (less := false) HNB.out HOK.out (show a ≤ i + 1 by omega) (by omega)
        have hgs := glueF_skip' (L := L) (less := false) (d := d) (c := c) (s0 := s0) hai
        have hga := glueF_add' (L := L) (less := false) (d := d) (c := c) (s0 := s0) hai
        have hgl := glueF_len L false d c s0 a (i - a)
        rw [← HS0.out] at hsb hsb1
        have b4 := hok.width
        simp only [partB] at hsu hpb
        simp only [entF, shareF] at hga
        obtain ⟨b', off', hbo, hcell⟩ := HPS.out.below (Nat.le_refl _) (HO.out.base).below (by omega)
        obtain ⟨rfl, rfl⟩ : b = b' ∧ off = off' := by injection hbo with h; injection h with h1 h2; exact ⟨h1, h2⟩
        have ea : off + i * 6 = off + a * 6 + j * 6 := by omega
        have d0 : wr.cell? ⟨b, off + i * 6 + 0, none⟩ = some ((L i).V 0) := hcell i (by omega) 0 (by omega)
        have d1 : wr.cell? ⟨b, off + i * 6 + 1, none⟩ = some ((L i).V 1) := hcell i (by omega) 1 (by omega)
        have d2 : wr.cell? ⟨b, off + i * 6 + 2, none⟩ = some ((L i).V 2) := hcell i (by omega) 2 (by omega)
        have d3 : wr.cell? ⟨b, off + i * 6 + 3, none⟩ = some ((L i).V 3) := hcell i (by omega) 3 (by omega)
        have d4 : wr.cell? ⟨b, off + i * 6 + 4, none⟩ = some ((L i).V 4) := hcell i (by omega) 4 (by omega)
        have d5 : wr.cell? ⟨b, off + i * 6 + 5, none⟩ = some ((L i).V 5) := hcell i (by omega) 5 (by omega)
        rw [ea] at d0 d1 d2 d3 d4 d5
        rw [hsu] at hga
        obtain ⟨p, hp⟩ : ∃ p, p = L i := ⟨_, rfl⟩
        rw [← hp] at d0 d1 d2 d3 d4 d5 hsk hsu hpb hgs hga b4
        obtain ⟨SI, hSI⟩ : ∃ y, y = sumF L false i := ⟨_, rfl⟩
        rw [← hSI] at hsk hsu hsb hDN hSN hga
        obtain ⟨K, Wi, St, Rs, C, F⟩ := p
        simp only [Part.V] at d0 d1 d2 d3 d4 d5
        simp only at hsk hsu hpb hgs hga b4
        rw [Nat.add_zero] at d0
        have zb := lt_of_cell d0
        simp only at zb
        rw [← hj]
        obtain ⟨xs, hxs⟩ : ∃ y, y = glueF L false d c s0 a (i - a) := ⟨_, rfl⟩
        rw [← hxs] at hgs hga hgl HO
        have HSU := Lib.hid hsu
        have HDD := Lib.hid hDN
        have HSD := Lib.hid hSN
        have HGS := Lib.hid hgs
        have HGA := Lib.hid hga
        have HSK := Lib.hid hsk
        clear hok hcell hbo ea hO hj hji hj1 hp hsk hsu hgs hga hDN hSN hSI hxs
        by_cases hk : K = 1
        · subst hk
          replace HGA := Lib.hid (HGA.out rfl)
          clear HGS HSK
          by_cases hd0 : 0 < d
          · have hc := HCP.out hd0
            have hs := (HSD.out).trans (if_pos hd0)
            have hd := (HDD.out).trans (if_pos hd0)
            rw [← hs] at hsb HGA hd
            have hpp : SI + St - s0 = SN + St := by omega
            have hs2 := HSU.out
            simp at hs2 hpb HGA
            rw [hs2, hpp] at hsb1
            rw [hpp] at HGA
            obtain ⟨_, u3, u4, u5, u6⟩ := share_num HDB.out hc hsb hpb.1 hsb1.2
            have HSN2 := Lib.hid (show (if 0 < d then sumF L false (i + 1) - s0 else 0) = SN + St by rw [if_pos hd0, hs2, hpp])
            have HDN2 := Lib.hid (show (if 0 < d then d * (sumF L false (i + 1) - s0) / c else 0) = d * (SN + St) / c by rw [if_pos hd0, hs2, hpp])
            rw [← hd] at u6
            have HADD := Lib.hid (show glueF L false d c s0 a (i + 1 - a) = xs ++ [Wi + (d * (SN + St) / c - DN)] by have h := HGA.out; rw [← hd] at h; exact h)
            clear hs2 hpp HDD HSD HGA HSU hd hs hsb1 u4
            go_upto_region 17 with fail
            obtain ⟨w3, hw3⟩ : ∃ w3, w3 = wr.alloc (Obj.cells #[.int .i64 1, .int .i64 Wi, .int .i64 St, .int .i64 Rs, .int .i64 C, .bool F] 108) := ⟨_, rfl⟩
            rw [← hw3]
            have q3 : Blk w3 wr.heap.size #[.int .i64 1, .int .i64 Wi, .int .i64 St, .int .i64 Rs, .int .i64 C, .bool F] 108 := by rw [hw3]; exact Blk.new _ _ _
            have HS3 := Lib.hid (HO.out.under (w' := w3) (by rw [hw3]; exact (Below.refl _ _).alloc (Nat.le_refl _) _))
            clear hw3 HO d0 d1 d2 d3 d4 d5 zb
            have x1 := q3.cell (i := 1) rfl
            have x2 := q3.cell (i := 2) rfl
            have x3 := q3.cell (i := 3) rfl
            have zq := q3.lt
            go_upto_region 25 with fail
            obtain ⟨wz, hwz⟩ : ∃ wz, wz = w3 := ⟨_, rfl⟩
            rw [← hwz] at q3 HS3 ⊢
            have HZ := HS3
            clear hwz HS3 q3
            obtain ⟨ii, hii, hz0, hz1, hz2⟩ := HI.out
            obtain ⟨av, cv, hv, hxc, hcm⟩ := RowL.slice HZ.out.row
            have HCV := Lib.hid hcm
            subst hv
            clear hxc hcm
            go_wp2_with (at_builtin; go_loud (refine wpList_append_own _ rfl _ _ 50 rfl (w.heap.size + 1) 3 ii _ 1 8 Try.underlying50 hii hz0 hz1 hz2 rfl (by decide) _ _ _ rfl (RowL.alloc HZ.out.row _) ⟨wz.heap.size, 0, none⟩ 1 1 [.int .i64 (Wi + (d * (SN + St) / c - DN))] rfl rfl ?k1p ?k2p ?k3p ?k4p ?k5p ?_))
            try (case k1p =>
              intro j u hj
              match j, hj with
              | 0, hj => (simp at hj; subst hj; simp [Addr.add]))
            case k2p => first | rfl | (intro u hu; simp at hu; subst hu; rfl)
            case k3p => unfold maxLen; (try simp); (try omega)
            case k4p => (try simp); (try omega)
            case k5p => have := HZ.out.base.below.size; (try simp); (try omega)
            intro v5 w5 hown hgrow _
            have HS5 := Lib.hid (HZ.out.append hgrow hown)
            clear hown hgrow hii hz0 hz1 hz2 HZ
            go_wp2_with fail
            go_roundw
            case rel => exact ⟨i + 1, by rw [HJ.out], by rw [HSN2.out], by rw [HDN2.out], by omega, by omega, by rw [HADD.out]; exact HS5.out⟩
            case measure => simp [intOf]; omega
          · have HSN2 := Lib.hid (show (if 0 < d then sumF L false (i + 1) - s0 else 0) = SN by rw [HSD.out, if_neg hd0, if_neg hd0])
            have HDN2 := Lib.hid (show (if 0 < d then d * (sumF L false (i + 1) - s0) / c else 0) = DN by rw [HDD.out, if_neg hd0, if_neg hd0])
            have h0 : d * (SI + St - s0) / c - d * (SI - s0) / c = 0 := by
              have := HDB.out
              obtain h : d = 0 := by omega
              subst h; simp
            have h1 := HGA.out
            simp at h1
            have h2 := HSU.out
            simp at h2
            have HADD := Lib.hid (show glueF L false d c s0 a (i + 1 - a) = xs ++ [Wi] by rw [h1, h0]; simp)
            clear h0 h1 h2 HDD HSD HGA HSU
            go_upto_region 17 with fail
            obtain ⟨w3, hw3⟩ : ∃ w3, w3 = wr.alloc (Obj.cells #[.int .i64 1, .int .i64 Wi, .int .i64 St, .int .i64 Rs, .int .i64 C, .bool F] 108) := ⟨_, rfl⟩
            rw [← hw3]
            have q3 : Blk w3 wr.heap.size #[.int .i64 1, .int .i64 Wi, .int .i64 St, .int .i64 Rs, .int .i64 C, .bool F] 108 := by rw [hw3]; exact Blk.new _ _ _
            have HS3 := Lib.hid (HO.out.under (w' := w3) (by rw [hw3]; exact (Below.refl _ _).alloc (Nat.le_refl _) _))
            clear hw3 HO d0 d1 d2 d3 d4 d5 zb
            have x1 := q3.cell (i := 1) rfl
            have zq := q3.lt
            go_upto_region 25 with fail
            obtain ⟨wz, hwz⟩ : ∃ wz, wz = w3 := ⟨_, rfl⟩
            rw [← hwz] at q3 HS3 ⊢
            have HZ := HS3
            clear hwz HS3 q3
            obtain ⟨ii, hii, hz0, hz1, hz2⟩ := HI.out
            obtain ⟨av, cv, hv, hxc, hcm⟩ := RowL.slice HZ.out.row
            have HCV := Lib.hid hcm
            subst hv
            clear hxc hcm
            go_wp2_with (at_builtin; go_loud (refine wpList_append_own _ rfl _ _ 50 rfl (w.heap.size + 1) 3 ii _ 1 8 Try.underlying50 hii hz0 hz1 hz2 rfl (by decide) _ _ _ rfl (RowL.alloc HZ.out.row _) ⟨wz.heap.size, 0, none⟩ 1 1 [.int .i64 (Wi)] rfl rfl ?k1op ?k2op ?k3op ?k4op ?k5op ?_))
            try (case k1op =>
              intro j u hj
              match j, hj with
              | 0, hj => (simp at hj; subst hj; simp [Addr.add]))
            case k2op => first | rfl | (intro u hu; simp at hu; subst hu; rfl)
            case k3op => unfold maxLen; (try simp); (try omega)
            case k4op => (try simp); (try omega)
            case k5op => have := HZ.out.base.below.size; (try simp); (try omega)
            intro v5 w5 hown hgrow _
            have HS5 := Lib.hid (HZ.out.append hgrow hown)
            clear hown hgrow hii hz0 hz1 hz2 HZ
            go_wp2_with fail
            go_roundw
            case rel => exact ⟨i + 1, by rw [HJ.out], by rw [HSN2.out], by rw [HDN2.out], by omega, by omega, by rw [HADD.out]; exact HS5.out⟩
            case measure => simp [intOf]; omega
        · have HADD := Lib.hid (HGS.out hk)
          have HSN2 := Lib.hid (show (if 0 < d then sumF L false (i + 1) - s0 else 0) = SN by rw [HSK.out hk, ← HSD.out])
          have HDN2 := Lib.hid (show (if 0 < d then d * (sumF L false (i + 1) - s0) / c else 0) = DN by rw [HSK.out hk, ← HDD.out])
          have hk2 : (K != 1) = true := by simpa using hk
          clear hk HDD HSD HGS HGA HSK HSU
          go_wp2_with fail
          go_roundw
          case rel => exact ⟨i + 1, by rw [HJ.out], by rw [HSN2.out], by rw [HDN2.out], by omega, by omega, by rw [HADD.out]; exact HO.out.under ((Below.refl _ _).alloc (Nat.le_refl _) _)⟩
          case measure => simp [intOf]; omega
      · obtain rfl : z = i := by omega
        clear hDN hSN hlt2 hiz hai
        go_wp2_with fail
        go_ret
        exact ⟨_, rfl, by rw [HR2.out]; exact HO.out.row.mono (Nat.le_succ _), HO.out.base.below⟩
  · clear HL
    go_wp2_with fail
    go_loopw [11, 12, 13, 58] (fun v sv dv jv wr => ∃ (i : Nat), jv = .int .i64 ((i - a : Nat) : Int) ∧ sv = .int .i64 (if 0 < d then sumF L true i - s0 else 0) ∧ dv = .int .i64 (if 0 < d then d * (sumF L true i - s0) / c else 0) ∧ a ≤ i ∧ i ≤ z ∧ FlR w a z N0 S0 R0 X v (glueF L true d c s0 a (i - a)) wr) (fun _ _ _ jv _ => z - a - (intOf jv).toNat)
    case atStart => exact ⟨a, by simp, by rw [HS0.out]; simp, by rw [HS0.out]; simp, Nat.le_refl _, by omega, by rw [Nat.sub_self]; exact ⟨HO.out, RowL.nil _ _ _ _⟩⟩
    case round =>
      obtain ⟨i, rfl, rfl, rfl, hai, hiz, hO⟩ := hrel
      replace HO := Lib.hid hO
      obtain ⟨SN, hSN⟩ : ∃ y, y = (if 0 < d then sumF L true i - s0 else 0) := ⟨_, rfl⟩
      obtain ⟨DN, hDN⟩ : ∃ y, y = (if 0 < d then d * (sumF L true i - s0) / c else 0) := ⟨_, rfl⟩
      rw [← hSN, ← hDN]
      by_cases hlt2 : i < z
      · obtain ⟨j, hj⟩ : ∃ j, j = i - a := ⟨_, rfl⟩
        have hji : i = a + j := by omega
        have hjl : j < z - a := by omega
        have hj1 : ((i + 1 - a : Nat) : Int) = (j : Int) + 1 := by omega
        have HJ := Lib.hid hj1
        have hok := HOK.out i (by omega)
        have hsk := sumF_skip (less := true) HOK.out (i := i) (by omega)
        have hsu := sumF_succ (L := L) (less := true) i
        have hpb := partB_bd (less := true) HOK.out (i := i) (by omega)
        have hsb := sumF_bd (less := true) HNB.out HOK.out hai (by omega)
        have hsb1 := sumF_bd (less := true) HNB.out HOK.out (show a ≤ i + 1 by omega) (by omega)
        have hgs := glueF_skip' (L := L) (less := true) (d := d) (c := c) (s0 := s0) hai
        have hga := glueF_add' (L := L) (less := true) (d := d) (c := c) (s0 := s0) hai
        have hgl := glueF_len L true d c s0 a (i - a)
        rw [← HS0.out] at hsb hsb1
        have b4 := hok.width
        simp only [partB] at hsu hpb
        simp only [entF, shareF] at hga
        obtain ⟨b', off', hbo, hcell⟩ := HPS.out.below (Nat.le_refl _) (HO.out.base).below (by omega)
        obtain ⟨rfl, rfl⟩ : b = b' ∧ off = off' := by injection hbo with h; injection h with h1 h2; exact ⟨h1, h2⟩
        have ea : off + i * 6 = off + a * 6 + j * 6 := by omega
        have d0 : wr.cell? ⟨b, off + i * 6 + 0, none⟩ = some ((L i).V 0) := hcell i (by omega) 0 (by omega)
        have d1 : wr.cell? ⟨b, off + i * 6 + 1, none⟩ = some ((L i).V 1) := hcell i (by omega) 1 (by omega)
        have d2 : wr.cell? ⟨b, off + i * 6 + 2, none⟩ = some ((L i).V 2) := hcell i (by omega) 2 (by omega)
        have d3 : wr.cell? ⟨b, off + i * 6 + 3, none⟩ = some ((L i).V 3) := hcell i (by omega) 3 (by omega)
        have d4 : wr.cell? ⟨b, off + i * 6 + 4, none⟩ = some ((L i).V 4) := hcell i (by omega) 4 (by omega)
        have d5 : wr.cell? ⟨b, off + i * 6 + 5, none⟩ = some ((L i).V 5) := hcell i (by omega) 5 (by omega)
        rw [ea] at d0 d1 d2 d3 d4 d5
        rw [hsu] at hga
        obtain ⟨p, hp⟩ : ∃ p, p = L i := ⟨_, rfl⟩
        rw [← hp] at d0 d1 d2 d3 d4 d5 hsk hsu hpb hgs hga b4
        obtain ⟨SI, hSI⟩ : ∃ y, y = sumF L true i := ⟨_, rfl⟩
        rw [← hSI] at hsk hsu hsb hDN hSN hga
        obtain ⟨K, Wi, St, Rs, C, F⟩ := p
        simp only [Part.V] at d0 d1 d2 d3 d4 d5
        simp only at hsk hsu hpb hgs hga b4
        rw [Nat.add_zero] at d0
        have zb := lt_of_cell d0
        simp only at zb
        rw [← hj]
        obtain ⟨xs, hxs⟩ : ∃ y, y = glueF L true d c s0 a (i - a) := ⟨_, rfl⟩
        rw [← hxs] at hgs hga hgl HO
        have HSU := Lib.hid hsu
        have HDD := Lib.hid hDN
        have HSD := Lib.hid hSN
        have HGS := Lib.hid hgs
        have HGA := Lib.hid hga
        have HSK := Lib.hid hsk
        clear hok hcell hbo ea hO hj hji hj1 hp hsk hsu hgs hga hDN hSN hSI hxs
        by_cases hk : K = 1
        · subst hk
          replace HGA := Lib.hid (HGA.out rfl)
          clear HGS HSK
          by_cases hd0 : 0 < d
          · have hc := HCP.out hd0
            have hs := (HSD.out).trans (if_pos hd0)
            have hd := (HDD.out).trans (if_pos hd0)
            rw [← hs] at hsb HGA hd
            have hpp : SI + Rs - s0 = SN + Rs := by omega
            have hs2 := HSU.out
            simp at hs2 hpb HGA
            rw [hs2, hpp] at hsb1
            rw [hpp] at HGA
            obtain ⟨_, u3, u4, u5, u6⟩ := share_num HDB.out hc hsb hpb.1 hsb1.2
            have HSN2 := Lib.hid (show (if 0 < d then sumF L true (i + 1) - s0 else 0) = SN + Rs by rw [if_pos hd0, hs2, hpp])
            have HDN2 := Lib.hid (show (if 0 < d then d * (sumF L true (i + 1) - s0) / c else 0) = d * (SN + Rs) / c by rw [if_pos hd0, hs2, hpp])
            rw [← hd] at u6
            have HADD := Lib.hid (show glueF L true d c s0 a (i + 1 - a) = xs ++ [Wi - (d * (SN + Rs) / c - DN)] by have h := HGA.out; rw [← hd] at h; exact h)
            clear hs2 hpp HDD HSD HGA HSU hd hs hsb1 u4
            go_upto_region 17 with fail
            obtain ⟨w3, hw3⟩ : ∃ w3, w3 = wr.alloc (Obj.cells #[.int .i64 1, .int .i64 Wi, .int .i64 St, .int .i64 Rs, .int .i64 C, .bool F] 108) := ⟨_, rfl⟩
            rw [← hw3]
            have q3 : Blk w3 wr.heap.size #[.int .i64 1, .int .i64 Wi, .int .i64 St, .int .i64 Rs, .int .i64 C, .bool F] 108 := by rw [hw3]; exact Blk.new _ _ _
            have HS3 := Lib.hid (HO.out.under (w' := w3) (by rw [hw3]; exact (Below.refl _ _).alloc (Nat.le_refl _) _))
            clear hw3 HO d0 d1 d2 d3 d4 d5 zb
            have x1 := q3.cell (i := 1) rfl
            have x2 := q3.cell (i := 2) rfl
            have x3 := q3.cell (i := 3) rfl
            have zq := q3.lt
            go_upto_region 25 with fail
            obtain ⟨wz, hwz⟩ : ∃ wz, wz = w3 := ⟨_, rfl⟩
            rw [← hwz] at q3 HS3 ⊢
            have HZ := HS3
            clear hwz HS3 q3
            obtain ⟨ii, hii, hz0, hz1, hz2⟩ := HI.out
            obtain ⟨av, cv, hv, hxc, hcm⟩ := RowL.slice HZ.out.row
            have HCV := Lib.hid hcm
            subst hv
            clear hxc hcm
            go_wp2_with (at_builtin; go_loud (refine wpList_append_own _ rfl _ _ 50 rfl (w.heap.size + 1) 3 ii _ 1 8 Try.underlying50 hii hz0 hz1 hz2 rfl (by decide) _ _ _ rfl (RowL.alloc HZ.out.row _) ⟨wz.heap.size, 0, none⟩ 1 1 [.int .i64 (Wi - (d * (SN + Rs) / c - DN))] rfl rfl ?k1q ?k2q ?k3q ?k4q ?k5q ?_))
            try (case k1q =>
              intro j u hj
              match j, hj with
              | 0, hj => (simp at hj; subst hj; simp [Addr.add]))
            case k2q => first | rfl | (intro u hu; simp at hu; subst hu; rfl)
            case k3q => unfold maxLen; (try simp); (try omega)
            case k4q => (try simp); (try omega)
            case k5q => have := HZ.out.base.below.size; (try simp); (try omega)
            intro v5 w5 hown hgrow _
            have HS5 := Lib.hid (HZ.out.append hgrow hown)
            clear hown hgrow hii hz0 hz1 hz2 HZ
            go_wp2_with fail
            go_roundw
            case rel => exact ⟨i + 1, by rw [HJ.out], by rw [HSN2.out], by rw [HDN2.out], by omega, by omega, by rw [HADD.out]; exact HS5.out⟩
            case measure => simp [intOf]; omega
          · have HSN2 := Lib.hid (show (if 0 < d then sumF L true (i + 1) - s0 else 0) = SN by rw [HSD.out, if_neg hd0, if_neg hd0])
            have HDN2 := Lib.hid (show (if 0 < d then d * (sumF L true (i + 1) - s0) / c else 0) = DN by rw [HDD.out, if_neg hd0, if_neg hd0])
            have h0 : d * (SI + Rs - s0) / c - d * (SI - s0) / c = 0 := by
              have := HDB.out
              obtain h : d = 0 := by omega
              subst h; simp
            have h1 := HGA.out
            simp at h1
            have h2 := HSU.out
            simp at h2
            have HADD := Lib.hid (show glueF L true d c s0 a (i + 1 - a) = xs ++ [Wi] by rw [h1, h0]; simp)
            clear h0 h1 h2 HDD HSD HGA HSU
            go_upto_region 17 with fail
            obtain ⟨w3, hw3⟩ : ∃ w3, w3 = wr.alloc (Obj.cells #[.int .i64 1, .int .i64 Wi, .int .i64 St, .int .i64 Rs, .int .i64 C, .bool F] 108) := ⟨_, rfl⟩
            rw [← hw3]
            have q3 : Blk w3 wr.heap.size #[.int .i64 1, .int .i64 Wi, .int .i64 St, .int .i64 Rs, .int .i64 C, .bool F] 108 := by rw [hw3]; exact Blk.new _ _ _
            have HS3 := Lib.hid (HO.out.under (w' := w3) (by rw [hw3]; exact (Below.refl _ _).alloc (Nat.le_refl _) _))
            clear hw3 HO d0 d1 d2 d3 d4 d5 zb
            have x1 := q3.cell (i := 1) rfl
            have zq := q3.lt
            go_upto_region 25 with fail
            obtain ⟨wz, hwz⟩ : ∃ wz, wz = w3 := ⟨_, rfl⟩
            rw [← hwz] at q3 HS3 ⊢
            have HZ := HS3
            clear hwz HS3 q3
            obtain ⟨ii, hii, hz0, hz1, hz2⟩ := HI.out
            obtain ⟨av, cv, hv, hxc, hcm⟩ := RowL.slice HZ.out.row
            have HCV := Lib.hid hcm
            subst hv
            clear hxc hcm
            go_wp2_with (at_builtin; go_loud (refine wpList_append_own _ rfl _ _ 50 rfl (w.heap.size + 1) 3 ii _ 1 8 Try.underlying50 hii hz0 hz1 hz2 rfl (by decide) _ _ _ rfl (RowL.alloc HZ.out.row _) ⟨wz.heap.size, 0, none⟩ 1 1 [.int .i64 (Wi)] rfl rfl ?k1oq ?k2oq ?k3oq ?k4oq ?k5oq ?_))
            try (case k1oq =>
              intro j u hj
              match j, hj with
              | 0, hj => (simp at hj; subst hj; simp [Addr.add]))
            case k2oq => first | rfl | (intro u hu; simp at hu; subst hu; rfl)
            case k3oq => unfold maxLen; (try simp); (try omega)
            case k4oq => (try simp); (try omega)
            case k5oq => have := HZ.out.base.below.size; (try simp); (try omega)
            intro v5 w5 hown hgrow _
            have HS5 := Lib.hid (HZ.out.append hgrow hown)
            clear hown hgrow hii hz0 hz1 hz2 HZ
            go_wp2_with fail
            go_roundw
            case rel => exact ⟨i + 1, by rw [HJ.out], by rw [HSN2.out], by rw [HDN2.out], by omega, by omega, by rw [HADD.out]; exact HS5.out⟩
            case measure => simp [intOf]; omega
        · have HADD := Lib.hid (HGS.out hk)
          have HSN2 := Lib.hid (show (if 0 < d then sumF L true (i + 1) - s0 else 0) = SN by rw [HSK.out hk, ← HSD.out])
          have HDN2 := Lib.hid (show (if 0 < d then d * (sumF L true (i + 1) - s0) / c else 0) = DN by rw [HSK.out hk, ← HDD.out])
          have hk2 : (K != 1) = true := by simpa using hk
          clear hk HDD HSD HGS HGA HSK HSU
          go_wp2_with fail
          go_roundw
          case rel => exact ⟨i + 1, by rw [HJ.out], by rw [HSN2.out], by rw [HDN2.out], by omega, by omega, by rw [HADD.out]; exact HO.out.under ((Below.refl _ _).alloc (Nat.le_refl _) _)⟩
          case measure => simp [intOf]; omega
      · obtain rfl : z = i := by omega
        clear hDN hSN hlt2 hiz hai
        go_wp2_with fail
        go_ret
        exact ⟨_, rfl, by rw [HR2.out]; exact HO.out.row.mono (Nat.le_succ _), HO.out.base.below⟩
end Go.Proofs.Ytnigebnibikolaa.LN
