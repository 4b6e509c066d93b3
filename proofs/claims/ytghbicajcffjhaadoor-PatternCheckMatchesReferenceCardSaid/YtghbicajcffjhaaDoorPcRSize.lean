
/-
  The reference's size of a pattern that is as it must be.
-/
import Derived.Test.YtghbicajcffjhaaDoorPcSize
namespace Go.Proofs.YtghbicajcffjhaaDoor.PC
open Go.RowKit Go.Law Go.Law.Pn
set_option linter.unusedVariables false
set_option linter.unusedSimpArgs false
set_option maxRecDepth 100000
theorem szK_full {F : Nat → Int} (hF : ∀ i, 1 ≤ F i ∧ F i ≤ 4001) {i m : Nat} (h : szK F i = 4001) (hm : i ≤ m) : szK F m = 4001 := by
  induction m with
  | zero => rw [show i = 0 by omega] at h; exact h
  | succ m ih =>
    rcases Nat.lt_or_ge m i with h1 | h1
    · rw [show m + 1 = i by omega]; exact h
    · have h2 := ih h1
      have h3 := hF m
      simp only [szK, h2]
      omega
set_option maxHeartbeats 8000000 in
theorem sizeR_any (W : World) : ∀ (t : PT), t.Ok W → t.Val → ∀ (w : World), Below W.heap.size W w →
    Calls Tryd.prog 29 #[.agg t.hd.cells.toArray] w fun e w' => e = .returned (.int .i64 t.sz) ∧ Below w.heap.size w w'
  | .nil, hok, _, _, _ => False.elim hok
  | .mk h kf, hok, hval, w, hbel => by
    have HIH := Lib.hid (fun i (hi : i < h.kn) => sizeR_any W (kf i) (hok.2.2 i hi) (hval.2 i hi))
    have hv0 := hval.1
    have HRO := Lib.hid (fun hk : h.kind = 6 => rep_ok hv0 hk)
    clear hv0 hval
    obtain ⟨⟨hs, hkm⟩, hkc, hkq⟩ := hok
    unfold maxLen at hkm
    clear hkq hs
    obtain ⟨F, hF⟩ : ∃ F : Nat → Int, F = fun i => (kf i).sz := ⟨_, rfl⟩
    have hFR : ∀ i, 1 ≤ F i ∧ F i ≤ 4001 := fun i => by rw [hF]; exact sz_range (kf i)
    have HSZ := Lib.hid (show (PT.mk h kf).sz = if h.kind = 6 then min (1 + (szK F h.kn - 1) * tmH h) 4001 else szK F h.kn by unfold PT.sz; rw [hF])
    have HF := Lib.hid hF
    clear hF
    obtain ⟨E, hE⟩ : ∃ E, E = (PT.mk h kf).sz := ⟨_, rfl⟩
    rw [← hE] at HSZ ⊢
    clear hE
    obtain ⟨kind, nt, lz, lo, hi, sn, sa, sc, sf, kn, ka, kc⟩ := h
    simp only at hkm
    have HKC := Lib.hid (show CellsF W ka kn 7 (fun i => (kf i).hd.V) from hkc)
    have HB := Lib.hid hbel
    have HFR := Lib.hid hFR
    show Calls _ _ #[.agg (PH.cells ⟨kind, nt, lz, lo, hi, sn, sa, sc, sf, kn, ka, kc⟩).toArray] _ _
    unfold PH.cells
    clear hkc hbel hFR
    have HSZ2 := Lib.hid (show E = if kind = 6 then min (1 + (szK F kn - 1) * max (max hi (lo + 1)) 1) 4001 else szK F kn from HSZ.out)
    have HRO2 := Lib.hid (show kind = 6 → kn = 1 ∧ 0 ≤ lo ∧ lo ≤ 100 ∧ -1 ≤ hi ∧ hi ≤ 100 from HRO.out)
    clear HSZ HRO
    have hmax : ∀ x y : Int, (if x < y then y else x) = max x y := fun x y => by omega
    have hmin : ∀ x y : Int, (if y < x then y else x) = min x y := fun x y => by omega
    go_enter Tryd.func29, Tryd.ntmps29
    go_upto_region 2 with fail
    obtain ⟨w1, hw1⟩ : ∃ w1, w1 = w.alloc (.cells #[.int .i64 kind, .bool nt, .bool lz, .int .i64 lo, .int .i64 hi, .slice sa sn sc, .slice ka kn kc] 25) := ⟨_, rfl⟩
    obtain ⟨P, hP⟩ : ∃ P, P = w.heap.size := ⟨_, rfl⟩
    have HB1 := Lib.hid (show Below w.heap.size w w1 by rw [hw1]; exact (Below.refl _ _).alloc (Nat.le_refl _) _)
    have HP1 := Lib.hid (show Blk w1 P #[.int .i64 kind, .bool nt, .bool lz, .int .i64 lo, .int .i64 hi, .slice sa sn sc, .slice ka kn kc] 25 by rw [hw1, hP]; exact Blk.new _ _ _)
    rw [← hw1, ← hP]
    have HPE := Lib.hid hP
    clear hw1 hP
    have p6 := HP1.out.cell (i := 6) rfl
    go_wp2_with fail
    clear p6
    go_loopw [3, 13] (fun nv iv wr => ∃ i : Nat, iv = .int .i64 i ∧ i ≤ kn ∧ nv = .int .i64 (if kind = 6 then (if i = 0 then 1 else E) else szK F i) ∧ (kind ≠ 6 → szK F i ≤ 4000) ∧ (kind = 6 → i = 1 → E ≤ 4000) ∧ Below w1.heap.size w1 wr) (fun _ iv _ => kn - (intOf iv).toNat)
    case atStart => exact ⟨0, rfl, by omega, by split <;> rfl, fun _ => by simp [szK], fun _ h => by omega, Below.refl _ _⟩
    case round =>
      obtain ⟨i, rfl, hi2, rfl, hs1, hs2, hbr⟩ := hrel
      have HS1 := Lib.hid hs1
      have HS2 := Lib.hid hs2
      have HBR := Lib.hid hbr
      have HPB := Lib.hid (HP1.out.below hbr HP1.out.lt)
      have HBW := Lib.hid (show Below W.heap.size W wr from HB.out.trans ((HB1.out.trans (hbr.mono HB1.out.size)).mono HB.out.size))
      have hPl := HPB.out.lt
      clear hbr hs1 hs2
      by_cases hin : i < kn
      · have hin2 : (i : Int) < (kn : Int) := by omega
        obtain ⟨b, off, hba, hcellG⟩ := (CellsF.below HKC.out (Nat.le_refl _) HBW.out) (by omega)
        have hcell := hcellG i hin
        have hih := HIH.out i hin
        obtain ⟨f, hf⟩ : ∃ f, f = (kf i).sz := ⟨_, rfl⟩
        have hff := HFR.out i
        have HFI := Lib.hid (show F i = f by rw [hf, HF.out])
        rw [HFI.out] at hff
        rw [← hf] at hih
        obtain ⟨y, hy⟩ : ∃ y, y = (kf i).hd := ⟨_, rfl⟩
        simp only at hcell hba
        rw [← hy] at hcell hih
        obtain ⟨ykind, ynt, ylz, ylo, yhi, ysn, ysa, ysc, ysf, ykn, yka, ykc⟩ := y
        have d0 : wr.cell? ⟨b, off + i * 7, none⟩ = some (.int .i64 ykind) := hcell 0 (by omega)
        have d1 : wr.cell? ⟨b, off + i * 7 + 1, none⟩ = some (.bool ynt) := hcell 1 (by omega)
        have d2 : wr.cell? ⟨b, off + i * 7 + 2, none⟩ = some (.bool ylz) := hcell 2 (by omega)
        have d3 : wr.cell? ⟨b, off + i * 7 + 3, none⟩ = some (.int .i64 ylo) := hcell 3 (by omega)
        have d4 : wr.cell? ⟨b, off + i * 7 + 4, none⟩ = some (.int .i64 yhi) := hcell 4 (by omega)
        have d5 : wr.cell? ⟨b, off + i * 7 + 5, none⟩ = some (.slice ysa ysn ysc) := hcell 5 (by omega)
        have d6 : wr.cell? ⟨b, off + i * 7 + 6, none⟩ = some (.slice yka ykn ykc) := hcell 6 (by omega)
        have zb := lt_of_cell d0
        simp only at zb
        clear hcell hcellG hy hf
        subst hba
        unfold PH.cells at hih
        obtain ⟨wx, hwx⟩ : ∃ wx, wx = wr.alloc (.cells #[.int .i64 ykind, .bool ynt, .bool ylz, .int .i64 ylo, .int .i64 yhi, .slice ysa ysn ysc, .slice yka ykn ykc] 25) := ⟨_, rfl⟩
        have HBX := Lib.hid (show Below wr.heap.size wr wx by rw [hwx]; exact (Below.refl _ _).alloc (Nat.le_refl _) _)
        have HCX := Lib.hid (hih wx (HBW.out.trans (HBX.out.mono HBW.out.size)))
        have HBY := Lib.hid (HBR.out.trans (HBX.out.mono HBR.out.size))
        have HPX := Lib.hid (HPB.out.below HBX.out hPl)
        have HX := Lib.hid (show Blk wx wr.heap.size #[.int .i64 ykind, .bool ynt, .bool ylz, .int .i64 ylo, .int .i64 yhi, .slice ysa ysn ysc, .slice yka ykn ykc] 25 by rw [hwx]; exact Blk.new _ _ _)
        have hx0 := HX.out.cell (i := 0) rfl
        have hx1 := HX.out.cell (i := 1) rfl
        have hx2 := HX.out.cell (i := 2) rfl
        have hx3 := HX.out.cell (i := 3) rfl
        have hx4 := HX.out.cell (i := 4) rfl
        have hx5 := HX.out.cell (i := 5) rfl
        have hx6 := HX.out.cell (i := 6) rfl
        have HWX := Lib.hid hwx
        clear hih hwx
        by_cases hk : kind = 6
        · have hk2 : (kind == 6) = true := by simpa using hk
          obtain ⟨r1, r2, r3, r4, r5⟩ := HRO2.out hk
          obtain rfl : i = 0 := by omega
          simp only [Nat.zero_mul, Nat.add_zero] at d0 d1 d2 d3 d4 d5 d6
          obtain ⟨m, hm⟩ : ∃ m, m = max hi (lo + 1) := ⟨_, rfl⟩
          have hm1 : 1 ≤ m ∧ m ≤ 101 := by omega
          have hmul : 0 ≤ f * m ∧ f * m ≤ 4001 * 101 := ⟨Int.mul_nonneg (by omega) (by omega), Int.mul_le_mul (by omega) hm1.2 (by omega) (by omega)⟩
          have HE := Lib.hid (show E = min (1 + f * m) 4001 by
            rw [HSZ2.out, if_pos hk, r1, show max (max hi (lo + 1)) 1 = m by omega]
            simp only [szK]
            rw [HFI.out]
            by_cases h1 : f = 4001
            · rw [h1]
              have h2 : 4000 * m ≥ 4000 := by omega
              have h3 : (min (1 + (4001 : Int)) 4001 - 1) * m = 4000 * m := by rw [show min (1 + (4001 : Int)) 4001 - 1 = 4000 by omega]
              omega
            · rw [show min (1 + f) 4001 - 1 = f by omega])
          have e1 : IntKind.i64.wrap (lo + 1) = lo + 1 := IntWalk.i64_in _ ⟨by omega, by omega⟩
          have e3 : IntKind.i64.wrap (f * m) = f * m := IntWalk.i64_in _ ⟨by omega, by omega⟩
          have e4 : IntKind.i64.wrap (1 + f * m) = 1 + f * m := IntWalk.i64_in _ ⟨by omega, by omega⟩
          rw [if_pos hk, if_pos rfl]
          go_upto_region 5 with fail
          rw [← HWX.out]
          go_upto_region 6 with (go_at_call 29; refine HCX.out.mono ?_; rintro e w3 ⟨rfl, hb3⟩)
          have HP3 := Lib.hid (HPX.out.below hb3 HPX.out.lt)
          have hPl3 := HP3.out.lt
          have HB3 := Lib.hid (HBY.out.trans (hb3.mono HBY.out.size))
          have q0 := HP3.out.cell (i := 0) rfl
          have q3 := HP3.out.cell (i := 3) rfl
          have q4 := HP3.out.cell (i := 4) rfl
          clear hb3
          have hm2 : (m = hi ∧ 1 < hi ∧ ¬ hi < lo + 1) ∨ (m = lo + 1 ∧ 1 < hi ∧ hi < lo + 1) ∨ (m = lo + 1 ∧ ¬ 1 < hi ∧ 1 < lo + 1) ∨ (m = 1 ∧ ¬ 1 < hi ∧ ¬ 1 < lo + 1) := by omega
          clear hmul hm1 hm
          rcases hm2 with ⟨hme, a1, a2⟩ | ⟨hme, a1, a2⟩ | ⟨hme, a1, a2⟩ | ⟨hme, a1, a2⟩
          all_goals
            rw [hme] at e3 e4 HE
            clear hme
          · have HB4 := Lib.hid (HB3.out.alloc HB3.out.size (.cells #[.int .i64 hi, .int .i64 (lo + 1)] 3))
            by_cases hb : 4000 < 1 + f * hi
            case pos =>
              have HEE := Lib.hid (show E = 4001 by rw [HE.out]; omega)
              go_wp2_with fail
              refine wp_loop_rounds 3 ?_
              rw [rounds_succ]
              go_wp2_with fail
              rw [rounds_succ]
              go_wp2_with fail
              rw [rounds_succ]
              go_wp2_with fail
              go_ret
              rw [HEE.out]
              exact ⟨rfl, HB1.out.trans (HB4.out.mono HB1.out.size)⟩
            case neg =>
              have HEE := Lib.hid (show E = 1 + f * hi by rw [HE.out]; omega)
              have HE4 := Lib.hid (show E ≤ 4000 by rw [HEE.out]; omega)
              go_wp2_with fail
              refine wp_loop_rounds 3 ?_
              rw [rounds_succ]
              go_wp2_with fail
              rw [rounds_succ]
              go_wp2_with fail
              rw [rounds_succ]
              go_wp2_with fail
              go_roundw
              case rel => exact ⟨_, _, _, _, _, _, _, ⟨1, rfl, by omega, by rw [if_neg (by omega), HEE.out]; (try rw [Int.mul_one]), fun _ => HE4.out, HB4.out⟩, rfl, rfl, rfl, rfl, rfl, rfl, rfl⟩
              case measure => (simp [intOf]; try omega)
          · have HB4 := Lib.hid (HB3.out.alloc HB3.out.size (.cells #[.int .i64 hi, .int .i64 (lo + 1)] 3))
            by_cases hb : 4000 < 1 + f * (lo + 1)
            case pos =>
              have HEE := Lib.hid (show E = 4001 by rw [HE.out]; omega)
              go_wp2_with fail
              refine wp_loop_rounds 3 ?_
              rw [rounds_succ]
              go_wp2_with fail
              rw [rounds_succ]
              go_wp2_with fail
              rw [rounds_succ]
              go_wp2_with fail
              go_ret
              rw [HEE.out]
              exact ⟨rfl, HB1.out.trans (HB4.out.mono HB1.out.size)⟩
            case neg =>
              have HEE := Lib.hid (show E = 1 + f * (lo + 1) by rw [HE.out]; omega)
              have HE4 := Lib.hid (show E ≤ 4000 by rw [HEE.out]; omega)
              go_wp2_with fail
              refine wp_loop_rounds 3 ?_
              rw [rounds_succ]
              go_wp2_with fail
              rw [rounds_succ]
              go_wp2_with fail
              rw [rounds_succ]
              go_wp2_with fail
              go_roundw
              case rel => exact ⟨_, _, _, _, _, _, _, ⟨1, rfl, by omega, by rw [if_neg (by omega), HEE.out]; (try rw [Int.mul_one]), fun _ => HE4.out, HB4.out⟩, rfl, rfl, rfl, rfl, rfl, rfl, rfl⟩
              case measure => (simp [intOf]; try omega)
          · have HB4 := Lib.hid (HB3.out.alloc HB3.out.size (.cells #[.int .i64 hi, .int .i64 (lo + 1)] 3))
            by_cases hb : 4000 < 1 + f * (lo + 1)
            case pos =>
              have HEE := Lib.hid (show E = 4001 by rw [HE.out]; omega)
              go_wp2_with fail
              refine wp_loop_rounds 3 ?_
              rw [rounds_succ]
              go_wp2_with fail
              rw [rounds_succ]
              go_wp2_with fail
              rw [rounds_succ]
              go_wp2_with fail
              go_ret
              rw [HEE.out]
              exact ⟨rfl, HB1.out.trans (HB4.out.mono HB1.out.size)⟩
            case neg =>
              have HEE := Lib.hid (show E = 1 + f * (lo + 1) by rw [HE.out]; omega)
              have HE4 := Lib.hid (show E ≤ 4000 by rw [HEE.out]; omega)
              go_wp2_with fail
              refine wp_loop_rounds 3 ?_
              rw [rounds_succ]
              go_wp2_with fail
              rw [rounds_succ]
              go_wp2_with fail
              rw [rounds_succ]
              go_wp2_with fail
              go_roundw
              case rel => exact ⟨_, _, _, _, _, _, _, ⟨1, rfl, by omega, by rw [if_neg (by omega), HEE.out]; (try rw [Int.mul_one]), fun _ => HE4.out, HB4.out⟩, rfl, rfl, rfl, rfl, rfl, rfl, rfl⟩
              case measure => (simp [intOf]; try omega)
          · have HB4 := Lib.hid (HB3.out.alloc HB3.out.size (.cells #[.int .i64 hi, .int .i64 (lo + 1)] 3))
            by_cases hb : 4000 < 1 + f * 1
            case pos =>
              have HEE := Lib.hid (show E = 4001 by rw [HE.out]; omega)
              go_wp2_with fail
              refine wp_loop_rounds 3 ?_
              rw [rounds_succ]
              go_wp2_with fail
              rw [rounds_succ]
              go_wp2_with fail
              rw [rounds_succ]
              go_wp2_with fail
              go_ret
              rw [HEE.out]
              exact ⟨rfl, HB1.out.trans (HB4.out.mono HB1.out.size)⟩
            case neg =>
              have HEE := Lib.hid (show E = 1 + f * 1 by rw [HE.out]; omega)
              have HE4 := Lib.hid (show E ≤ 4000 by rw [HEE.out]; omega)
              go_wp2_with fail
              refine wp_loop_rounds 3 ?_
              rw [rounds_succ]
              go_wp2_with fail
              rw [rounds_succ]
              go_wp2_with fail
              rw [rounds_succ]
              go_wp2_with fail
              go_roundw
              case rel => exact ⟨_, _, _, _, _, _, _, ⟨1, rfl, by omega, by rw [if_neg (by omega), HEE.out]; (try rw [Int.mul_one]), fun _ => HE4.out, HB4.out⟩, rfl, rfl, rfl, rfl, rfl, rfl, rfl⟩
              case measure => (simp [intOf]; try omega)
        · have hk2 : (kind == 6) = false := by simpa using hk
          have HE := Lib.hid (show E = szK F kn by rw [HSZ2.out, if_neg hk])
          rw [if_neg hk]
          have hsr := szK_range (F := F) (m := i) (fun j _ => HFR.out j) i (Nat.le_refl _)
          have hs4 := HS1.out hk
          obtain ⟨s, hs⟩ : ∃ s, s = szK F i := ⟨_, rfl⟩
          rw [← hs] at hsr hs4 ⊢
          have HSS := Lib.hid (show szK F (i + 1) = min (s + f) 4001 by rw [hs, ← HFI.out]; rfl)
          have e1 : IntKind.i64.wrap (s + f) = s + f := IntWalk.i64_in _ ⟨by omega, by omega⟩
          clear hs hk
          go_upto_region 5 with fail
          rw [← HWX.out]
          go_upto_region 6 with (go_at_call 29; refine HCX.out.mono ?_; rintro e w3 ⟨rfl, hb3⟩)
          have HP3 := Lib.hid (HPX.out.below hb3 HPX.out.lt)
          have hPl3 := HP3.out.lt
          have HB3 := Lib.hid (HBY.out.trans (hb3.mono HBY.out.size))
          have q0 := HP3.out.cell (i := 0) rfl
          clear hb3
          by_cases hb : 4000 < s + f
          · have HEE := Lib.hid (show E = 4001 by
              rw [HE.out]
              exact szK_full HFR.out (i := i + 1) (by rw [HSS.out]; omega) (by omega))
            go_wp2_with fail
            go_ret
            rw [HEE.out]
            exact ⟨rfl, HB1.out.trans (HB3.out.mono HB1.out.size)⟩
          · go_wp2_with fail
            go_roundw
            case rel => exact ⟨i + 1, by go_num, by omega, by rw [if_neg (by simpa using hk2), HSS.out]; go_num, fun _ => by rw [HSS.out]; omega, fun h => absurd h (by simpa using hk2), HB3.out⟩
            case measure => simp [intOf]; omega
      · have hin2 : ¬ (i : Int) < (kn : Int) := by omega
        have hie : i = kn := by omega
        have HE := Lib.hid (show E = (if kind = 6 then (if i = 0 then 1 else E) else szK F i) by
          by_cases hk : kind = 6
          · have := (HRO2.out hk).1
            rw [if_pos hk, if_neg (by omega)]
          · rw [if_neg hk, HSZ2.out, if_neg hk, hie])
        rw [← HE.out]
        go_wp2_with fail
        go_ret
        exact ⟨rfl, HB1.out.trans (HBR.out.mono HB1.out.size)⟩
end Go.Proofs.YtghbicajcffjhaaDoor.PC
