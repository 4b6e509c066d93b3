
/-
  The size of a pattern that is as it must be.
-/
import Derived.Test.YtghbicajcffjhaaDoorPcSet
namespace Go.Proofs.YtghbicajcffjhaaDoor.PC
open Go.RowKit Go.Law Go.Law.Pn
set_option linter.unusedVariables false
set_option linter.unusedSimpArgs false
set_option maxRecDepth 100000
theorem rep_ok {h : PH} (h0 : shpE h = 0) (hk : h.kind = 6) : h.kn = 1 ∧ 0 ≤ h.lo ∧ h.lo ≤ 100 ∧ -1 ≤ h.hi ∧ h.hi ≤ 100 := by
  by_cases h1 : frmBad h
  · simp [shpE, hk, h1] at h0
  · by_cases h2 : h.kn = 1
    · by_cases h3 : repBad h
      · simp [shpE, hk, h1, h2, h3] at h0
      · unfold repBad at h3
        omega
    · simp [shpE, hk, h1, h2] at h0
set_option maxHeartbeats 8000000 in
theorem size_any (W : World) : ∀ (t : PT), t.Ok W → t.Val → ∀ (w : World), Below W.heap.size W w →
    Calls Tryd.prog 26 #[.agg t.hd.cells.toArray] w fun e w' => e = .returned (.int .i64 t.sz) ∧ Below w.heap.size w w'
  | .nil, hok, _, _, _ => False.elim hok
  | .mk h kf, hok, hval, w, hbel => by
    have HIH := Lib.hid (fun i (hi : i < h.kn) => size_any W (kf i) (hok.2.2 i hi) (hval.2 i hi))
    have hv0 := hval.1
    have HRO := Lib.hid (fun hk : h.kind = 6 => rep_ok hv0 hk)
    clear hv0 hval
    obtain ⟨⟨hs, hkm⟩, hkc, hkq⟩ := hok
    unfold maxLen at hkm
    clear hkq hs
    obtain ⟨F, hF⟩ : ∃ F : Nat → Int, F = fun i => (kf i).sz := ⟨_, rfl⟩
    have hFR : ∀ i, 1 ≤ F i ∧ F i ≤ 4001 := fun i => by rw [hF]; exact sz_range (kf i)
    have HSZ := Lib.hid (show (PT.mk h kf).sz = if h.kind = 6 then min (1 + (szK F h.kn - 1) * tmH h) 4001 else szK F h.kn by unfold PT.sz; rw [hF])
    have HF := Lib.hid hF
    clear hF
    obtain ⟨E, hE⟩ : ∃ E, E = (PT.mk h kf).sz := ⟨_, rfl⟩
    rw [← hE] at HSZ ⊢
    clear hE
    obtain ⟨kind, nt, lz, lo, hi, sn, sa, sc, sf, kn, ka, kc⟩ := h
    simp only at hkm
    have HKC := Lib.hid (show CellsF W ka kn 7 (fun i => (kf i).hd.V) from hkc)
    have HB := Lib.hid hbel
    have HFR := Lib.hid hFR
    show Calls _ _ #[.agg (PH.cells ⟨kind, nt, lz, lo, hi, sn, sa, sc, sf, kn, ka, kc⟩).toArray] _ _
    unfold PH.cells
    clear hkc hbel hFR
    have HSZ2 := Lib.hid (show E = if kind = 6 then min (1 + (szK F kn - 1) * max (max hi (lo + 1)) 1) 4001 else szK F kn from HSZ.out)
    have HRO2 := Lib.hid (show kind = 6 → kn = 1 ∧ 0 ≤ lo ∧ lo ≤ 100 ∧ -1 ≤ hi ∧ hi ≤ 100 from HRO.out)
    clear HSZ HRO
    have hmax : ∀ x y : Int, (if x < y then y else x) = max x y := fun x y => by omega
    have hmin : ∀ x y : Int, (if y < x then y else x) = min x y := fun x y => by omega
    go_enter Tryd.func26, Tryd.ntmps26
    go_upto_region 2 with fail
    obtain ⟨w1, hw1⟩ : ∃ w1, w1 = w.alloc (.cells #[.int .i64 kind, .bool nt, .bool lz, .int .i64 lo, .int .i64 hi, .slice sa sn sc, .slice ka kn kc] 25) := ⟨_, rfl⟩
    obtain ⟨P, hP⟩ : ∃ P, P = w.heap.size := ⟨_, rfl⟩
    have HB1 := Lib.hid (show Below w.heap.size w w1 by rw [hw1]; exact (Below.refl _ _).alloc (Nat.le_refl _) _)
    have HP1 := Lib.hid (show Blk w1 P #[.int .i64 kind, .bool nt, .bool lz, .int .i64 lo, .int .i64 hi, .slice sa sn sc, .slice ka kn kc] 25 by rw [hw1, hP]; exact Blk.new _ _ _)
    rw [← hw1, ← hP]
    have HPE := Lib.hid hP
    clear hw1 hP
    have p6 := HP1.out.cell (i := 6) rfl
    go_wp2_with fail
    clear p6
    go_loopw [3, 10] (fun nv iv wr => ∃ i : Nat, iv = .int .i64 i ∧ i ≤ kn ∧ nv = .int .i64 (szK F i) ∧ Below w1.heap.size w1 wr) (fun _ iv _ => kn - (intOf iv).toNat)
    case atStart => exact ⟨0, rfl, by omega, rfl, Below.refl _ _⟩
    case round =>
      obtain ⟨i, rfl, hi2, rfl, hbr⟩ := hrel
      have HBR := Lib.hid hbr
      have HPB := Lib.hid (HP1.out.below hbr HP1.out.lt)
      have HBW := Lib.hid (show Below W.heap.size W wr from HB.out.trans ((HB1.out.trans (hbr.mono HB1.out.size)).mono HB.out.size))
      have hsr := szK_range (F := F) (m := i) (fun j _ => HFR.out j) i (Nat.le_refl _)
      obtain ⟨s, hs⟩ : ∃ s, s = szK F i := ⟨_, rfl⟩
      rw [← hs] at hsr ⊢
      have HS := Lib.hid hs
      have hPl := HPB.out.lt
      clear hbr hs
      by_cases hin : i < kn
      · have hin2 : (i : Int) < (kn : Int) := by omega
        obtain ⟨b, off, hba, hcellG⟩ := (CellsF.below HKC.out (Nat.le_refl _) HBW.out) (by omega)
        have hcell := hcellG i hin
        have hih := HIH.out i hin
        obtain ⟨f, hf⟩ : ∃ f, f = (kf i).sz := ⟨_, rfl⟩
        have hff := HFR.out i
        rw [show F i = f by rw [hf, HF.out]] at hff
        rw [← hf] at hih
        have HSS := Lib.hid (show szK F (i + 1) = min (s + f) 4001 by rw [hf, HS.out, HF.out]; rfl)
        obtain ⟨y, hy⟩ : ∃ y, y = (kf i).hd := ⟨_, rfl⟩
        simp only at hcell hba
        rw [← hy] at hcell hih
        obtain ⟨ykind, ynt, ylz, ylo, yhi, ysn, ysa, ysc, ysf, ykn, yka, ykc⟩ := y
        have d0 : wr.cell? ⟨b, off + i * 7, none⟩ = some (.int .i64 ykind) := hcell 0 (by omega)
        have d1 : wr.cell? ⟨b, off + i * 7 + 1, none⟩ = some (.bool ynt) := hcell 1 (by omega)
        have d2 : wr.cell? ⟨b, off + i * 7 + 2, none⟩ = some (.bool ylz) := hcell 2 (by omega)
        have d3 : wr.cell? ⟨b, off + i * 7 + 3, none⟩ = some (.int .i64 ylo) := hcell 3 (by omega)
        have d4 : wr.cell? ⟨b, off + i * 7 + 4, none⟩ = some (.int .i64 yhi) := hcell 4 (by omega)
        have d5 : wr.cell? ⟨b, off + i * 7 + 5, none⟩ = some (.slice ysa ysn ysc) := hcell 5 (by omega)
        have d6 : wr.cell? ⟨b, off + i * 7 + 6, none⟩ = some (.slice yka ykn ykc) := hcell 6 (by omega)
        have zb := lt_of_cell d0
        simp only at zb
        clear hcell hcellG hy hf
        subst hba
        unfold PH.cells at hih
        obtain ⟨wx, hwx⟩ : ∃ wx, wx = wr.alloc (.cells #[.int .i64 ykind, .bool ynt, .bool ylz, .int .i64 ylo, .int .i64 yhi, .slice ysa ysn ysc, .slice yka ykn ykc] 25) := ⟨_, rfl⟩
        have HBX := Lib.hid (show Below wr.heap.size wr wx by rw [hwx]; exact (Below.refl _ _).alloc (Nat.le_refl _) _)
        have HCX := Lib.hid (hih wx (HBW.out.trans (HBX.out.mono HBW.out.size)))
        have HBY := Lib.hid (HBR.out.trans (HBX.out.mono HBR.out.size))
        have HWX := Lib.hid hwx
        have e1 : IntKind.i64.wrap (s + f) = s + f := IntWalk.i64_in _ ⟨by omega, by omega⟩
        clear hih hwx
        go_wp2_with (rw [← HWX.out]; go_at_call 26; refine HCX.out.mono ?_; rintro e w3 ⟨rfl, hb3⟩)
        go_roundw
        case rel => exact ⟨i + 1, by go_num, by omega, by rw [HSS.out], HBY.out.trans (hb3.mono HBY.out.size)⟩
        case measure => simp [intOf]; omega
      · have hin2 : ¬ (i : Int) < (kn : Int) := by omega
        have hie : i = kn := by omega
        have q0 := HPB.out.cell (i := 0) rfl
        by_cases hk : kind = 6
        · obtain ⟨r1, r2, r3, r4, r5⟩ := HRO2.out hk
          have HE := Lib.hid (show E = min (1 + (s - 1) * max hi (lo + 1)) 4001 by rw [HSZ2.out, if_pos hk, HS.out, hie, show max (max hi (lo + 1)) 1 = max hi (lo + 1) by omega])
          have q3 := HPB.out.cell (i := 3) rfl
          have q4 := HPB.out.cell (i := 4) rfl
          have hk2 : (kind == 6) = true := by simpa using hk
          have e1 : IntKind.i64.wrap (lo + 1) = lo + 1 := IntWalk.i64_in _ ⟨by omega, by omega⟩
          have e2 : IntKind.i64.wrap (s - 1) = s - 1 := IntWalk.i64_in _ ⟨by omega, by omega⟩
          obtain ⟨m, hm⟩ : ∃ m, m = max hi (lo + 1) := ⟨_, rfl⟩
          have hm1 : 1 ≤ m ∧ m ≤ 101 := by omega
          have hmul : 0 ≤ (s - 1) * m ∧ (s - 1) * m ≤ 4000 * 101 := ⟨Int.mul_nonneg (by omega) (by omega), Int.mul_le_mul (by omega) hm1.2 (by omega) (by omega)⟩
          rw [hm] at hmul
          have e3 : IntKind.i64.wrap ((s - 1) * max hi (lo + 1)) = (s - 1) * max hi (lo + 1) := IntWalk.i64_in _ ⟨by omega, by omega⟩
          have e4 : IntKind.i64.wrap (1 + (s - 1) * max hi (lo + 1)) = 1 + (s - 1) * max hi (lo + 1) := IntWalk.i64_in _ ⟨by omega, by omega⟩
          clear hm hm1 hmul hk
          go_wp2_with fail
          go_ret
          rw [HE.out]
          exact ⟨rfl, HB1.out.trans (HBR.out.mono HB1.out.size)⟩
        · have HE := Lib.hid (show E = s by rw [HSZ2.out, if_neg hk, HS.out, hie])
          have hk2 : (kind == 6) = false := by simpa using hk
          go_wp2_with fail
          go_ret
          rw [HE.out]
          exact ⟨rfl, HB1.out.trans (HBR.out.mono HB1.out.size)⟩
end Go.Proofs.YtghbicajcffjhaaDoor.PC
