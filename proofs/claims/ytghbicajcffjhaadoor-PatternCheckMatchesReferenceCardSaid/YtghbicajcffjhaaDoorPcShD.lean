

/-
  The text of a node: repetitions, groups.
-/
import Derived.Test.YtghbicajcffjhaaDoorPcShC
namespace Go.Proofs.YtghbicajcffjhaaDoor.PC
open Go.RowKit Go.Law Go.Law.Pn
set_option linter.unusedVariables false
set_option linter.unusedSimpArgs false
set_option maxRecDepth 100000
set_option maxHeartbeats 4000000 in
theorem opd_any {W : World} {T : Int → ByteArray} (ykind : Int) (ynt ylz : Bool) (ylo yhi : Int) (ysn : Nat) (ysa : Option Addr) (ysc ykn : Nat) (yka : Option Addr) (ykc : Nat) (w : World)
    (HC : Hid (∀ (lv : Int), 0 ≤ lv → lv ≤ 2 → ∀ w, Below W.heap.size W w → Calls Tryd.prog 27 #[.agg #[.int .i64 ykind, .bool ynt, .bool ylz, .int .i64 ylo, .int .i64 yhi, .slice ysa ysn ysc, .slice yka ykn ykc], .int .i64 lv] w fun e w' => e = .returned (.string (T lv)) ∧ Below w.heap.size w w'))
    (hz : (T 0).size ≤ 400000) (HB : Hid (Below W.heap.size W w)) :
    Calls Tryd.prog 58 #[.agg #[.int .i64 ykind, .bool ynt, .bool ylz, .int .i64 ylo, .int .i64 yhi, .slice ysa ysn ysc, .slice yka ykn ykc]] w fun e w' => e = .returned (.string (opdS ykind (T 0) (T 2))) ∧ Below w.heap.size w w' := by
  obtain ⟨w1, hw1⟩ : ∃ x, x = w.alloc (.cells #[.int .i64 ykind, .bool ynt, .bool ylz, .int .i64 ylo, .int .i64 yhi, .slice ysa ysn ysc, .slice yka ykn ykc] 25) := ⟨_, rfl⟩
  have HB1 := Lib.hid (show Below w.heap.size w w1 by rw [hw1]; exact (Below.refl _ _).alloc (Nat.le_refl _) _)
  obtain ⟨X, hX⟩ : ∃ x, x = w.heap.size := ⟨_, rfl⟩
  have HX := Lib.hid (show Blk w1 X #[.int .i64 ykind, .bool ynt, .bool ylz, .int .i64 ylo, .int .i64 yhi, .slice ysa ysn ysc, .slice yka ykn ykc] 25 by rw [hw1, hX]; exact Blk.new _ _ _)
  have HW1 := Lib.hid hw1
  have HXE := Lib.hid hX
  have HBW := Lib.hid (HB.out.trans (HB1.out.mono HB.out.size))
  clear hw1 hX
  have HC0 := Lib.hid (HC.out 0 (by omega) (by omega) w1 HBW.out)
  have HC2 := Lib.hid (HC.out 2 (by omega) (by omega) w1 HBW.out)
  obtain ⟨U0, h0⟩ : ∃ U, U = T 0 := ⟨_, rfl⟩
  obtain ⟨U2, h2⟩ : ∃ U, U = T 2 := ⟨_, rfl⟩
  rw [← h0] at HC0 hz
  rw [← h2] at HC2
  rw [← h0, ← h2]
  clear h0 h2 HC
  go_enter Tryd.func58, Tryd.ntmps58
  go_upto_region 1 with fail
  rw [← HW1.out, ← HXE.out]
  have c0 : w1.cell? ⟨X, 0, none⟩ = some (.int .i64 ykind) := HX.out.cell (i := 0) rfl
  have c1 : w1.cell? ⟨X, 1, none⟩ = some (.bool ynt) := HX.out.cell (i := 1) rfl
  have c2 : w1.cell? ⟨X, 2, none⟩ = some (.bool ylz) := HX.out.cell (i := 2) rfl
  have c3 : w1.cell? ⟨X, 3, none⟩ = some (.int .i64 ylo) := HX.out.cell (i := 3) rfl
  have c4 : w1.cell? ⟨X, 4, none⟩ = some (.int .i64 yhi) := HX.out.cell (i := 4) rfl
  have c5 : w1.cell? ⟨X, 5, none⟩ = some (.slice ysa ysn ysc) := HX.out.cell (i := 5) rfl
  have c6 : w1.cell? ⟨X, 6, none⟩ = some (.slice yka ykn ykc) := HX.out.cell (i := 6) rfl
  by_cases h6 : ykind = 6
  · have e6 : (ykind == 6) = true := by simpa using h6
    have HE := Lib.hid (show opdS ykind U0 U2 = ⟨#[40, 63, 58]⟩ ++ U0 ++ ⟨#[41]⟩ by unfold opdS; rw [if_pos h6])
    clear h6
    go_wp2_with (go_at_call 27; refine HC0.out.mono ?_; rintro e w3 ⟨rfl, hb3⟩)
    go_ret
    exact ⟨by rw [HE.out]; rfl, HB1.out.trans (hb3.mono HB1.out.size)⟩
  · have e6 : (ykind == 6) = false := by simpa using h6
    have HE := Lib.hid (show opdS ykind U0 U2 = U2 by unfold opdS; rw [if_neg h6])
    clear h6
    go_wp2_with (go_at_call 27; refine HC2.out.mono ?_; rintro e w3 ⟨rfl, hb3⟩)
    go_ret
    exact ⟨by rw [HE.out]; rfl, HB1.out.trans (hb3.mono HB1.out.size)⟩
set_option maxHeartbeats 16000000 in
theorem show7 {W : World} {kf : Nat → PT} (nt lz : Bool) (lo hi : Int) (sn : Nat) (sa : Option Addr) (sc : Nat) (sf : Nat → Int × Int) (kn : Nat) (ka : Option Addr) (kc : Nat) (lv : Int) (w : World)
    (HIH : Hid (∀ i, i < kn → ∀ (lv : Int), 0 ≤ lv → lv ≤ 2 → ∀ w, Below W.heap.size W w → Calls Tryd.prog 27 #[.agg (kf i).hd.cells.toArray, .int .i64 lv] w fun e w' => e = .returned (.string (shwS (kf i) lv)) ∧ Below w.heap.size w w'))
    (HZ : Hid (∀ i, i < kn → ∀ lv, (shwS (kf i) lv).size + 10 ≤ 2000 * (kf i).cnt)) (HCN : Hid (1 + sumK (fun i => (kf i).cnt) kn ≤ 200))
    (HKC : Hid (CellsF W ka kn 7 (fun i => (kf i).hd.V))) (hkm : kn ≤ 2 ^ 63 - 1) (HB : Hid (Below W.heap.size W w)) (HEN : Hid (PEnv W)) (HS : Hid (SetOk W sa sn sf)) (hl0 : 0 ≤ lv) (hl2 : lv ≤ 2) (hV : shpE ⟨7, nt, lz, lo, hi, sn, sa, sc, sf, kn, ka, kc⟩ = 0) :
    Calls Tryd.prog 27 #[.agg #[.int .i64 7, .bool nt, .bool lz, .int .i64 lo, .int .i64 hi, .slice sa sn sc, .slice ka kn kc], .int .i64 lv] w fun e w' => e = .returned (.string (shwS (.mk ⟨7, nt, lz, lo, hi, sn, sa, sc, sf, kn, ka, kc⟩ kf) lv)) ∧ Below w.heap.size w w' := by
  have hkn1 : kn = 1 := (shp_good hV).2.2.2.2.2.2.2 (by simp)
  have HKN := Lib.hid hkn1
  have HZ1 := Lib.hid (show ∀ lv, (shwS (kf 0) lv).size ≤ 400000 from fun lv => by
    have h1 := HZ.out 0 (by have := HKN.out; omega) lv
    have h3 := HCN.out
    rw [HKN.out] at h3
    simp only [sumK] at h3
    omega)
  have hkn0 : 0 < kn := by omega
  have hkni : (0 : Int) < (kn : Int) := by omega
  clear hkn1
  have HGD := Lib.hid (shp_good hV)
  obtain ⟨V, hVV⟩ : ∃ V, V = shwS (.mk ⟨7, nt, lz, lo, hi, sn, sa, sc, sf, kn, ka, kc⟩ kf) lv := ⟨_, rfl⟩
  have HV0 := Lib.hid hVV
  rw [← hVV]
  obtain ⟨S, hS⟩ : ∃ S : ByteArray, S = (⟨#[40]⟩ ++ shwS (kf 0) 0 ++ ⟨#[41]⟩) := ⟨_, rfl⟩
  have HSV := Lib.hid hS
  clear hVV hV
  obtain ⟨kind, hkind⟩ : ∃ kind : Int, kind = 7 := ⟨_, rfl⟩
  obtain ⟨w1, hw1⟩ : ∃ x, x = w.alloc (.cells #[.int .i64 7, .bool nt, .bool lz, .int .i64 lo, .int .i64 hi, .slice sa sn sc, .slice ka kn kc] 25) := ⟨_, rfl⟩
  have HB1 := Lib.hid (show Below w.heap.size w w1 by rw [hw1]; exact (Below.refl _ _).alloc (Nat.le_refl _) _)
  obtain ⟨P, hP⟩ : ∃ x, x = w.heap.size := ⟨_, rfl⟩
  have HP1 := Lib.hid (show Blk w1 P #[.int .i64 7, .bool nt, .bool lz, .int .i64 lo, .int .i64 hi, .slice sa sn sc, .slice ka kn kc] 25 by rw [hw1, hP]; exact Blk.new _ _ _)
  have HBW := Lib.hid (show Below W.heap.size W w1 from HB.out.trans (HB1.out.mono HB.out.size))
  have HW1 := Lib.hid hw1
  have HPE := Lib.hid hP
  clear hS hkind hw1 hP
  go_enter Tryd.func27, Tryd.ntmps27
  go_upto_region 1 with fail
  rw [← HW1.out, ← HPE.out]
  have p0 : w1.cell? ⟨P, 0, none⟩ = some (.int .i64 7) := HP1.out.cell (i := 0) rfl
  have p1 : w1.cell? ⟨P, 1, none⟩ = some (.bool nt) := HP1.out.cell (i := 1) rfl
  have p2 : w1.cell? ⟨P, 2, none⟩ = some (.bool lz) := HP1.out.cell (i := 2) rfl
  have p3 : w1.cell? ⟨P, 3, none⟩ = some (.int .i64 lo) := HP1.out.cell (i := 3) rfl
  have p4 : w1.cell? ⟨P, 4, none⟩ = some (.int .i64 hi) := HP1.out.cell (i := 4) rfl
  have p5 : w1.cell? ⟨P, 5, none⟩ = some (.slice sa sn sc) := HP1.out.cell (i := 5) rfl
  have p6 : w1.cell? ⟨P, 6, none⟩ = some (.slice ka kn kc) := HP1.out.cell (i := 6) rfl
  have hPl := HP1.out.lt
  go_upto_block 0 with fail
  have HVB := Lib.hid (show V = brS 2 lv S by rw [HV0.out, HSV.out, shwS]; rfl)
  go_cut [5, 6, 8, 9, 10] from 13 to 77 (fun ov sv _ _ _ wx => ov = .int .i64 2 ∧ sv = .string S ∧ Below w1.heap.size w1 wx)
  case first =>
    obtain ⟨b, off, hba, hcellG⟩ := (CellsF.below HKC.out (Nat.le_refl _) HBW.out) (by omega)
    have hcell := hcellG 0 (by omega)
    have hih := HIH.out 0 (by omega)
    have hks := fun lv => HZ1.out lv
    obtain ⟨T, hT⟩ : ∃ T : Int → ByteArray, T = fun lv => shwS (kf 0) lv := ⟨_, rfl⟩
    have hks := fun lv => show (T lv).size ≤ 400000 by rw [hT]; exact HZ1.out lv
    have hih2 : ∀ (lv : Int), 0 ≤ lv → lv ≤ 2 → ∀ w, Below W.heap.size W w → Calls Tryd.prog 27 #[.agg (kf 0).hd.cells.toArray, .int .i64 lv] w fun e w' => e = .returned (.string (T lv)) ∧ Below w.heap.size w w' := by rw [hT]; exact hih
    have HT := Lib.hid hT
    clear hT hih
    obtain ⟨y, hy⟩ : ∃ y, y = (kf 0).hd := ⟨_, rfl⟩
    simp only at hcell hba
    rw [← hy] at hcell hih2
    have HY := Lib.hid hy
    clear hy
    obtain ⟨ykind, ynt, ylz, ylo, yhi, ysn, ysa, ysc, ysf, ykn, yka, ykc⟩ := y
    simp only [Nat.zero_mul, Nat.add_zero] at hcell
    have d0 : w1.cell? ⟨b, off, none⟩ = some (.int .i64 ykind) := hcell 0 (by omega)
    have d1 : w1.cell? ⟨b, off + 1, none⟩ = some (.bool ynt) := hcell 1 (by omega)
    have d2 : w1.cell? ⟨b, off + 2, none⟩ = some (.bool ylz) := hcell 2 (by omega)
    have d3 : w1.cell? ⟨b, off + 3, none⟩ = some (.int .i64 ylo) := hcell 3 (by omega)
    have d4 : w1.cell? ⟨b, off + 4, none⟩ = some (.int .i64 yhi) := hcell 4 (by omega)
    have d5 : w1.cell? ⟨b, off + 5, none⟩ = some (.slice ysa ysn ysc) := hcell 5 (by omega)
    have d6 : w1.cell? ⟨b, off + 6, none⟩ = some (.slice yka ykn ykc) := hcell 6 (by omega)
    have zb := lt_of_cell d0
    simp only at zb
    clear hcell hcellG
    subst hba
    unfold PH.cells at hih2
    simp only at hih2
    have HCX := Lib.hid hih2
    clear hih2
    have HC0 := Lib.hid (HCX.out 0 (by omega) (by omega) w1 HBW.out)
    have hz := hks 0
    obtain ⟨U0, h0⟩ : ∃ U, U = T 0 := ⟨_, rfl⟩
    have HEE := Lib.hid (show S = ⟨#[40]⟩ ++ U0 ++ ⟨#[41]⟩ by rw [HSV.out, h0, HT.out])
    rw [← h0] at HC0 hz
    clear h0 hks HCX p1 p2 p3 p4 p5
    go_wp2_with (go_at_call 27; refine HC0.out.mono ?_; rintro e w3 ⟨rfl, hb3⟩)
    go_meet
    exact ⟨rfl, by rw [HEE.out], hb3⟩
  case rest =>
    have hS5 : S.size ≤ 500000 := by
      have h1 := HZ1.out 0
      have a5 : (⟨#[40]⟩ : ByteArray).size = 1 := rfl
      have a6 : (⟨#[41]⟩ : ByteArray).size = 1 := rfl
      rw [HSV.out]
      simp only [ByteArray.size_append]
      omega
    obtain ⟨rfl, rfl, hb⟩ := hcut
    obtain ⟨w5, rfl⟩ : ∃ x : World, x = wc := ⟨_, rfl⟩
    have HB5 := Lib.hid (HB1.out.trans (hb.mono HB1.out.size))
    have hSz : S.size ≤ 500000 := hS5
    clear p0 p1 p2 p3 p4 p5 p6 hb hPl
    have hol : ¬ (2 : Int) < lv := by omega
    have HE := Lib.hid (show V = S by rw [HVB.out, brS, if_neg hol])
    go_wp2_with fail
    go_ret
    exact ⟨by rw [HE.out]; rfl, HB5.out⟩
set_option maxHeartbeats 16000000 in
theorem show6 {W : World} {kf : Nat → PT} (nt lz : Bool) (lo hi : Int) (sn : Nat) (sa : Option Addr) (sc : Nat) (sf : Nat → Int × Int) (kn : Nat) (ka : Option Addr) (kc : Nat) (lv : Int) (w : World)
    (HIH : Hid (∀ i, i < kn → ∀ (lv : Int), 0 ≤ lv → lv ≤ 2 → ∀ w, Below W.heap.size W w → Calls Tryd.prog 27 #[.agg (kf i).hd.cells.toArray, .int .i64 lv] w fun e w' => e = .returned (.string (shwS (kf i) lv)) ∧ Below w.heap.size w w'))
    (HZ : Hid (∀ i, i < kn → ∀ lv, (shwS (kf i) lv).size + 10 ≤ 2000 * (kf i).cnt)) (HCN : Hid (1 + sumK (fun i => (kf i).cnt) kn ≤ 200))
    (HKC : Hid (CellsF W ka kn 7 (fun i => (kf i).hd.V))) (hkm : kn ≤ 2 ^ 63 - 1) (HB : Hid (Below W.heap.size W w)) (HEN : Hid (PEnv W)) (HS : Hid (SetOk W sa sn sf)) (hl0 : 0 ≤ lv) (hl2 : lv ≤ 2) (hV : shpE ⟨6, nt, lz, lo, hi, sn, sa, sc, sf, kn, ka, kc⟩ = 0) :
    Calls Tryd.prog 27 #[.agg #[.int .i64 6, .bool nt, .bool lz, .int .i64 lo, .int .i64 hi, .slice sa sn sc, .slice ka kn kc], .int .i64 lv] w fun e w' => e = .returned (.string (shwS (.mk ⟨6, nt, lz, lo, hi, sn, sa, sc, sf, kn, ka, kc⟩ kf) lv)) ∧ Below w.heap.size w w' := by
  have hkn1 : kn = 1 := ((shp_good hV).2.2.2.2.2.2.1 (by simp)).1
  have HKN := Lib.hid hkn1
  have HZ1 := Lib.hid (show ∀ lv, (shwS (kf 0) lv).size ≤ 400000 from fun lv => by
    have h1 := HZ.out 0 (by have := HKN.out; omega) lv
    have h3 := HCN.out
    rw [HKN.out] at h3
    simp only [sumK] at h3
    omega)
  have hrb := ((shp_good hV).2.2.2.2.2.2.1 (by simp)).2
  unfold repBad at hrb
  simp only at hrb
  have hr : 0 ≤ lo ∧ lo ≤ 100 ∧ -1 ≤ hi ∧ hi ≤ 100 := by omega
  have HRB := Lib.hid hr
  clear hrb hr
  have hkn0 : 0 < kn := by omega
  have hkni : (0 : Int) < (kn : Int) := by omega
  clear hkn1
  have HGD := Lib.hid (shp_good hV)
  obtain ⟨V, hVV⟩ : ∃ V, V = shwS (.mk ⟨6, nt, lz, lo, hi, sn, sa, sc, sf, kn, ka, kc⟩ kf) lv := ⟨_, rfl⟩
  have HV0 := Lib.hid hVV
  rw [← hVV]
  obtain ⟨S, hS⟩ : ∃ S : ByteArray, S = (opdS (kf 0).hd.kind (shwS (kf 0) 0) (shwS (kf 0) 2) ++ bndS lo hi lz) := ⟨_, rfl⟩
  have HSV := Lib.hid hS
  clear hVV hV
  obtain ⟨kind, hkind⟩ : ∃ kind : Int, kind = 6 := ⟨_, rfl⟩
  obtain ⟨w1, hw1⟩ : ∃ x, x = w.alloc (.cells #[.int .i64 6, .bool nt, .bool lz, .int .i64 lo, .int .i64 hi, .slice sa sn sc, .slice ka kn kc] 25) := ⟨_, rfl⟩
  have HB1 := Lib.hid (show Below w.heap.size w w1 by rw [hw1]; exact (Below.refl _ _).alloc (Nat.le_refl _) _)
  obtain ⟨P, hP⟩ : ∃ x, x = w.heap.size := ⟨_, rfl⟩
  have HP1 := Lib.hid (show Blk w1 P #[.int .i64 6, .bool nt, .bool lz, .int .i64 lo, .int .i64 hi, .slice sa sn sc, .slice ka kn kc] 25 by rw [hw1, hP]; exact Blk.new _ _ _)
  have HBW := Lib.hid (show Below W.heap.size W w1 from HB.out.trans (HB1.out.mono HB.out.size))
  have HW1 := Lib.hid hw1
  have HPE := Lib.hid hP
  clear hS hkind hw1 hP
  go_enter Tryd.func27, Tryd.ntmps27
  go_upto_region 1 with fail
  rw [← HW1.out, ← HPE.out]
  have p0 : w1.cell? ⟨P, 0, none⟩ = some (.int .i64 6) := HP1.out.cell (i := 0) rfl
  have p1 : w1.cell? ⟨P, 1, none⟩ = some (.bool nt) := HP1.out.cell (i := 1) rfl
  have p2 : w1.cell? ⟨P, 2, none⟩ = some (.bool lz) := HP1.out.cell (i := 2) rfl
  have p3 : w1.cell? ⟨P, 3, none⟩ = some (.int .i64 lo) := HP1.out.cell (i := 3) rfl
  have p4 : w1.cell? ⟨P, 4, none⟩ = some (.int .i64 hi) := HP1.out.cell (i := 4) rfl
  have p5 : w1.cell? ⟨P, 5, none⟩ = some (.slice sa sn sc) := HP1.out.cell (i := 5) rfl
  have p6 : w1.cell? ⟨P, 6, none⟩ = some (.slice ka kn kc) := HP1.out.cell (i := 6) rfl
  have hPl := HP1.out.lt
  go_upto_block 0 with fail
  have HVB := Lib.hid (show V = brS 2 lv S by rw [HV0.out, HSV.out, shwS]; rfl)
  have HSZ := Lib.hid (show (opdS (kf 0).hd.kind (shwS (kf 0) 0) (shwS (kf 0) 2)).size ≤ 400004 ∧ (bndS lo hi lz).size ≤ 10 from ⟨opdS_size _ _ _ 400000 (HZ1.out 0) (HZ1.out 2), bndS_size lo hi lz HRB.out.1 HRB.out.2.1 HRB.out.2.2.1 HRB.out.2.2.2⟩)
  go_cut [5, 6, 8, 9, 10] from 13 to 77 (fun ov sv _ _ _ wx => ov = .int .i64 2 ∧ sv = .string S ∧ Below w1.heap.size w1 wx)
  case first =>
    obtain ⟨b, off, hba, hcellG⟩ := (CellsF.below HKC.out (Nat.le_refl _) HBW.out) (by omega)
    have hcell := hcellG 0 (by omega)
    have hih := HIH.out 0 (by omega)
    have hks := fun lv => HZ1.out lv
    obtain ⟨T, hT⟩ : ∃ T : Int → ByteArray, T = fun lv => shwS (kf 0) lv := ⟨_, rfl⟩
    have hks := fun lv => show (T lv).size ≤ 400000 by rw [hT]; exact HZ1.out lv
    have hih2 : ∀ (lv : Int), 0 ≤ lv → lv ≤ 2 → ∀ w, Below W.heap.size W w → Calls Tryd.prog 27 #[.agg (kf 0).hd.cells.toArray, .int .i64 lv] w fun e w' => e = .returned (.string (T lv)) ∧ Below w.heap.size w w' := by rw [hT]; exact hih
    have HT := Lib.hid hT
    clear hT hih
    obtain ⟨y, hy⟩ : ∃ y, y = (kf 0).hd := ⟨_, rfl⟩
    simp only at hcell hba
    rw [← hy] at hcell hih2
    have HY := Lib.hid hy
    clear hy
    obtain ⟨ykind, ynt, ylz, ylo, yhi, ysn, ysa, ysc, ysf, ykn, yka, ykc⟩ := y
    simp only [Nat.zero_mul, Nat.add_zero] at hcell
    have d0 : w1.cell? ⟨b, off, none⟩ = some (.int .i64 ykind) := hcell 0 (by omega)
    have d1 : w1.cell? ⟨b, off + 1, none⟩ = some (.bool ynt) := hcell 1 (by omega)
    have d2 : w1.cell? ⟨b, off + 2, none⟩ = some (.bool ylz) := hcell 2 (by omega)
    have d3 : w1.cell? ⟨b, off + 3, none⟩ = some (.int .i64 ylo) := hcell 3 (by omega)
    have d4 : w1.cell? ⟨b, off + 4, none⟩ = some (.int .i64 yhi) := hcell 4 (by omega)
    have d5 : w1.cell? ⟨b, off + 5, none⟩ = some (.slice ysa ysn ysc) := hcell 5 (by omega)
    have d6 : w1.cell? ⟨b, off + 6, none⟩ = some (.slice yka ykn ykc) := hcell 6 (by omega)
    have zb := lt_of_cell d0
    simp only at zb
    clear hcell hcellG
    subst hba
    unfold PH.cells at hih2
    simp only at hih2
    have HCX := Lib.hid hih2
    clear hih2
    have HOP := Lib.hid (fun w' (hb : Below W.heap.size W w') => opd_any (W := W) (T := T) ykind ynt ylz ylo yhi ysn ysa ysc ykn yka ykc w' HCX (hks 0) (Lib.hid hb))
    have HBN := Lib.hid (fun w' (hb : Below W.heap.size W w') => bounds_any 6 nt lz lo hi sn sa sc kn (some ⟨b, off, none⟩) kc w' (HEN.out.below hb (Nat.le_refl _)) HRB.out.1 HRB.out.2.1 HRB.out.2.2.1 HRB.out.2.2.2)
    obtain ⟨OP, hop⟩ : ∃ U, U = opdS ykind (T 0) (T 2) := ⟨_, rfl⟩
    obtain ⟨BN, hbn⟩ : ∃ U, U = bndS lo hi lz := ⟨_, rfl⟩
    have hop2 : OP = opdS (kf 0).hd.kind (shwS (kf 0) 0) (shwS (kf 0) 2) := by rw [hop, HT.out, ← HY.out]
    have HEE := Lib.hid (show S = OP ++ BN by rw [HSV.out, ← hop2, hbn])
    have hsz := HSZ.out
    rw [← hop2, ← hbn] at hsz
    rw [← hop] at HOP
    rw [← hbn] at HBN
    obtain ⟨hsz1, hsz2⟩ := hsz
    clear hop hop2 hbn hks HCX
    go_upto_region 32 with fail
    refine wp_region_held_drew (S := fun w' => w'.cell? ⟨P, 0, none⟩ = some (.int .i64 6) ∧ w'.cell? ⟨P, 1, none⟩ = some (.bool nt) ∧ w'.cell? ⟨P, 2, none⟩ = some (.bool lz) ∧ w'.cell? ⟨P, 3, none⟩ = some (.int .i64 lo) ∧ w'.cell? ⟨P, 4, none⟩ = some (.int .i64 hi) ∧ w'.cell? ⟨P, 5, none⟩ = some (.slice sa sn sc) ∧ w'.cell? ⟨P, 6, none⟩ = some (.slice (some ⟨b, off, none⟩) kn kc) ∧ w'.cell? ⟨b, off, none⟩ = some (.int .i64 ykind) ∧ w'.cell? ⟨b, off + 1, none⟩ = some (.bool ynt) ∧ w'.cell? ⟨b, off + 2, none⟩ = some (.bool ylz) ∧ w'.cell? ⟨b, off + 3, none⟩ = some (.int .i64 ylo) ∧ w'.cell? ⟨b, off + 4, none⟩ = some (.int .i64 yhi) ∧ w'.cell? ⟨b, off + 5, none⟩ = some (.slice ysa ysn ysc) ∧ w'.cell? ⟨b, off + 6, none⟩ = some (.slice yka ykn ykc)) (by kernel_rfl) (by exact ⟨p0, p1, p2, p3, p4, p5, p6, d0, d1, d2, d3, d4, d5, d6⟩) ?_
    intro hHeld
    refine takeD (i := 0) (oi := { dst := some 70, op := _, type := _, pos := _, after := _, guard := _ }) (d := some 70) (v := ?vva70) rfl rfl (by kernel_rfl) (by kernel_rfl) (by kernel_rfl) ?dda70 (by rfl) ?yya70 hHeld ?rra70
    case dda70 => first | exact fun _ _ _ h => h | exact fun _ _ _ h => HQ.out _ _ _ _ (by rfl) h
    case yya70 => (intro wx hSw; obtain ⟨y0, y1, y2, y3, y4, y5, y6, y7, y8, y9, y10, y11, y12, y13⟩ := hSw; go_simp; try (with_reducible rfl))
    try simp (maxSteps := 1000000) only [Act.put, List.setIfInBounds_toArray, List.set_cons_zero, List.set_cons_succ]
    refine takeD (i := 1) (oi := { dst := some 71, op := _, type := _, pos := _, after := _, guard := _ }) (d := some 71) (v := ?vva71) rfl rfl (by kernel_rfl) (by kernel_rfl) (by kernel_rfl) ?dda71 (by rfl) ?yya71 hHeld ?rra71
    case dda71 => first | exact fun _ _ _ h => h | exact fun _ _ _ h => HQ.out _ _ _ _ (by rfl) h
    case yya71 => (intro wx hSw; obtain ⟨y0, y1, y2, y3, y4, y5, y6, y7, y8, y9, y10, y11, y12, y13⟩ := hSw; go_simp; try (with_reducible rfl))
    try simp (maxSteps := 1000000) only [Act.put, List.setIfInBounds_toArray, List.set_cons_zero, List.set_cons_succ]
    refine takeD (i := 2) (oi := { dst := some 72, op := _, type := _, pos := _, after := _, guard := _ }) (d := some 72) (v := ?vva72) rfl rfl (by kernel_rfl) (by kernel_rfl) (by kernel_rfl) ?dda72 (by rfl) ?yya72 hHeld ?rra72
    case dda72 => first | exact fun _ _ _ h => h | exact fun _ _ _ h => HQ.out _ _ _ _ (by rfl) h
    case yya72 => (intro wx hSw; obtain ⟨y0, y1, y2, y3, y4, y5, y6, y7, y8, y9, y10, y11, y12, y13⟩ := hSw; go_simp; try (with_reducible rfl))
    try simp (maxSteps := 1000000) only [Act.put, List.setIfInBounds_toArray, List.set_cons_zero, List.set_cons_succ]
    refine takeD (i := 3) (oi := { dst := some 73, op := _, type := _, pos := _, after := _, guard := _ }) (d := some 73) (v := ?vva73) rfl rfl (by kernel_rfl) (by kernel_rfl) (by kernel_rfl) ?dda73 (by rfl) ?yya73 hHeld ?rra73
    case dda73 => first | exact fun _ _ _ h => h | exact fun _ _ _ h => HQ.out _ _ _ _ (by rfl) h
    case yya73 => (intro wx hSw; obtain ⟨y0, y1, y2, y3, y4, y5, y6, y7, y8, y9, y10, y11, y12, y13⟩ := hSw; go_simp; try (with_reducible rfl))
    try simp (maxSteps := 1000000) only [Act.put, List.setIfInBounds_toArray, List.set_cons_zero, List.set_cons_succ]
    refine takeD (i := 5) (oi := { dst := some 75, op := _, type := _, pos := _, after := _, guard := _ }) (d := some 75) (v := ?vva75) rfl rfl (by kernel_rfl) (by kernel_rfl) (by kernel_rfl) ?dda75 (by rfl) ?yya75 hHeld ?rra75
    case dda75 => first | exact fun _ _ _ h => h | exact fun _ _ _ h => HQ.out _ _ _ _ (by rfl) h
    case yya75 => (intro wx hSw; obtain ⟨y0, y1, y2, y3, y4, y5, y6, y7, y8, y9, y10, y11, y12, y13⟩ := hSw; go_simp; try (with_reducible rfl))
    try simp (maxSteps := 1000000) only [Act.put, List.setIfInBounds_toArray, List.set_cons_zero, List.set_cons_succ]
    refine wpAnyH_ready (rs := [4]) (by kernel_rfl) (by simp) ?_
    refine AllReadyH.cons (o := { dst := some 74, op := _, type := _, pos := _, after := _, guard := _ }) rfl (fun K hK => ?_) AllReadyH.nil
    go_simp
    refine (HOP.out w1.drew HBW.out.drew).mono ?_
    rintro e w2 ⟨rfl, hb2⟩
    have HB2 := Lib.hid (show Below w1.heap.size w1 w2 from ((Below.refl _ _).drew).trans hb2)
    refine hK.out _ _ (by refine ⟨?_, ?_, ?_, ?_, ?_, ?_, ?_, ?_, ?_, ?_, ?_, ?_, ?_, ?_⟩ <;> first | (rw [HB2.out.cell (by simpa using hPl)]; assumption) | (rw [HB2.out.cell (by simpa using zb)]; assumption)) (fun hHeld2 => ?_)
    clear hK K hHeld hb2
    try simp only [Act.put, List.setIfInBounds_toArray, List.set_cons_zero, List.set_cons_succ]
    refine wpAnyH_ready (rs := [6]) (by kernel_rfl) (by simp) ?_
    refine AllReadyH.cons (o := { dst := some 76, op := _, type := _, pos := _, after := _, guard := _ }) rfl (fun K hK => ?_) AllReadyH.nil
    go_simp
    refine (HBN.out w2 (HBW.out.trans (HB2.out.mono HBW.out.size))).mono ?_
    rintro e w3 ⟨rfl, hb3⟩
    have HB3 := Lib.hid (HB2.out.trans (hb3.mono HB2.out.size))
    refine hK.out _ _ (by refine ⟨?_, ?_, ?_, ?_, ?_, ?_, ?_, ?_, ?_, ?_, ?_, ?_, ?_, ?_⟩ <;> first | (rw [HB3.out.cell (by simpa using hPl)]; assumption) | (rw [HB3.out.cell (by simpa using zb)]; assumption)) (fun hHeld3 => ?_)
    clear hK K hHeld2 hb3
    try simp only [Act.put, List.setIfInBounds_toArray, List.set_cons_zero, List.set_cons_succ]
    have q1 : (9223372036854775807 < OP.size + BN.size) = False := by simp; omega
    refine takeD (i := 7) (oi := { dst := some 77, op := _, type := _, pos := _, after := _, guard := _ }) (d := some 77) (v := ?vvc77) rfl rfl (by kernel_rfl) (by kernel_rfl) (by kernel_rfl) ?ddc77 (by rfl) ?yyc77 hHeld3 ?rrc77
    case ddc77 => first | exact fun _ _ _ h => h | exact fun _ _ _ h => HQ.out _ _ _ _ (by rfl) h
    case yyc77 => (intro wx hSw; obtain ⟨y0, y1, y2, y3, y4, y5, y6, y7, y8, y9, y10, y11, y12, y13⟩ := hSw; go_simp; try (with_reducible rfl))
    try simp (maxSteps := 1000000) only [Act.put, List.setIfInBounds_toArray, List.set_cons_zero, List.set_cons_succ]
    refine takeD (i := 8) (oi := { dst := some 6, op := _, type := _, pos := _, after := _, guard := _ }) (d := some 6) (v := ?vvc6) rfl rfl (by kernel_rfl) (by kernel_rfl) (by kernel_rfl) ?ddc6 (by rfl) ?yyc6 hHeld3 ?rrc6
    case ddc6 => first | exact fun _ _ _ h => h | exact fun _ _ _ h => HQ.out _ _ _ _ (by rfl) h
    case yyc6 => (intro wx hSw; obtain ⟨y0, y1, y2, y3, y4, y5, y6, y7, y8, y9, y10, y11, y12, y13⟩ := hSw; go_simp; try (with_reducible rfl))
    try simp (maxSteps := 1000000) only [Act.put, List.setIfInBounds_toArray, List.set_cons_zero, List.set_cons_succ]
    refine wpAnyH_done (by kernel_rfl) ?_ _
    clear hHeld3 q1
    go_wp2_with fail
    go_meet
    exact ⟨rfl, by rw [HEE.out], HB3.out⟩
  case rest =>
    obtain ⟨rfl, rfl, hb⟩ := hcut
    obtain ⟨w5, rfl⟩ : ∃ x : World, x = wc := ⟨_, rfl⟩
    have HB5 := Lib.hid (HB1.out.trans (hb.mono HB1.out.size))
    have hSz : S.size ≤ 500000 := (by have := HSZ.out; rw [HSV.out, ByteArray.size_append]; omega)
    clear p0 p1 p2 p3 p4 p5 p6 hb hPl
    have hol : ¬ (2 : Int) < lv := by omega
    have HE := Lib.hid (show V = S by rw [HVB.out, brS, if_neg hol])
    go_wp2_with fail
    go_ret
    exact ⟨by rw [HE.out]; rfl, HB5.out⟩
end Go.Proofs.YtghbicajcffjhaaDoor.PC
