

/-
  The text of a node: alternatives, repetitions, groups.
-/
import Derived.Test.YtghbicajcffjhaaDoorPcShB
namespace Go.Proofs.YtghbicajcffjhaaDoor.PC
open Go.RowKit Go.Law Go.Law.Pn
set_option linter.unusedVariables false
set_option linter.unusedSimpArgs false
set_option maxRecDepth 100000
set_option maxHeartbeats 16000000 in
theorem show5 {W : World} {kf : Nat → PT} (nt lz : Bool) (lo hi : Int) (sn : Nat) (sa : Option Addr) (sc : Nat) (sf : Nat → Int × Int) (kn : Nat) (ka : Option Addr) (kc : Nat) (lv : Int) (w : World)
    (HIH : Hid (∀ i, i < kn → ∀ (lv : Int), 0 ≤ lv → lv ≤ 2 → ∀ w, Below W.heap.size W w → Calls Tryd.prog 27 #[.agg (kf i).hd.cells.toArray, .int .i64 lv] w fun e w' => e = .returned (.string (shwS (kf i) lv)) ∧ Below w.heap.size w w'))
    (HZ : Hid (∀ i, i < kn → ∀ lv, (shwS (kf i) lv).size + 10 ≤ 2000 * (kf i).cnt)) (HCN : Hid (1 + sumK (fun i => (kf i).cnt) kn ≤ 200))
    (HKC : Hid (CellsF W ka kn 7 (fun i => (kf i).hd.V))) (hkm : kn ≤ 2 ^ 63 - 1) (HB : Hid (Below W.heap.size W w)) (HEN : Hid (PEnv W)) (HS : Hid (SetOk W sa sn sf)) (hl0 : 0 ≤ lv) (hl2 : lv ≤ 2) (hV : shpE ⟨5, nt, lz, lo, hi, sn, sa, sc, sf, kn, ka, kc⟩ = 0) :
    Calls Tryd.prog 27 #[.agg #[.int .i64 5, .bool nt, .bool lz, .int .i64 lo, .int .i64 hi, .slice sa sn sc, .slice ka kn kc], .int .i64 lv] w fun e w' => e = .returned (.string (shwS (.mk ⟨5, nt, lz, lo, hi, sn, sa, sc, sf, kn, ka, kc⟩ kf) lv)) ∧ Below w.heap.size w w' := by
  have HSZ := Lib.hid (show ∀ i, i ≤ kn → (orS (fun i => shwS (kf i) 1) i).size ≤ 400000 from fun i hi => by
    have h1 := orS_size (fun i => shwS (kf i) 1) (fun i => (kf i).cnt) i (fun j hj => HZ.out j (by omega) _)
    have h2 := sumK_mono (fun i => (kf i).cnt) hi
    have h3 := HCN.out
    omega)
  have HKS := Lib.hid (show ∀ i, i < kn → ∀ lv, (shwS (kf i) lv).size ≤ 400000 from fun i hi lv => by
    have h1 := HZ.out i hi lv
    have h2 := sumK_mono (fun i => (kf i).cnt) (show i + 1 ≤ kn by omega)
    have h3 := HCN.out
    simp only [sumK] at h2
    omega)
  have HGD := Lib.hid (shp_good hV)
  obtain ⟨V, hVV⟩ : ∃ V, V = shwS (.mk ⟨5, nt, lz, lo, hi, sn, sa, sc, sf, kn, ka, kc⟩ kf) lv := ⟨_, rfl⟩
  have HV0 := Lib.hid hVV
  rw [← hVV]
  obtain ⟨S, hS⟩ : ∃ S : ByteArray, S = orS (fun i => shwS (kf i) 1) kn := ⟨_, rfl⟩
  have HSV := Lib.hid hS
  clear hVV hV
  obtain ⟨kind, hkind⟩ : ∃ kind : Int, kind = 5 := ⟨_, rfl⟩
  obtain ⟨w1, hw1⟩ : ∃ x, x = w.alloc (.cells #[.int .i64 5, .bool nt, .bool lz, .int .i64 lo, .int .i64 hi, .slice sa sn sc, .slice ka kn kc] 25) := ⟨_, rfl⟩
  have HB1 := Lib.hid (show Below w.heap.size w w1 by rw [hw1]; exact (Below.refl _ _).alloc (Nat.le_refl _) _)
  obtain ⟨P, hP⟩ : ∃ x, x = w.heap.size := ⟨_, rfl⟩
  have HP1 := Lib.hid (show Blk w1 P #[.int .i64 5, .bool nt, .bool lz, .int .i64 lo, .int .i64 hi, .slice sa sn sc, .slice ka kn kc] 25 by rw [hw1, hP]; exact Blk.new _ _ _)
  have HBW := Lib.hid (show Below W.heap.size W w1 from HB.out.trans (HB1.out.mono HB.out.size))
  have HW1 := Lib.hid hw1
  have HPE := Lib.hid hP
  clear hS hkind hw1 hP
  go_enter Tryd.func27, Tryd.ntmps27
  go_upto_region 1 with fail
  rw [← HW1.out, ← HPE.out]
  have p0 : w1.cell? ⟨P, 0, none⟩ = some (.int .i64 5) := HP1.out.cell (i := 0) rfl
  have p1 : w1.cell? ⟨P, 1, none⟩ = some (.bool nt) := HP1.out.cell (i := 1) rfl
  have p2 : w1.cell? ⟨P, 2, none⟩ = some (.bool lz) := HP1.out.cell (i := 2) rfl
  have p3 : w1.cell? ⟨P, 3, none⟩ = some (.int .i64 lo) := HP1.out.cell (i := 3) rfl
  have p4 : w1.cell? ⟨P, 4, none⟩ = some (.int .i64 hi) := HP1.out.cell (i := 4) rfl
  have p5 : w1.cell? ⟨P, 5, none⟩ = some (.slice sa sn sc) := HP1.out.cell (i := 5) rfl
  have p6 : w1.cell? ⟨P, 6, none⟩ = some (.slice ka kn kc) := HP1.out.cell (i := 6) rfl
  have hPl := HP1.out.lt
  go_upto_block 0 with fail
  have HVB := Lib.hid (show V = brS 0 lv S by rw [HV0.out, HSV.out, shwS]; rfl)
  go_cut [5, 6, 8, 9, 10] from 13 to 77 (fun ov sv _ _ _ wx => ov = .int .i64 0 ∧ sv = .string S ∧ Below w1.heap.size w1 wx)
  case first =>
    obtain ⟨F, hF⟩ : ∃ F : Nat → ByteArray, F = fun i => shwS (kf i) 1 := ⟨_, rfl⟩
    rw [← hF] at HSZ HSV
    have HF := Lib.hid hF
    clear hF
    go_wp2_with fail
    clear p0 p1 p2 p3 p4 p5 p6
    go_loopw [6, 54] (fun sv iv wr => ∃ i : Nat, iv = .int .i64 i ∧ i ≤ kn ∧ sv = .string (orS F i) ∧ Below w1.heap.size w1 wr) (fun _ iv _ => kn - (intOf iv).toNat)
    case atStart => exact ⟨0, rfl, by omega, rfl, Below.refl _ _⟩
    case round =>
      obtain ⟨i, rfl, hi2, rfl, hbr⟩ := hrel
      have HBR := Lib.hid hbr
      have HBWr := Lib.hid (HBW.out.trans (hbr.mono HBW.out.size))
      have hss := HSZ.out i hi2
      obtain ⟨s, hs⟩ : ∃ s, s = orS F i := ⟨_, rfl⟩
      rw [← hs] at hss ⊢
      have HSS := Lib.hid (show orS F (i + 1) = (if i = 0 then s else s ++ ⟨#[124]⟩) ++ F i by rw [hs]; rfl)
      have HSI := Lib.hid hs
      clear hs
      by_cases hin : i < kn
      case neg =>
        have hin2 : ¬ (i : Int) < (kn : Int) := by omega
        have HEE := Lib.hid (show s = S by rw [HSI.out, HSV.out, show i = kn by omega])
        clear hbr
        go_wp2_with fail
        go_meet
        exact ⟨rfl, by rw [HEE.out], HBR.out⟩
      have hin2 : (i : Int) < (kn : Int) := by omega
      obtain ⟨b, off, hba, hcellG⟩ := (CellsF.below HKC.out (Nat.le_refl _) HBWr.out) (by omega)
      have hcell := hcellG i hin
      have hih := HIH.out i hin
      have hks := HKS.out i hin 1
      obtain ⟨y, hy⟩ : ∃ y, y = (kf i).hd := ⟨_, rfl⟩
      simp only at hcell hba
      have HFI := Lib.hid (show F i = shwS (kf i) 1 by rw [HF.out])
      rw [← hy] at hcell hih
      obtain ⟨U, hU⟩ : ∃ U, U = shwS (kf i) 1 := ⟨_, rfl⟩
      rw [← hU] at hks HFI
      have HCX := Lib.hid (fun w (hb : Below W.heap.size W w) => hih 1 (by omega) (by omega) w hb)
      rw [← hU] at HCX
      clear hih hU hy
      obtain ⟨ykind, ynt, ylz, ylo, yhi, ysn, ysa, ysc, ysf, ykn, yka, ykc⟩ := y
      have d0 : wr.cell? ⟨b, off + i * 7, none⟩ = some (.int .i64 ykind) := hcell 0 (by omega)
      have d1 : wr.cell? ⟨b, off + i * 7 + 1, none⟩ = some (.bool ynt) := hcell 1 (by omega)
      have d2 : wr.cell? ⟨b, off + i * 7 + 2, none⟩ = some (.bool ylz) := hcell 2 (by omega)
      have d3 : wr.cell? ⟨b, off + i * 7 + 3, none⟩ = some (.int .i64 ylo) := hcell 3 (by omega)
      have d4 : wr.cell? ⟨b, off + i * 7 + 4, none⟩ = some (.int .i64 yhi) := hcell 4 (by omega)
      have d5 : wr.cell? ⟨b, off + i * 7 + 5, none⟩ = some (.slice ysa ysn ysc) := hcell 5 (by omega)
      have d6 : wr.cell? ⟨b, off + i * 7 + 6, none⟩ = some (.slice yka ykn ykc) := hcell 6 (by omega)
      have zb := lt_of_cell d0
      simp only at zb
      clear hcell hcellG
      subst hba
      unfold PH.cells at HCX
      simp only at HCX
      obtain ⟨wx, hwx⟩ : ∃ wx, wx = wr.alloc (.cells #[.int .i64 ykind, .bool ynt, .bool ylz, .int .i64 ylo, .int .i64 yhi, .slice ysa ysn ysc, .slice yka ykn ykc] 25) := ⟨_, rfl⟩
      have HBX := Lib.hid (show Below wr.heap.size wr wx by rw [hwx]; exact (Below.refl _ _).alloc (Nat.le_refl _) _)
      have HBY := Lib.hid (hbr.trans (HBX.out.mono hbr.size))
      have HBWx := Lib.hid (HBWr.out.trans (HBX.out.mono HBWr.out.size))
      obtain ⟨X, hXe⟩ : ∃ X, X = wr.heap.size := ⟨_, rfl⟩
      have HX := Lib.hid (show Blk wx X #[.int .i64 ykind, .bool ynt, .bool ylz, .int .i64 ylo, .int .i64 yhi, .slice ysa ysn ysc, .slice yka ykn ykc] 25 by rw [hwx, hXe]; exact Blk.new _ _ _)
      have HWX := Lib.hid hwx
      have HXE := Lib.hid hXe
      have hXl := HX.out.lt
      clear hwx hXe hbr
      go_upto_region 27 with fail
      rw [← HWX.out, ← HXE.out]
      have c0 : wx.cell? ⟨X, 0, none⟩ = some (.int .i64 ykind) := HX.out.cell (i := 0) rfl
      have c1 : wx.cell? ⟨X, 1, none⟩ = some (.bool ynt) := HX.out.cell (i := 1) rfl
      have c2 : wx.cell? ⟨X, 2, none⟩ = some (.bool ylz) := HX.out.cell (i := 2) rfl
      have c3 : wx.cell? ⟨X, 3, none⟩ = some (.int .i64 ylo) := HX.out.cell (i := 3) rfl
      have c4 : wx.cell? ⟨X, 4, none⟩ = some (.int .i64 yhi) := HX.out.cell (i := 4) rfl
      have c5 : wx.cell? ⟨X, 5, none⟩ = some (.slice ysa ysn ysc) := HX.out.cell (i := 5) rfl
      have c6 : wx.cell? ⟨X, 6, none⟩ = some (.slice yka ykn ykc) := HX.out.cell (i := 6) rfl
      have HC := Lib.hid (HCX.out wx HBWx.out)
      by_cases hi0 : i = 0
      · have HEE := Lib.hid (show orS F (i + 1) = s ++ U by rw [HSS.out, HFI.out, if_pos hi0])
        have hi00 : ¬ (0 : Int) < (i : Int) := by omega
        clear hi0
        go_wp2_with (go_at_call 27; refine HC.out.mono ?_; rintro e w3 ⟨rfl, hb3⟩)
        go_roundw
        case rel => exact ⟨i + 1, by go_num, by omega, by rw [HEE.out]; (try rfl), HBY.out.trans (hb3.mono HBY.out.size)⟩
        case measure => (simp [intOf]; try omega)
      · have HEE := Lib.hid (show orS F (i + 1) = s ++ ⟨#[124]⟩ ++ U by rw [HSS.out, HFI.out, if_neg hi0])
        have hi00 : (0 : Int) < (i : Int) := by omega
        clear hi0
        go_wp2_with (go_at_call 27; refine HC.out.mono ?_; rintro e w3 ⟨rfl, hb3⟩)
        go_roundw
        case rel => exact ⟨i + 1, by go_num, by omega, by rw [HEE.out]; (try rfl), HBY.out.trans (hb3.mono HBY.out.size)⟩
        case measure => (simp [intOf]; try omega)
  case rest =>
    obtain ⟨rfl, rfl, hb⟩ := hcut
    obtain ⟨w5, rfl⟩ : ∃ x : World, x = wc := ⟨_, rfl⟩
    have HB5 := Lib.hid (HB1.out.trans (hb.mono HB1.out.size))
    have hSz : S.size ≤ 500000 := (by rw [HSV.out]; have := HSZ.out kn (Nat.le_refl _); omega)
    clear p0 p1 p2 p3 p4 p5 p6 hb hPl
    by_cases hol : (0 : Int) < lv
    · have HE := Lib.hid (show V = ⟨#[40, 63, 58]⟩ ++ S ++ ⟨#[41]⟩ by rw [HVB.out, brS, if_pos hol])
      go_wp2_with fail
      go_ret
      exact ⟨by rw [HE.out]; rfl, HB5.out⟩
    · have HE := Lib.hid (show V = S by rw [HVB.out, brS, if_neg hol])
      go_wp2_with fail
      go_ret
      exact ⟨by rw [HE.out]; rfl, HB5.out⟩
end Go.Proofs.YtghbicajcffjhaaDoor.PC
