
/-
  A node and its kids are checked.
-/
import Derived.Test.YtghbicajcffjhaaDoorPcShape
namespace Go.Proofs.YtghbicajcffjhaaDoor.PC
open Go.RowKit Go.Law Go.Law.Pn
set_option linter.unusedVariables false
set_option linter.unusedSimpArgs false
set_option maxRecDepth 100000
set_option maxHeartbeats 8000000 in
theorem node_any (W : World) : ∀ (t : PT), t.Ok W → ∀ (d n g : Int) (K : Nat) (w : World), 0 ≤ d → d ≤ 20 → 0 ≤ n → n ≤ 200 → 0 ≤ g → g ≤ 9 → W.heap.size ≤ K → Below W.heap.size W w → Blk w K #[.int .i64 n, .int .i64 g] 72 →
    Calls Tryd.prog 25 #[.pointer (some ⟨K, 0, none⟩), .agg t.hd.cells.toArray, .int .i64 (d + 1)] w fun e w' => e = .returned (.int .i64 (ckN t d n g).1) ∧ Blk w' K #[.int .i64 (ckN t d n g).2.1, .int .i64 (ckN t d n g).2.2] 72 ∧ Only K w w'
  | .nil, hok, _, _, _, _, _, _, _, _, _, _, _, _, _, _ => False.elim hok
  | .mk h kf, hok, d, n, g, K, w, hd0, hd1, hn0, hn1, hg0, hg1, hK, hbel, hblk => by
    have HIH := Lib.hid (fun i (hi : i < h.kn) => node_any W (kf i) (hok.2.2 i hi))
    obtain ⟨E, hE⟩ : ∃ E, E = ckN (.mk h kf) d n g := ⟨_, rfl⟩
    rw [← hE]
    have HV := Lib.hid hE
    obtain ⟨⟨hs, hkm⟩, hkc, hkq⟩ := hok
    unfold maxLen at hkm
    clear hkq
    obtain ⟨kind, nt, lz, lo, hi, sn, sa, sc, sf, kn, ka, kc⟩ := h
    obtain ⟨SH, hSH⟩ : ∃ SH, SH = shpE ⟨kind, nt, lz, lo, hi, sn, sa, sc, sf, kn, ka, kc⟩ := ⟨_, rfl⟩
    have HSH := Lib.hid hSH
    simp only at hkm
    have HS := Lib.hid (show SetOk W sa sn sf from hs)
    have HKC := Lib.hid (show CellsF W ka kn 7 (fun i => (kf i).hd.V) from hkc)
    have HB := Lib.hid hbel
    have HBK := Lib.hid hblk
    have x0 := hblk.cell (i := 0) rfl
    have x1 := hblk.cell (i := 1) rfl
    have fr := hblk.frozen
    have hKl := hblk.lt
    show Calls _ _ #[_, .agg (PH.cells ⟨kind, nt, lz, lo, hi, sn, sa, sc, sf, kn, ka, kc⟩).toArray, _] _ _
    unfold PH.cells
    clear hE hs hkc hbel hblk hSH
    have e1 : IntKind.i64.wrap (n + 1) = n + 1 := IntWalk.i64_in _ ⟨by omega, by omega⟩
    have e2 : IntKind.i64.wrap (g + 1) = g + 1 := IntWalk.i64_in _ ⟨by omega, by omega⟩
    have e3 : IntKind.i64.wrap (d + 1 + 1) = d + 1 + 1 := IntWalk.i64_in _ ⟨by omega, by omega⟩
    go_enter Tryd.func25, Tryd.ntmps25
    go_upto_region 2 with fail
    obtain ⟨w1, hw1⟩ : ∃ w1, w1 = (w.setCell ⟨K, 0, none⟩ (.int .i64 (n + 1))).alloc (.cells #[.int .i64 kind, .bool nt, .bool lz, .int .i64 lo, .int .i64 hi, .slice sa sn sc, .slice ka kn kc] 25) := ⟨_, rfl⟩
    have HO1 := Lib.hid (show Only K w w1 by rw [hw1]; exact (Only.set (Only.of_below (Below.refl w.heap.size w) (Nat.le_refl _)) 0 _).more ((Below.refl _ _).alloc (Nat.le_refl _) _) (Nat.le_refl _))
    have HK1 := Lib.hid (show Blk w1 K #[.int .i64 (n + 1), .int .i64 g] 72 by rw [hw1]; exact (HBK.out.set 0 _).alloc _)
    obtain ⟨P, hP⟩ : ∃ P, P = w.heap.size := ⟨_, rfl⟩
    have HP1 := Lib.hid (show Blk w1 P #[.int .i64 kind, .bool nt, .bool lz, .int .i64 lo, .int .i64 hi, .slice sa sn sc, .slice ka kn kc] 25 by rw [hw1, hP, show w.heap.size = (w.setCell ⟨K, 0, none⟩ (.int .i64 (n + 1))).heap.size by simp]; exact Blk.new _ _ _)
    have hPK : K < P := by rw [hP]; exact hKl
    rw [← hw1, ← hP]
    have HPE := Lib.hid hP
    clear hw1 hP x0 x1 fr hKl
    by_cases c1 : 200 < n + 1
    · have HE := Lib.hid (show E = (3, n + 1, g) by rw [HV.out]; unfold ckN; rw [if_pos c1])
      have x0 := HK1.out.cell (i := 0) rfl
      go_wp2_with fail
      go_ret
      rw [HE.out]
      exact ⟨rfl, HK1.out, HO1.out⟩
    have HC1 := Lib.hid c1
    by_cases c2 : 20 ≤ d
    · have HE := Lib.hid (show E = (22, n + 1, g) by rw [HV.out]; unfold ckN; rw [if_neg (by have := HC1.out; omega), if_pos c2])
      have x0 := HK1.out.cell (i := 0) rfl
      have c2' : 20 < d + 1 := by omega
      go_wp2_with fail
      go_ret
      rw [HE.out]
      exact ⟨rfl, HK1.out, HO1.out⟩
    have HC2 := Lib.hid c2
    have c2' : ¬ 20 < d + 1 := by omega
    have x0 := HK1.out.cell (i := 0) rfl
    have p0 := HP1.out.cell (i := 0) rfl
    have p1 := HP1.out.cell (i := 1) rfl
    have p2 := HP1.out.cell (i := 2) rfl
    have p3 := HP1.out.cell (i := 3) rfl
    have p4 := HP1.out.cell (i := 4) rfl
    have p5 := HP1.out.cell (i := 5) rfl
    have p6 := HP1.out.cell (i := 6) rfl
    have HBW1 := Lib.hid (show Below W.heap.size W w1 from HB.out.trans (HO1.out.to_below (HB.out.size) hK))
    go_upto_region 7 with (go_at_call 55; refine (shape_any ⟨kind, nt, lz, lo, hi, sn, sa, sc, sf, kn, ka, kc⟩ _ (CellsF.below HS.out (Nat.le_refl _) HBW1.out)).mono ?_; rintro e w2 ⟨rfl, hb2⟩)
    rw [← HSH.out]
    have HK2 := Lib.hid (HK1.out.below hb2 HK1.out.lt)
    have HP2 := Lib.hid (HP1.out.below hb2 HP1.out.lt)
    have HO2 := Lib.hid (HO1.out.more hb2 (Nat.le_refl _))
    clear hb2 x0 p0 p1 p2 p3 p4 p5 p6
    by_cases c3 : SH = 0
    case neg =>
      have HE := Lib.hid (show E = (SH, n + 1, g) by rw [HV.out]; unfold ckN; rw [if_neg (by have := HC1.out; omega), if_neg (by have := HC2.out; omega), ← HSH.out, if_pos c3])
      have c3' : (SH != 0) = true := by simpa using c3
      go_wp2_with fail
      go_ret
      rw [HE.out]
      exact ⟨rfl, HK2.out, HO2.out⟩
    have c3' : (SH != 0) = false := by simpa using c3
    have HC3 := Lib.hid c3
    clear c3
    have y0 := HK2.out.cell (i := 0) rfl
    have y1 := HK2.out.cell (i := 1) rfl
    have yf := HK2.out.frozen
    have q0 := HP2.out.cell (i := 0) rfl
    have q6 := HP2.out.cell (i := 6) rfl
    have hKl := HK2.out.lt
    by_cases c4 : kind = 7 ∧ 9 < g + 1
    · have HE := Lib.hid (show E = (3, n + 1, g + 1) by rw [HV.out]; unfold ckN; rw [if_neg (by have := HC1.out; omega), if_neg (by have := HC2.out; omega), ← HSH.out, if_neg (by rw [HC3.out]; simp), if_pos c4])
      have c5 : (kind == 7) = true := by simpa using c4.1
      have c6 := c4.2
      go_wp2_with fail
      go_ret
      rw [HE.out]
      exact ⟨rfl, HK2.out.set 1 _, HO2.out.set 1 _⟩
    have HC4 := Lib.hid c4
    clear c4
    obtain ⟨F, hF⟩ : ∃ F : Nat → Int → Int → Int × Int × Int, F = fun i n g => if likeB ⟨kind, nt, lz, lo, hi, sn, sa, sc, sf, kn, ka, kc⟩ (kf i).hd then (4, n, g) else ckN (kf i) (d + 1) n g := ⟨_, rfl⟩
    obtain ⟨G, hG⟩ : ∃ G : Int, G = if kind = 7 then g + 1 else g := ⟨_, rfl⟩
    have HR := Lib.hid (show E = runK F (n + 1) G kn by
      rw [HV.out, hF, hG]
      exact ckN_kids (by have := HC1.out; omega) (by have := HC2.out; omega) (by rw [← HSH.out]; exact HC3.out) HC4.out)
    have HF := Lib.hid hF
    have HG := Lib.hid hG
    have hg2 : 0 ≤ G ∧ G ≤ 9 := by
      rw [hG]
      have := HC4.out
      split <;> omega
    clear hF hG
    have HFR := Lib.hid (show ∀ i, i < kn → ∀ n g, Rg n g → (F i n g).1 = 0 → Rg (F i n g).2.1 (F i n g).2.2 by
      intro i _ n g hr hz
      rw [HF.out] at hz ⊢
      simp only at hz ⊢
      by_cases hl : likeB ⟨kind, nt, lz, lo, hi, sn, sa, sc, sf, kn, ka, kc⟩ (kf i).hd
      · rw [if_pos hl] at hz; simp at hz
      · rw [if_neg hl] at hz ⊢
        exact ckN_range (kf i) (d + 1) n g hr hz)
    by_cases c7 : kind = 7
    · have c5 : (kind == 7) = true := by simpa using c7
      have c6 : ¬ 9 < g + 1 := by have := HC4.out; omega
      have HC7 := Lib.hid c7
      have hGG := Lib.hid (show G = g + 1 by rw [HG.out, if_pos c7])
      clear c7
      go_wp2_with fail
      have HKc : Hid (Blk (w2.setCell ⟨K, 1, none⟩ (.int .i64 (g + 1))) K #[.int .i64 (n + 1), .int .i64 G] 72) := Lib.hid (by rw [hGG.out]; exact HK2.out.set 1 _)
      have HPc := Lib.hid (HP2.out.other (a := ⟨K, 1, none⟩) (fun hh => by have hh2 : P = K := hh; omega) (.int .i64 (g + 1)))
      have HOc := Lib.hid (HO2.out.set 1 (.int .i64 (g + 1)))
      obtain ⟨wc, hwc⟩ : ∃ wc, wc = (w2.setCell ⟨K, 1, none⟩ (.int .i64 (g + 1))) := ⟨_, rfl⟩
      rw [← hwc] at HKc HPc HOc ⊢
      clear hwc
      go_loopw [48] (fun iv wr => ∃ i : Nat, iv = .int .i64 i ∧ i ≤ kn ∧ (runK F (n + 1) G i).1 = 0 ∧ Blk wr K #[.int .i64 (runK F (n + 1) G i).2.1, .int .i64 (runK F (n + 1) G i).2.2] 72 ∧ Blk wr P #[.int .i64 kind, .bool nt, .bool lz, .int .i64 lo, .int .i64 hi, .slice sa sn sc, .slice ka kn kc] 25 ∧ Only K w wr) (fun iv _ => kn - (intOf iv).toNat)
      case atStart => exact ⟨0, rfl, by omega, rfl, HKc.out, HPc.out, HOc.out⟩
      case round =>
        obtain ⟨i, rfl, hi, hz, hkb, hpb, ho⟩ := hrel
        have HZ := Lib.hid hz
        have hrg := runK_range (F := F) (m := kn) HFR.out (n := n + 1) (g := G) ⟨by omega, by omega, hg2.1, hg2.2⟩ i hi hz
        obtain ⟨ni, hni⟩ : ∃ ni, ni = (runK F (n + 1) G i).2.1 := ⟨_, rfl⟩
        obtain ⟨gi, hgi⟩ : ∃ gi, gi = (runK F (n + 1) G i).2.2 := ⟨_, rfl⟩
        rw [← hni, ← hgi] at hkb hrg
        have HNI := Lib.hid hni
        have HGI := Lib.hid hgi
        have HKB := Lib.hid hkb
        have HPB := Lib.hid hpb
        have HO := Lib.hid ho
        obtain ⟨r1, r2, r3, r4⟩ := hrg
        have q0 := hpb.cell (i := 0) rfl
        have hPl := hpb.lt
        have hKl2 := hkb.lt
        have HBW := Lib.hid (show Below W.heap.size W wr from HB.out.trans (ho.to_below HB.out.size hK))
        clear hz hkb hpb ho hni hgi
        by_cases hin : i < kn
        · have hin2 : (i : Int) < (kn : Int) := by omega
          obtain ⟨b, off, hba, hcellG⟩ := (CellsF.below HKC.out (Nat.le_refl _) HBW.out) (by omega)
          have hcell := hcellG i hin
          have hih := HIH.out i hin
          obtain ⟨y, hy⟩ : ∃ y, y = (kf i).hd := ⟨_, rfl⟩
          simp only at hcell hba
          rw [← hy] at hcell hih
          have HY := Lib.hid hy
          obtain ⟨ykind, ynt, ylz, ylo, yhi, ysn, ysa, ysc, ysf, ykn, yka, ykc⟩ := y
          have d0 : wr.cell? ⟨b, off + i * 7, none⟩ = some (.int .i64 ykind) := hcell 0 (by omega)
          have d1 : wr.cell? ⟨b, off + i * 7 + 1, none⟩ = some (.bool ynt) := hcell 1 (by omega)
          have d2 : wr.cell? ⟨b, off + i * 7 + 2, none⟩ = some (.bool ylz) := hcell 2 (by omega)
          have d3 : wr.cell? ⟨b, off + i * 7 + 3, none⟩ = some (.int .i64 ylo) := hcell 3 (by omega)
          have d4 : wr.cell? ⟨b, off + i * 7 + 4, none⟩ = some (.int .i64 yhi) := hcell 4 (by omega)
          have d5 : wr.cell? ⟨b, off + i * 7 + 5, none⟩ = some (.slice ysa ysn ysc) := hcell 5 (by omega)
          have d6 : wr.cell? ⟨b, off + i * 7 + 6, none⟩ = some (.slice yka ykn ykc) := hcell 6 (by omega)
          have zb := lt_of_cell d0
          simp only at zb
          clear hcell hcellG hy
          subst hba
          have HIHH := Lib.hid hih
          clear hih
          by_cases hl : (kind = 4 ∧ ykind = 4) ∨ (kind = 5 ∧ ykind = 5)
          · have HE := Lib.hid (show E = (4, ni, gi) by
              have h1 : F i ni gi = (4, ni, gi) := by
                rw [HF.out]
                simp only
                rw [if_pos (by rw [← HY.out]; unfold likeB; simp only; omega)]
              have h2 : runK F (n + 1) G (i + 1) = (4, ni, gi) := by rw [runK_step HZ.out, ← HNI.out, ← HGI.out, h1]
              rw [HR.out, runK_stop (i := i + 1) (by rw [h2]; show (4 : Int) ≠ 0; omega) (by omega), h2])
            have HOX := Lib.hid (HO.out.more ((Below.refl _ _).alloc (Nat.le_refl _) (.cells #[.int .i64 ykind, .bool ynt, .bool ylz, .int .i64 ylo, .int .i64 yhi, .slice ysa ysn ysc, .slice yka ykn ykc] 25)) (Nat.le_refl _))
            have HKX := Lib.hid (HKB.out.alloc (.cells #[.int .i64 ykind, .bool ynt, .bool ylz, .int .i64 ylo, .int .i64 yhi, .slice ysa ysn ysc, .slice yka ykn ykc] 25))
            rcases hl with ⟨hl1, hl2⟩ | ⟨hl1, hl2⟩
            all_goals
              have hl3 := hl1
              subst hl1 hl2
              go_wp2_with fail
              go_ret
              rw [HE.out]
              exact ⟨rfl, HKX.out, HOX.out⟩
          have HNL := Lib.hid hl
          have g1 : kind = 4 → ¬ ykind = 4 := fun h1 h2 => hl (.inl ⟨h1, h2⟩)
          have g2 : kind = 5 → ¬ ykind = 5 := fun h1 h2 => hl (.inr ⟨h1, h2⟩)
          have G1 := Lib.hid g1
          have G2 := Lib.hid g2
          clear g1 g2 hl
          have HCF := Lib.hid (show runK F (n + 1) G (i + 1) = ckN (kf i) (d + 1) ni gi by
            rw [runK_step HZ.out, ← HNI.out, ← HGI.out, HF.out]
            simp only
            rw [if_neg (by rw [← HY.out]; unfold likeB; simp only; have h1 := G1.out; have h2 := G2.out; omega)])
          obtain ⟨wx, hwx⟩ : ∃ wx, wx = wr.alloc (.cells #[.int .i64 ykind, .bool ynt, .bool ylz, .int .i64 ylo, .int .i64 yhi, .slice ysa ysn ysc, .slice yka ykn ykc] 25) := ⟨_, rfl⟩
          have HBX := Lib.hid (show Below wr.heap.size wr wx by rw [hwx]; exact (Below.refl _ _).alloc (Nat.le_refl _) _)
          have HX := Lib.hid (show Blk wx wr.heap.size #[.int .i64 ykind, .bool ynt, .bool ylz, .int .i64 ylo, .int .i64 yhi, .slice ysa ysn ysc, .slice yka ykn ykc] 25 by rw [hwx]; exact Blk.new _ _ _)
          have hsx := HBX.out.size
          have HKX := Lib.hid (HKB.out.below HBX.out hKl2)
          have HPX := Lib.hid (HPB.out.below HBX.out hPl)
          have HOX := Lib.hid (HO.out.more HBX.out (Nat.le_refl _))
          have HWX := Lib.hid hwx
          clear hwx
          have hxP := HPX.out.cell (i := 0) rfl
          have hx0 := HX.out.cell (i := 0) rfl
          have hx1 := HX.out.cell (i := 1) rfl
          have hx2 := HX.out.cell (i := 2) rfl
          have hx3 := HX.out.cell (i := 3) rfl
          have hx4 := HX.out.cell (i := 4) rfl
          have hx5 := HX.out.cell (i := 5) rfl
          have hx6 := HX.out.cell (i := 6) rfl
          by_cases k4 : kind = 4
          · have k6 := G1.out k4
            have k7 : (ykind == 4) = false := by simpa using k6
            clear k6
            subst k4
            go_upto_region 18 with fail
            rw [← HWX.out]
            have hcall := HIHH.out
            unfold PH.cells at hcall
            obtain ⟨X, hX⟩ : ∃ X, X = ckN (kf i) (d + 1) ni gi := ⟨_, rfl⟩
            have hc := hcall (d + 1) ni gi K wx (by omega) (by have := HC2.out; omega) r1 r2 r3 r4 hK (HBW.out.trans (HBX.out.mono HBW.out.size)) HKX.out
            rw [← hX] at hc
            have HCFX := Lib.hid (HCF.out.trans hX.symm)
            have HCX := Lib.hid hc
            clear hc hcall hX
            by_cases hx : X.1 = 0
            case neg =>
              have hx2 : (X.1 != 0) = true := by simpa using hx
              have HE := Lib.hid (show E = X by
                rw [HR.out, runK_stop (i := i + 1) (by rw [HCFX.out]; exact hx) (by omega), HCFX.out])
              clear hx
              go_wp2_with (go_at_call 25; refine HCX.out.mono ?_; rintro e w3 ⟨rfl, hk3, ho3⟩)
              go_ret
              rw [HE.out]
              exact ⟨rfl, hk3, HOX.out.trans ho3⟩
            case pos =>
              have hx2 : (X.1 != 0) = false := by simpa using hx
              have HX0 := Lib.hid hx
              clear hx
              go_wp2_with (go_at_call 25; refine HCX.out.mono ?_; rintro e w3 ⟨rfl, hk3, ho3⟩)
              go_roundw
              case rel => exact ⟨i + 1, by go_num, by omega, by rw [HCFX.out]; exact HX0.out, by rw [HCFX.out]; exact hk3, HPX.out.block (Aside.block ho3 P HPX.out.lt (by omega) (by simp [Value.ownBlock])), HOX.out.trans ho3⟩
              case measure => simp [intOf]; omega
          · have k5 : (kind == 4) = false := by simpa using k4
            clear k4
            by_cases k8 : kind = 5
            · have k6 := G2.out k8
              have k7 : (ykind == 5) = false := by simpa using k6
              clear k6 k5
              subst k8
              go_upto_region 18 with fail
              rw [← HWX.out]
              have hcall := HIHH.out
              unfold PH.cells at hcall
              obtain ⟨X, hX⟩ : ∃ X, X = ckN (kf i) (d + 1) ni gi := ⟨_, rfl⟩
              have hc := hcall (d + 1) ni gi K wx (by omega) (by have := HC2.out; omega) r1 r2 r3 r4 hK (HBW.out.trans (HBX.out.mono HBW.out.size)) HKX.out
              rw [← hX] at hc
              have HCFX := Lib.hid (HCF.out.trans hX.symm)
              have HCX := Lib.hid hc
              clear hc hcall hX
              by_cases hx : X.1 = 0
              case neg =>
                have hx2 : (X.1 != 0) = true := by simpa using hx
                have HE := Lib.hid (show E = X by
                  rw [HR.out, runK_stop (i := i + 1) (by rw [HCFX.out]; exact hx) (by omega), HCFX.out])
                clear hx
                go_wp2_with (go_at_call 25; refine HCX.out.mono ?_; rintro e w3 ⟨rfl, hk3, ho3⟩)
                go_ret
                rw [HE.out]
                exact ⟨rfl, hk3, HOX.out.trans ho3⟩
              case pos =>
                have hx2 : (X.1 != 0) = false := by simpa using hx
                have HX0 := Lib.hid hx
                clear hx
                go_wp2_with (go_at_call 25; refine HCX.out.mono ?_; rintro e w3 ⟨rfl, hk3, ho3⟩)
                go_roundw
                case rel => exact ⟨i + 1, by go_num, by omega, by rw [HCFX.out]; exact HX0.out, by rw [HCFX.out]; exact hk3, HPX.out.block (Aside.block ho3 P HPX.out.lt (by omega) (by simp [Value.ownBlock])), HOX.out.trans ho3⟩
                case measure => simp [intOf]; omega
            · have k9 : (kind == 5) = false := by simpa using k8
              clear k8
              go_upto_region 18 with fail
              rw [← HWX.out]
              have hcall := HIHH.out
              unfold PH.cells at hcall
              obtain ⟨X, hX⟩ : ∃ X, X = ckN (kf i) (d + 1) ni gi := ⟨_, rfl⟩
              have hc := hcall (d + 1) ni gi K wx (by omega) (by have := HC2.out; omega) r1 r2 r3 r4 hK (HBW.out.trans (HBX.out.mono HBW.out.size)) HKX.out
              rw [← hX] at hc
              have HCFX := Lib.hid (HCF.out.trans hX.symm)
              have HCX := Lib.hid hc
              clear hc hcall hX
              by_cases hx : X.1 = 0
              case neg =>
                have hx2 : (X.1 != 0) = true := by simpa using hx
                have HE := Lib.hid (show E = X by
                  rw [HR.out, runK_stop (i := i + 1) (by rw [HCFX.out]; exact hx) (by omega), HCFX.out])
                clear hx
                go_wp2_with (go_at_call 25; refine HCX.out.mono ?_; rintro e w3 ⟨rfl, hk3, ho3⟩)
                go_ret
                rw [HE.out]
                exact ⟨rfl, hk3, HOX.out.trans ho3⟩
              case pos =>
                have hx2 : (X.1 != 0) = false := by simpa using hx
                have HX0 := Lib.hid hx
                clear hx
                go_wp2_with (go_at_call 25; refine HCX.out.mono ?_; rintro e w3 ⟨rfl, hk3, ho3⟩)
                go_roundw
                case rel => exact ⟨i + 1, by go_num, by omega, by rw [HCFX.out]; exact HX0.out, by rw [HCFX.out]; exact hk3, HPX.out.block (Aside.block ho3 P HPX.out.lt (by omega) (by simp [Value.ownBlock])), HOX.out.trans ho3⟩
                case measure => simp [intOf]; omega
        · have HE := Lib.hid (show E = (0, ni, gi) by
            have h1 : i = kn := by omega
            rw [HR.out, ← h1, HNI.out, HGI.out, ← HZ.out])
          have hin2 : ¬ (i : Int) < (kn : Int) := by omega
          go_wp2_with fail
          go_ret
          rw [HE.out]
          exact ⟨rfl, HKB.out, HO.out⟩
    · have c5 : (kind == 7) = false := by simpa using c7
      have HC7 := Lib.hid c7
      have hGG := Lib.hid (show G = g by rw [HG.out, if_neg c7])
      clear c7
      go_wp2_with fail
      have HKc : Hid (Blk w2 K #[.int .i64 (n + 1), .int .i64 G] 72) := Lib.hid (by rw [hGG.out]; exact HK2.out)
      have HPc := Lib.hid HP2.out
      have HOc := Lib.hid HO2.out
      obtain ⟨wc, hwc⟩ : ∃ wc, wc = w2 := ⟨_, rfl⟩
      rw [← hwc] at HKc HPc HOc ⊢
      clear hwc
      go_loopw [48] (fun iv wr => ∃ i : Nat, iv = .int .i64 i ∧ i ≤ kn ∧ (runK F (n + 1) G i).1 = 0 ∧ Blk wr K #[.int .i64 (runK F (n + 1) G i).2.1, .int .i64 (runK F (n + 1) G i).2.2] 72 ∧ Blk wr P #[.int .i64 kind, .bool nt, .bool lz, .int .i64 lo, .int .i64 hi, .slice sa sn sc, .slice ka kn kc] 25 ∧ Only K w wr) (fun iv _ => kn - (intOf iv).toNat)
      case atStart => exact ⟨0, rfl, by omega, rfl, HKc.out, HPc.out, HOc.out⟩
      case round =>
        obtain ⟨i, rfl, hi, hz, hkb, hpb, ho⟩ := hrel
        have HZ := Lib.hid hz
        have hrg := runK_range (F := F) (m := kn) HFR.out (n := n + 1) (g := G) ⟨by omega, by omega, hg2.1, hg2.2⟩ i hi hz
        obtain ⟨ni, hni⟩ : ∃ ni, ni = (runK F (n + 1) G i).2.1 := ⟨_, rfl⟩
        obtain ⟨gi, hgi⟩ : ∃ gi, gi = (runK F (n + 1) G i).2.2 := ⟨_, rfl⟩
        rw [← hni, ← hgi] at hkb hrg
        have HNI := Lib.hid hni
        have HGI := Lib.hid hgi
        have HKB := Lib.hid hkb
        have HPB := Lib.hid hpb
        have HO := Lib.hid ho
        obtain ⟨r1, r2, r3, r4⟩ := hrg
        have q0 := hpb.cell (i := 0) rfl
        have hPl := hpb.lt
        have hKl2 := hkb.lt
        have HBW := Lib.hid (show Below W.heap.size W wr from HB.out.trans (ho.to_below HB.out.size hK))
        clear hz hkb hpb ho hni hgi
        by_cases hin : i < kn
        · have hin2 : (i : Int) < (kn : Int) := by omega
          obtain ⟨b, off, hba, hcellG⟩ := (CellsF.below HKC.out (Nat.le_refl _) HBW.out) (by omega)
          have hcell := hcellG i hin
          have hih := HIH.out i hin
          obtain ⟨y, hy⟩ : ∃ y, y = (kf i).hd := ⟨_, rfl⟩
          simp only at hcell hba
          rw [← hy] at hcell hih
          have HY := Lib.hid hy
          obtain ⟨ykind, ynt, ylz, ylo, yhi, ysn, ysa, ysc, ysf, ykn, yka, ykc⟩ := y
          have d0 : wr.cell? ⟨b, off + i * 7, none⟩ = some (.int .i64 ykind) := hcell 0 (by omega)
          have d1 : wr.cell? ⟨b, off + i * 7 + 1, none⟩ = some (.bool ynt) := hcell 1 (by omega)
          have d2 : wr.cell? ⟨b, off + i * 7 + 2, none⟩ = some (.bool ylz) := hcell 2 (by omega)
          have d3 : wr.cell? ⟨b, off + i * 7 + 3, none⟩ = some (.int .i64 ylo) := hcell 3 (by omega)
          have d4 : wr.cell? ⟨b, off + i * 7 + 4, none⟩ = some (.int .i64 yhi) := hcell 4 (by omega)
          have d5 : wr.cell? ⟨b, off + i * 7 + 5, none⟩ = some (.slice ysa ysn ysc) := hcell 5 (by omega)
          have d6 : wr.cell? ⟨b, off + i * 7 + 6, none⟩ = some (.slice yka ykn ykc) := hcell 6 (by omega)
          have zb := lt_of_cell d0
          simp only at zb
          clear hcell hcellG hy
          subst hba
          have HIHH := Lib.hid hih
          clear hih
          by_cases hl : (kind = 4 ∧ ykind = 4) ∨ (kind = 5 ∧ ykind = 5)
          · have HE := Lib.hid (show E = (4, ni, gi) by
              have h1 : F i ni gi = (4, ni, gi) := by
                rw [HF.out]
                simp only
                rw [if_pos (by rw [← HY.out]; unfold likeB; simp only; omega)]
              have h2 : runK F (n + 1) G (i + 1) = (4, ni, gi) := by rw [runK_step HZ.out, ← HNI.out, ← HGI.out, h1]
              rw [HR.out, runK_stop (i := i + 1) (by rw [h2]; show (4 : Int) ≠ 0; omega) (by omega), h2])
            have HOX := Lib.hid (HO.out.more ((Below.refl _ _).alloc (Nat.le_refl _) (.cells #[.int .i64 ykind, .bool ynt, .bool ylz, .int .i64 ylo, .int .i64 yhi, .slice ysa ysn ysc, .slice yka ykn ykc] 25)) (Nat.le_refl _))
            have HKX := Lib.hid (HKB.out.alloc (.cells #[.int .i64 ykind, .bool ynt, .bool ylz, .int .i64 ylo, .int .i64 yhi, .slice ysa ysn ysc, .slice yka ykn ykc] 25))
            rcases hl with ⟨hl1, hl2⟩ | ⟨hl1, hl2⟩
            all_goals
              have hl3 := hl1
              subst hl1 hl2
              go_wp2_with fail
              go_ret
              rw [HE.out]
              exact ⟨rfl, HKX.out, HOX.out⟩
          have HNL := Lib.hid hl
          have g1 : kind = 4 → ¬ ykind = 4 := fun h1 h2 => hl (.inl ⟨h1, h2⟩)
          have g2 : kind = 5 → ¬ ykind = 5 := fun h1 h2 => hl (.inr ⟨h1, h2⟩)
          have G1 := Lib.hid g1
          have G2 := Lib.hid g2
          clear g1 g2 hl
          have HCF := Lib.hid (show runK F (n + 1) G (i + 1) = ckN (kf i) (d + 1) ni gi by
            rw [runK_step HZ.out, ← HNI.out, ← HGI.out, HF.out]
            simp only
            rw [if_neg (by rw [← HY.out]; unfold likeB; simp only; have h1 := G1.out; have h2 := G2.out; omega)])
          obtain ⟨wx, hwx⟩ : ∃ wx, wx = wr.alloc (.cells #[.int .i64 ykind, .bool ynt, .bool ylz, .int .i64 ylo, .int .i64 yhi, .slice ysa ysn ysc, .slice yka ykn ykc] 25) := ⟨_, rfl⟩
          have HBX := Lib.hid (show Below wr.heap.size wr wx by rw [hwx]; exact (Below.refl _ _).alloc (Nat.le_refl _) _)
          have HX := Lib.hid (show Blk wx wr.heap.size #[.int .i64 ykind, .bool ynt, .bool ylz, .int .i64 ylo, .int .i64 yhi, .slice ysa ysn ysc, .slice yka ykn ykc] 25 by rw [hwx]; exact Blk.new _ _ _)
          have hsx := HBX.out.size
          have HKX := Lib.hid (HKB.out.below HBX.out hKl2)
          have HPX := Lib.hid (HPB.out.below HBX.out hPl)
          have HOX := Lib.hid (HO.out.more HBX.out (Nat.le_refl _))
          have HWX := Lib.hid hwx
          clear hwx
          have hxP := HPX.out.cell (i := 0) rfl
          have hx0 := HX.out.cell (i := 0) rfl
          have hx1 := HX.out.cell (i := 1) rfl
          have hx2 := HX.out.cell (i := 2) rfl
          have hx3 := HX.out.cell (i := 3) rfl
          have hx4 := HX.out.cell (i := 4) rfl
          have hx5 := HX.out.cell (i := 5) rfl
          have hx6 := HX.out.cell (i := 6) rfl
          by_cases k4 : kind = 4
          · have k6 := G1.out k4
            have k7 : (ykind == 4) = false := by simpa using k6
            clear k6
            subst k4
            go_upto_region 18 with fail
            rw [← HWX.out]
            have hcall := HIHH.out
            unfold PH.cells at hcall
            obtain ⟨X, hX⟩ : ∃ X, X = ckN (kf i) (d + 1) ni gi := ⟨_, rfl⟩
            have hc := hcall (d + 1) ni gi K wx (by omega) (by have := HC2.out; omega) r1 r2 r3 r4 hK (HBW.out.trans (HBX.out.mono HBW.out.size)) HKX.out
            rw [← hX] at hc
            have HCFX := Lib.hid (HCF.out.trans hX.symm)
            have HCX := Lib.hid hc
            clear hc hcall hX
            by_cases hx : X.1 = 0
            case neg =>
              have hx2 : (X.1 != 0) = true := by simpa using hx
              have HE := Lib.hid (show E = X by
                rw [HR.out, runK_stop (i := i + 1) (by rw [HCFX.out]; exact hx) (by omega), HCFX.out])
              clear hx
              go_wp2_with (go_at_call 25; refine HCX.out.mono ?_; rintro e w3 ⟨rfl, hk3, ho3⟩)
              go_ret
              rw [HE.out]
              exact ⟨rfl, hk3, HOX.out.trans ho3⟩
            case pos =>
              have hx2 : (X.1 != 0) = false := by simpa using hx
              have HX0 := Lib.hid hx
              clear hx
              go_wp2_with (go_at_call 25; refine HCX.out.mono ?_; rintro e w3 ⟨rfl, hk3, ho3⟩)
              go_roundw
              case rel => exact ⟨i + 1, by go_num, by omega, by rw [HCFX.out]; exact HX0.out, by rw [HCFX.out]; exact hk3, HPX.out.block (Aside.block ho3 P HPX.out.lt (by omega) (by simp [Value.ownBlock])), HOX.out.trans ho3⟩
              case measure => simp [intOf]; omega
          · have k5 : (kind == 4) = false := by simpa using k4
            clear k4
            by_cases k8 : kind = 5
            · have k6 := G2.out k8
              have k7 : (ykind == 5) = false := by simpa using k6
              clear k6 k5
              subst k8
              go_upto_region 18 with fail
              rw [← HWX.out]
              have hcall := HIHH.out
              unfold PH.cells at hcall
              obtain ⟨X, hX⟩ : ∃ X, X = ckN (kf i) (d + 1) ni gi := ⟨_, rfl⟩
              have hc := hcall (d + 1) ni gi K wx (by omega) (by have := HC2.out; omega) r1 r2 r3 r4 hK (HBW.out.trans (HBX.out.mono HBW.out.size)) HKX.out
              rw [← hX] at hc
              have HCFX := Lib.hid (HCF.out.trans hX.symm)
              have HCX := Lib.hid hc
              clear hc hcall hX
              by_cases hx : X.1 = 0
              case neg =>
                have hx2 : (X.1 != 0) = true := by simpa using hx
                have HE := Lib.hid (show E = X by
                  rw [HR.out, runK_stop (i := i + 1) (by rw [HCFX.out]; exact hx) (by omega), HCFX.out])
                clear hx
                go_wp2_with (go_at_call 25; refine HCX.out.mono ?_; rintro e w3 ⟨rfl, hk3, ho3⟩)
                go_ret
                rw [HE.out]
                exact ⟨rfl, hk3, HOX.out.trans ho3⟩
              case pos =>
                have hx2 : (X.1 != 0) = false := by simpa using hx
                have HX0 := Lib.hid hx
                clear hx
                go_wp2_with (go_at_call 25; refine HCX.out.mono ?_; rintro e w3 ⟨rfl, hk3, ho3⟩)
                go_roundw
                case rel => exact ⟨i + 1, by go_num, by omega, by rw [HCFX.out]; exact HX0.out, by rw [HCFX.out]; exact hk3, HPX.out.block (Aside.block ho3 P HPX.out.lt (by omega) (by simp [Value.ownBlock])), HOX.out.trans ho3⟩
                case measure => simp [intOf]; omega
            · have k9 : (kind == 5) = false := by simpa using k8
              clear k8
              go_upto_region 18 with fail
              rw [← HWX.out]
              have hcall := HIHH.out
              unfold PH.cells at hcall
              obtain ⟨X, hX⟩ : ∃ X, X = ckN (kf i) (d + 1) ni gi := ⟨_, rfl⟩
              have hc := hcall (d + 1) ni gi K wx (by omega) (by have := HC2.out; omega) r1 r2 r3 r4 hK (HBW.out.trans (HBX.out.mono HBW.out.size)) HKX.out
              rw [← hX] at hc
              have HCFX := Lib.hid (HCF.out.trans hX.symm)
              have HCX := Lib.hid hc
              clear hc hcall hX
              by_cases hx : X.1 = 0
              case neg =>
                have hx2 : (X.1 != 0) = true := by simpa using hx
                have HE := Lib.hid (show E = X by
                  rw [HR.out, runK_stop (i := i + 1) (by rw [HCFX.out]; exact hx) (by omega), HCFX.out])
                clear hx
                go_wp2_with (go_at_call 25; refine HCX.out.mono ?_; rintro e w3 ⟨rfl, hk3, ho3⟩)
                go_ret
                rw [HE.out]
                exact ⟨rfl, hk3, HOX.out.trans ho3⟩
              case pos =>
                have hx2 : (X.1 != 0) = false := by simpa using hx
                have HX0 := Lib.hid hx
                clear hx
                go_wp2_with (go_at_call 25; refine HCX.out.mono ?_; rintro e w3 ⟨rfl, hk3, ho3⟩)
                go_roundw
                case rel => exact ⟨i + 1, by go_num, by omega, by rw [HCFX.out]; exact HX0.out, by rw [HCFX.out]; exact hk3, HPX.out.block (Aside.block ho3 P HPX.out.lt (by omega) (by simp [Value.ownBlock])), HOX.out.trans ho3⟩
                case measure => simp [intOf]; omega
        · have HE := Lib.hid (show E = (0, ni, gi) by
            have h1 : i = kn := by omega
            rw [HR.out, ← h1, HNI.out, HGI.out, ← HZ.out])
          have hin2 : ¬ (i : Int) < (kn : Int) := by omega
          go_wp2_with fail
          go_ret
          rw [HE.out]
          exact ⟨rfl, HKB.out, HO.out⟩
end Go.Proofs.YtghbicajcffjhaaDoor.PC
