
/-
  The text of a pattern; Check and Print.
-/
import Derived.Test.YtghbicajcffjhaaDoorPcShD
import Derived.Test.YtghbicajcffjhaaDoorPcNode
import Derived.Test.YtghbicajcffjhaaDoorPcRErr
namespace Go.Proofs.YtghbicajcffjhaaDoor.PC
open Go.RowKit Go.Law Go.Law.Pn
set_option linter.unusedVariables false
set_option linter.unusedSimpArgs false
set_option maxRecDepth 100000
theorem show_any (W : World) (hE : PEnv W) : ∀ (t : PT), t.Ok W → t.Val → t.cnt ≤ 200 → ∀ (lv : Int), 0 ≤ lv → lv ≤ 2 → ∀ w, Below W.heap.size W w →
    Calls Tryd.prog 27 #[.agg t.hd.cells.toArray, .int .i64 lv] w fun e w' => e = .returned (.string (shwS t lv)) ∧ Below w.heap.size w w'
  | .nil, hok, _, _, _, _, _, _, _ => False.elim hok
  | .mk h kf, hok, hval, hcnt, lv, hl0, hl2, w, hbel => by
    have hc1 : 1 + sumK (fun i => (kf i).cnt) h.kn ≤ 200 := by rw [PT.cnt] at hcnt; exact hcnt
    have HIH := Lib.hid (fun i (hi : i < h.kn) (lv : Int) (h0 : 0 ≤ lv) (h2 : lv ≤ 2) w (hb : Below W.heap.size W w) => show_any W hE (kf i) (hok.2.2 i hi) (hval.2 i hi) (by
      have h1 := sumK_mono (fun i => (kf i).cnt) (show i + 1 ≤ h.kn by omega)
      simp only [sumK] at h1
      omega) lv h0 h2 w hb)
    have HZ := Lib.hid (fun i (hi : i < h.kn) lv => shwS_size (kf i) (hval.2 i hi) lv)
    have HCN := Lib.hid hc1
    obtain ⟨⟨hs, hkm⟩, hkc, hkq⟩ := hok
    unfold maxLen at hkm
    have hV := hval.1
    obtain ⟨kind, nt, lz, lo, hi, sn, sa, sc, sf, kn, ka, kc⟩ := h
    simp only at hkm
    have HS := Lib.hid (show SetOk W sa sn sf from hs)
    have HKC := Lib.hid (show CellsF W ka kn 7 (fun i => (kf i).hd.V) from hkc)
    have HB := Lib.hid hbel
    have HEN := Lib.hid hE
    show Calls _ _ #[.agg #[.int .i64 kind, .bool nt, .bool lz, .int .i64 lo, .int .i64 hi, .slice sa sn sc, .slice ka kn kc], _] _ _
    have hk := (shp_good hV).1
    simp only at hk
    obtain rfl | rfl | rfl | rfl | rfl | rfl | rfl | rfl : kind = 0 ∨ kind = 1 ∨ kind = 2 ∨ kind = 3 ∨ kind = 4 ∨ kind = 5 ∨ kind = 6 ∨ kind = 7 := by omega
    · exact show0 nt lz lo hi sn sa sc sf kn ka kc lv w HIH HZ HCN HKC hkm HB HEN HS hl0 hl2 hV
    · exact show1 nt lz lo hi sn sa sc sf kn ka kc lv w HIH HZ HCN HKC hkm HB HEN HS hl0 hl2 hV
    · exact show2 nt lz lo hi sn sa sc sf kn ka kc lv w HIH HZ HCN HKC hkm HB HEN HS hl0 hl2 hV
    · exact show3 nt lz lo hi sn sa sc sf kn ka kc lv w HIH HZ HCN HKC hkm HB HEN HS hl0 hl2 hV
    · exact show4 nt lz lo hi sn sa sc sf kn ka kc lv w HIH HZ HCN HKC hkm HB HEN HS hl0 hl2 hV
    · exact show5 nt lz lo hi sn sa sc sf kn ka kc lv w HIH HZ HCN HKC hkm HB HEN HS hl0 hl2 hV
    · exact show6 nt lz lo hi sn sa sc sf kn ka kc lv w HIH HZ HCN HKC hkm HB HEN HS hl0 hl2 hV
    · exact show7 nt lz lo hi sn sa sc sf kn ka kc lv w HIH HZ HCN HKC hkm HB HEN HS hl0 hl2 hV
/-- what Check answers -/
noncomputable def chkE (t : PT) : Int := if t.err ≠ 0 then t.err else if 400 < (shwS t 0).size then 3 else 0
set_option maxHeartbeats 16000000 in
theorem check_any (W : World) (hE : PEnv W) (t : PT) (hok : t.Ok W) (w : World) (hbel : Below W.heap.size W w) :
    Calls Tryd.prog 7 #[.agg t.hd.cells.toArray] w fun e w' => e = .returned (.int .i64 (chkE t)) ∧ Below w.heap.size w w' := by
  obtain ⟨r, hr⟩ : ∃ r, r = ckN t 0 0 0 := ⟨_, rfl⟩
  have HN := Lib.hid (fun (K : Nat) (w : World) (h1 : W.heap.size ≤ K) (h4 : Below W.heap.size W w) (h5 : Blk w K #[.int .i64 0, .int .i64 0] 72) => node_any W t hok 0 0 0 K w (by omega) (by omega) (by omega) (by omega) (by omega) (by omega) h1 h4 h5)
  have HVL := Lib.hid (fun (h : r.1 = 0) => show t.Val ∧ t.cnt ≤ 200 from by
    have h1 := ckN_ok t 0 0 0 (by omega) (by rw [← hr]; exact h)
    exact ⟨h1.1, by have := h1.2.2; omega⟩)
  have HSZ := Lib.hid (fun (h : r.1 = 0) (w : World) (hb : Below W.heap.size W w) => size_any W t hok (HVL.out h).1 w hb)
  have HSH := Lib.hid (fun (h : r.1 = 0) (w : World) (hb : Below W.heap.size W w) => show_any W hE t hok (HVL.out h).1 (HVL.out h).2 0 (by omega) (by omega) w hb)
  have HSS := Lib.hid (fun (h : r.1 = 0) => show (shwS t 0).size ≤ 400000 from by
    have h1 := shwS_size t (HVL.out h).1 0
    have h2 := (HVL.out h).2
    omega)
  have HE := Lib.hid (show chkE t = if r.1 ≠ 0 then r.1 else if 4000 < t.sz then 3 else if 400 < (shwS t 0).size then 3 else 0 by
    unfold chkE PT.err
    rw [← hr]
    by_cases h1 : r.1 ≠ 0
    · rw [if_pos h1, if_pos h1, if_pos h1]
    · rw [if_neg h1, if_neg h1]
      by_cases h2 : 4000 < t.sz
      · rw [if_pos h2, if_pos h2]; rfl
      · rw [if_neg h2, if_neg h2]; rfl)
  rw [← hr] at HN
  obtain ⟨E, hEE⟩ : ∃ E, E = chkE t := ⟨_, rfl⟩
  rw [← hEE] at HE ⊢
  obtain ⟨s, hs⟩ : ∃ s, s = t.sz := ⟨_, rfl⟩
  rw [← hs] at HE HSZ
  obtain ⟨S, hS⟩ : ∃ S, S = shwS t 0 := ⟨_, rfl⟩
  rw [← hS] at HE HSH HSS
  obtain ⟨h, hh⟩ : ∃ h, h = t.hd := ⟨_, rfl⟩
  rw [← hh] at HN HSZ HSH ⊢
  have HB := Lib.hid hbel
  clear hr hEE hs hS hh hok hbel HVL hE
  obtain ⟨kind, nt, lz, lo, hi, sn, sa, sc, sf, kn, ka, kc⟩ := h
  unfold PH.cells at HN HSZ HSH ⊢
  have hWw := HB.out.size
  obtain ⟨w1, hw1⟩ : ∃ w1, w1 = (w.alloc (.cells #[.int .i64 kind, .bool nt, .bool lz, .int .i64 lo, .int .i64 hi, .slice sa sn sc, .slice ka kn kc] 25)).alloc (.cells #[.int .i64 0, .int .i64 0] 72) := ⟨_, rfl⟩
  have HB1 := Lib.hid (show Below w.heap.size w w1 by rw [hw1]; exact ((Below.refl _ _).alloc (Nat.le_refl _) _).alloc (by simp) _)
  have HX := Lib.hid (show Blk w1 w.heap.size #[.int .i64 kind, .bool nt, .bool lz, .int .i64 lo, .int .i64 hi, .slice sa sn sc, .slice ka kn kc] 25 by rw [hw1]; exact (Blk.new _ _ _).alloc _)
  have HK := Lib.hid (show Blk w1 (w.heap.size + 1) #[.int .i64 0, .int .i64 0] 72 by
    rw [hw1, show w.heap.size + 1 = (w.alloc (.cells #[.int .i64 kind, .bool nt, .bool lz, .int .i64 lo, .int .i64 hi, .slice sa sn sc, .slice ka kn kc] 25)).heap.size by simp]
    exact Blk.new _ _ _)
  have HW1 := Lib.hid hw1
  clear hw1
  have HC := Lib.hid (HN.out (w.heap.size + 1) w1 (by omega) (HB.out.trans (HB1.out.mono HB.out.size)) HK.out)
  have x0 := (HX).out.cell (i := 0) rfl
  have x1 := (HX).out.cell (i := 1) rfl
  have x2 := (HX).out.cell (i := 2) rfl
  have x3 := (HX).out.cell (i := 3) rfl
  have x4 := (HX).out.cell (i := 4) rfl
  have x5 := (HX).out.cell (i := 5) rfl
  have x6 := (HX).out.cell (i := 6) rfl
  go_enter Tryd.func7, Tryd.ntmps7
  go_upto_region 2 with fail
  rw [← HW1.out]
  go_upto_region 3 with (go_at_call 25; refine HC.out.mono ?_; rintro e w3 ⟨rfl, hk3, ho3⟩)
  have HX3 := Lib.hid (HX.out.block (Aside.block ho3 w.heap.size HX.out.lt (by omega) (by simp [Value.ownBlock])))
  have HB3 := Lib.hid (HB1.out.trans (Only.to_below ho3 HB1.out.size (by omega)))
  clear x0 x1 x2 x3 x4 x5 x6 hk3 ho3 HK HX HC HN HB1 HW1
  by_cases hr0 : r.1 = 0
  case neg =>
    have r1 : (r.1 != 0) = true := by simpa using hr0
    have HEE := Lib.hid (show E = r.1 by rw [HE.out, if_pos hr0])
    go_wp2_with fail
    go_ret
    exact ⟨by rw [HEE.out]; rfl, HB3.out⟩
  have r1 : (r.1 != 0) = false := by simpa using hr0
  have HE2 := Lib.hid (show E = if 4000 < s then 3 else if 400 < S.size then 3 else 0 by rw [HE.out, if_neg (by simpa using hr0)])
  have HC := Lib.hid (HSZ.out hr0 w3 (HB.out.trans (HB3.out.mono HB.out.size)))
  have hSS := HSS.out hr0
  have HSH2 := Lib.hid (fun w hb => HSH.out hr0 w hb)
  clear hr0 HSZ HSH HSS HE
  have x0 := (HX3).out.cell (i := 0) rfl
  have x1 := (HX3).out.cell (i := 1) rfl
  have x2 := (HX3).out.cell (i := 2) rfl
  have x3 := (HX3).out.cell (i := 3) rfl
  have x4 := (HX3).out.cell (i := 4) rfl
  have x5 := (HX3).out.cell (i := 5) rfl
  have x6 := (HX3).out.cell (i := 6) rfl
  by_cases hs : 4000 < s
  · have HEE := Lib.hid (show E = 3 by rw [HE2.out, if_pos hs])
    go_wp2_with (go_at_call 26; refine HC.out.mono ?_; rintro e w4 ⟨rfl, hb4⟩)
    go_ret
    exact ⟨by rw [HEE.out]; rfl, HB3.out.trans (hb4.mono HB3.out.size)⟩
  have HE3 := Lib.hid (show E = if 400 < S.size then 3 else 0 by rw [HE2.out, if_neg hs])
  go_upto_region 7 with (go_at_call 26; refine HC.out.mono ?_; rintro e w4 ⟨rfl, hb4⟩)
  have HB4 := Lib.hid (HB3.out.trans (hb4.mono HB3.out.size))
  have HX4 := Lib.hid (HX3.out.below hb4 HX3.out.lt)
  clear x0 x1 x2 x3 x4 x5 x6 hb4 HC HX3 hs
  have x0 := (HX4).out.cell (i := 0) rfl
  have x1 := (HX4).out.cell (i := 1) rfl
  have x2 := (HX4).out.cell (i := 2) rfl
  have x3 := (HX4).out.cell (i := 3) rfl
  have x4 := (HX4).out.cell (i := 4) rfl
  have x5 := (HX4).out.cell (i := 5) rfl
  have x6 := (HX4).out.cell (i := 6) rfl
  have HC := Lib.hid (HSH2.out w4 (HB.out.trans (HB4.out.mono HB.out.size)))
  by_cases hl : 400 < S.size
  · have HEE := Lib.hid (show E = 3 by rw [HE3.out, if_pos hl])
    have hl2 : (400 : Int) < (S.size : Int) := by omega
    clear hl
    go_wp2_with (go_at_call 27; refine HC.out.mono ?_; rintro e w5 ⟨rfl, hb5⟩)
    go_ret
    exact ⟨by rw [HEE.out]; rfl, HB4.out.trans (hb5.mono HB4.out.size)⟩
  · have HEE := Lib.hid (show E = 0 by rw [HE3.out, if_neg hl])
    have hl2 : ¬ (400 : Int) < (S.size : Int) := by omega
    clear hl
    go_wp2_with (go_at_call 27; refine HC.out.mono ?_; rintro e w5 ⟨rfl, hb5⟩)
    go_ret
    exact ⟨by rw [HEE.out]; rfl, HB4.out.trans (hb5.mono HB4.out.size)⟩
theorem chkE_zero {t : PT} (h : chkE t = 0) : t.Val ∧ t.cnt ≤ 200 := by
  have h2 : t.err = 0 := by
    unfold chkE at h
    by_cases h1 : t.err = 0
    · exact h1
    · rw [if_pos h1] at h; exact h
  have h3 : (ckN t 0 0 0).1 = 0 := by
    unfold PT.err at h2
    by_cases h1 : (ckN t 0 0 0).1 = 0
    · exact h1
    · rw [if_pos h1] at h2; exact h2
  have h4 := ckN_ok t 0 0 0 (by omega) h3
  exact ⟨h4.1, by have := h4.2.2; omega⟩
set_option maxHeartbeats 16000000 in
theorem print_any (W : World) (hE : PEnv W) (t : PT) (hok : t.Ok W) (w : World) (hbel : Below W.heap.size W w) :
    Calls Tryd.prog 9 #[.agg t.hd.cells.toArray] w fun e w' => e = .returned (.tuple #[.string (if chkE t = 0 then shwS t 0 else ⟨#[]⟩), .int .i64 (chkE t)]) ∧ Below w.heap.size w w' := by
  have HC0 := Lib.hid (fun (w : World) (hb : Below W.heap.size W w) => check_any W hE t hok w hb)
  have HSH := Lib.hid (fun (h : chkE t = 0) (w : World) (hb : Below W.heap.size W w) => show_any W hE t hok (chkE_zero h).1 (chkE_zero h).2 0 (by omega) (by omega) w hb)
  obtain ⟨E, hEE⟩ : ∃ E, E = chkE t := ⟨_, rfl⟩
  rw [← hEE] at HC0 HSH ⊢
  obtain ⟨S, hS⟩ : ∃ S, S = shwS t 0 := ⟨_, rfl⟩
  rw [← hS] at HSH ⊢
  obtain ⟨h, hh⟩ : ∃ h, h = t.hd := ⟨_, rfl⟩
  rw [← hh] at HC0 HSH ⊢
  have HB := Lib.hid hbel
  clear hEE hS hh hok hbel hE
  obtain ⟨kind, nt, lz, lo, hi, sn, sa, sc, sf, kn, ka, kc⟩ := h
  unfold PH.cells at HC0 HSH ⊢
  obtain ⟨w1, hw1⟩ : ∃ w1, w1 = w.alloc (.cells #[.int .i64 kind, .bool nt, .bool lz, .int .i64 lo, .int .i64 hi, .slice sa sn sc, .slice ka kn kc] 25) := ⟨_, rfl⟩
  have HB1 := Lib.hid (show Below w.heap.size w w1 by rw [hw1]; exact (Below.refl _ _).alloc (Nat.le_refl _) _)
  have HX := Lib.hid (show Blk w1 w.heap.size #[.int .i64 kind, .bool nt, .bool lz, .int .i64 lo, .int .i64 hi, .slice sa sn sc, .slice ka kn kc] 25 by rw [hw1]; exact Blk.new _ _ _)
  have HW1 := Lib.hid hw1
  clear hw1
  have HC := Lib.hid (HC0.out w1 (HB.out.trans (HB1.out.mono HB.out.size)))
  have x0 := (HX).out.cell (i := 0) rfl
  have x1 := (HX).out.cell (i := 1) rfl
  have x2 := (HX).out.cell (i := 2) rfl
  have x3 := (HX).out.cell (i := 3) rfl
  have x4 := (HX).out.cell (i := 4) rfl
  have x5 := (HX).out.cell (i := 5) rfl
  have x6 := (HX).out.cell (i := 6) rfl
  by_cases h0 : E = 0
  · have e1 : (E != 0) = false := by simpa using h0
    have HSH2 := Lib.hid (fun w hb => HSH.out h0 w hb)
    rw [if_pos h0]
    have H0 := Lib.hid h0
    clear h0 HSH
    go_enter Tryd.func9, Tryd.ntmps9
    go_upto_region 1 with fail
    rw [← HW1.out]
    go_upto_region 4 with (go_at_call 7; refine HC.out.mono ?_; rintro e w3 ⟨rfl, hb3⟩)
    have HB3 := Lib.hid (HB1.out.trans (hb3.mono HB1.out.size))
    have HX3 := Lib.hid (HX.out.below hb3 HX.out.lt)
    clear x0 x1 x2 x3 x4 x5 x6 hb3 HC HX
    have x0 := (HX3).out.cell (i := 0) rfl
    have x1 := (HX3).out.cell (i := 1) rfl
    have x2 := (HX3).out.cell (i := 2) rfl
    have x3 := (HX3).out.cell (i := 3) rfl
    have x4 := (HX3).out.cell (i := 4) rfl
    have x5 := (HX3).out.cell (i := 5) rfl
    have x6 := (HX3).out.cell (i := 6) rfl
    have HC := Lib.hid (HSH2.out w3 (HB.out.trans (HB3.out.mono HB.out.size)))
    go_wp2_with (go_at_call 27; refine HC.out.mono ?_; rintro e w5 ⟨rfl, hb5⟩)
    go_ret2
    exact ⟨by rw [H0.out]; rfl, HB3.out.trans (hb5.mono HB3.out.size)⟩
  · have e1 : (E != 0) = true := by simpa using h0
    rw [if_neg h0]
    clear h0 HSH
    go_enter Tryd.func9, Tryd.ntmps9
    go_upto_region 1 with fail
    rw [← HW1.out]
    go_wp2_with (go_at_call 7; refine HC.out.mono ?_; rintro e w3 ⟨rfl, hb3⟩)
    go_ret2
    exact ⟨rfl, HB1.out.trans (hb3.mono HB1.out.size)⟩
end Go.Proofs.YtghbicajcffjhaaDoor.PC
