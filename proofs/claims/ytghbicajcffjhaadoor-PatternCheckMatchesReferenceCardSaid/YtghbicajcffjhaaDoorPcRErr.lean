
/-
  The reference's check of a node, and its error of a pattern.
-/
import Derived.Test.YtghbicajcffjhaaDoorPcRKa
import Derived.Test.YtghbicajcffjhaaDoorPcRKb
import Derived.Test.YtghbicajcffjhaaDoorPcRKc
import Derived.Test.YtghbicajcffjhaaDoorPcROa
import Derived.Test.YtghbicajcffjhaaDoorPcROb
import Derived.Test.YtghbicajcffjhaaDoorPcROc
import Derived.Test.YtghbicajcffjhaaDoorPcRSize
namespace Go.Law.Pn
def PT.err (t : PT) : Int := if (ckN t 0 0 0).1 ≠ 0 then (ckN t 0 0 0).1 else if 4000 < t.sz then 3 else 0
end Go.Law.Pn
namespace Go.Proofs.YtghbicajcffjhaaDoor.PC
open Go.RowKit Go.Law Go.Law.Pn Ref
set_option linter.unusedVariables false
set_option linter.unusedSimpArgs false
set_option maxRecDepth 100000
theorem SetOk.two {w w' : World} {a : Option Addr} {n : Nat} {f : Nat → Int × Int} {B : Nat} (h : SetOk w a n f) (hb : Below B w w') (hB : w.heap.size ≤ B) : SetOk w' a n f := CellsF.below h hB hb
theorem nodeR_any (W : World) : ∀ (t : PT), t.Ok W → ∀ (d n g : Int) (Kn Kg : Nat) (w : World), 0 ≤ d → d ≤ 20 → 0 ≤ n → n ≤ 200 → 0 ≤ g → g ≤ 9 → W.heap.size ≤ Kn → W.heap.size ≤ Kg → Kn ≠ Kg → Below W.heap.size W w → Blk w Kn #[.int .i64 n] 3 → Blk w Kg #[.int .i64 g] 3 →
      Calls Tryd.prog 28 #[.agg t.hd.cells.toArray, .int .i64 d, .pointer (some ⟨Kn, 0, none⟩), .pointer (some ⟨Kg, 0, none⟩)] w fun e w' => e = .returned (.int .i64 (ckN t d n g).1) ∧ Blk w' Kn #[.int .i64 (ckN t d n g).2.1] 3 ∧ Blk w' Kg #[.int .i64 (ckN t d n g).2.2] 3 ∧ Two Kn Kg w w'
  | .nil, hok, _, _, _, _, _, _, _, _, _, _, _, _, _, _, _, _, _, _ => False.elim hok
  | .mk h kf, hok, d, n, g, Kn, Kg, w, hd0, hd1, hn0, hn1, hg0, hg1, hKn, hKg, hne, hbel, hk, hg => by
    have HIH := Lib.hid (fun i (hi : i < h.kn) => nodeR_any W (kf i) (hok.2.2 i hi))
    obtain ⟨⟨hs, hkm⟩, hkc, hkq⟩ := hok
    unfold maxLen at hkm
    obtain ⟨kind, nt, lz, lo, hi, sn, sa, sc, sf, kn, ka, kc⟩ := h
    simp only at hkm
    have HS0 : SetOk W sa sn sf := hs
    have HK := Lib.hid hk
    have HG := Lib.hid hg
    have hSw : ∀ w', Below w.heap.size w w' ∨ Two Kn Kg w w' → SetOk w' sa sn sf := by
      intro w' h
      rcases h with h | h
      · exact CellsF.below HS0 (Nat.le_refl _) (hbel.trans (h.mono hbel.size))
      · exact CellsF.below HS0 (Nat.le_refl _) (hbel.trans (Two.to_below h hbel.size hKn hKg))
    have HS := Lib.hid hSw
    have HKC := Lib.hid (show CellsF W ka kn 7 (fun i => (kf i).hd.V) from hkc)
    have HB := Lib.hid hbel
    show Calls _ _ #[.agg #[.int .i64 kind, .bool nt, .bool lz, .int .i64 lo, .int .i64 hi, .slice sa sn sc, .slice ka kn kc], _, _, _] _ _
    by_cases hb : 200 < n + 1
    · rw [show ckN (.mk ⟨kind, nt, lz, lo, hi, sn, sa, sc, sf, kn, ka, kc⟩ kf) d n g = (3, n + 1, g) by rw [ckN, if_pos hb]]
      exact nodeR_big kind nt lz lo hi sn sa sc kn ka kc d n g Kn Kg w HK HG hne hn0 hn1 hb
    by_cases hd : 20 ≤ d
    · rw [show ckN (.mk ⟨kind, nt, lz, lo, hi, sn, sa, sc, sf, kn, ka, kc⟩ kf) d n g = (22, n + 1, g) by rw [ckN, if_neg hb, if_pos hd]]
      exact nodeR_deep kind nt lz lo hi sn sa sc kn ka kc d n g Kn Kg w HK HG hne hn0 hb hd
    by_cases hV : shpE ⟨kind, nt, lz, lo, hi, sn, sa, sc, sf, kn, ka, kc⟩ = 0
    · have hk := (shp_good hV).1
      simp only at hk
      obtain rfl | rfl | rfl | rfl | rfl | rfl | rfl | rfl : kind = 0 ∨ kind = 1 ∨ kind = 2 ∨ kind = 3 ∨ kind = 4 ∨ kind = 5 ∨ kind = 6 ∨ kind = 7 := by omega
      · exact nodeR_ok0 nt lz lo hi sn sa sc sf kn ka kc d n g Kn Kg w HIH HKC hkm HB hKn hKg HK HG HS hne hd0 hn0 ⟨hg0, hg1⟩ hb hd hV
      · exact nodeR_ok1 nt lz lo hi sn sa sc sf kn ka kc d n g Kn Kg w HIH HKC hkm HB hKn hKg HK HG HS hne hd0 hn0 ⟨hg0, hg1⟩ hb hd hV
      · exact nodeR_ok2 nt lz lo hi sn sa sc sf kn ka kc d n g Kn Kg w HIH HKC hkm HB hKn hKg HK HG HS hne hd0 hn0 ⟨hg0, hg1⟩ hb hd hV
      · exact nodeR_ok3 nt lz lo hi sn sa sc sf kn ka kc d n g Kn Kg w HIH HKC hkm HB hKn hKg HK HG HS hne hd0 hn0 ⟨hg0, hg1⟩ hb hd hV
      · exact nodeR_ok4 nt lz lo hi sn sa sc sf kn ka kc d n g Kn Kg w HIH HKC hkm HB hKn hKg HK HG HS hne hd0 hn0 ⟨hg0, hg1⟩ hb hd hV
      · exact nodeR_ok5 nt lz lo hi sn sa sc sf kn ka kc d n g Kn Kg w HIH HKC hkm HB hKn hKg HK HG HS hne hd0 hn0 ⟨hg0, hg1⟩ hb hd hV
      · exact nodeR_ok6 nt lz lo hi sn sa sc sf kn ka kc d n g Kn Kg w HIH HKC hkm HB hKn hKg HK HG HS hne hd0 hn0 ⟨hg0, hg1⟩ hb hd hV
      · exact nodeR_ok7 nt lz lo hi sn sa sc sf kn ka kc d n g Kn Kg w HIH HKC hkm HB hKn hKg HK HG HS hne hd0 hn0 ⟨hg0, hg1⟩ hb hd hV
    · rw [show ckN (.mk ⟨kind, nt, lz, lo, hi, sn, sa, sc, sf, kn, ka, kc⟩ kf) d n g = (shpE ⟨kind, nt, lz, lo, hi, sn, sa, sc, sf, kn, ka, kc⟩, n + 1, g) by rw [ckN, if_neg hb, if_neg hd, if_pos hV]]
      by_cases hk : kind < 0 ∨ 7 < kind
      · rw [show shpE ⟨kind, nt, lz, lo, hi, sn, sa, sc, sf, kn, ka, kc⟩ = 8 by rw [shpE, if_pos hk]]
        exact nodeR_kind kind nt lz lo hi sn sa sc kn ka kc d n g Kn Kg w HK HG hne hn0 hb hd hk
      obtain rfl | rfl | rfl | rfl | rfl | rfl | rfl | rfl : kind = 0 ∨ kind = 1 ∨ kind = 2 ∨ kind = 3 ∨ kind = 4 ∨ kind = 5 ∨ kind = 6 ∨ kind = 7 := by omega
      · exact nodeR_bad0 nt lz lo hi sn sa sc sf kn ka kc d n g Kn Kg w HK HG HS hne hn0 hb hd hV
      · exact nodeR_bad1 nt lz lo hi sn sa sc sf kn ka kc d n g Kn Kg w HK HG HS hne hn0 hb hd hV
      · exact nodeR_bad2 nt lz lo hi sn sa sc sf kn ka kc d n g Kn Kg w HK HG HS hne hn0 hb hd hV
      · exact nodeR_bad3 nt lz lo hi sn sa sc sf kn ka kc d n g Kn Kg w HK HG HS hne hn0 hb hd hV
      · exact nodeR_bad4 nt lz lo hi sn sa sc sf kn ka kc d n g Kn Kg w HK HG HS hne hn0 hb hd hV
      · exact nodeR_bad5 nt lz lo hi sn sa sc sf kn ka kc d n g Kn Kg w HK HG HS hne hn0 hb hd hV
      · exact nodeR_bad6 nt lz lo hi sn sa sc sf kn ka kc d n g Kn Kg w HK HG HS hne hn0 hb hd hV
      · exact nodeR_bad7 nt lz lo hi sn sa sc sf kn ka kc d n g Kn Kg w HK HG HS hne hn0 hb hd hV
set_option maxHeartbeats 16000000 in
theorem errorR_any (W : World) (t : PT) (hok : t.Ok W) (w : World) (hbel : Below W.heap.size W w) :
    Calls Tryd.prog 8 #[.agg t.hd.cells.toArray] w fun e w' => e = .returned (.int .i64 t.err) ∧ Below w.heap.size w w' := by
  obtain ⟨r, hr⟩ : ∃ r, r = ckN t 0 0 0 := ⟨_, rfl⟩
  have HN := Lib.hid (fun (Kn Kg : Nat) (w : World) (h1 : W.heap.size ≤ Kn) (h2 : W.heap.size ≤ Kg) (h3 : Kn ≠ Kg) (h4 : Below W.heap.size W w) (h5 : Blk w Kn #[.int .i64 0] 3) (h6 : Blk w Kg #[.int .i64 0] 3) => nodeR_any W t hok 0 0 0 Kn Kg w (by omega) (by omega) (by omega) (by omega) (by omega) (by omega) h1 h2 h3 h4 h5 h6)
  have HSZ := Lib.hid (fun (h : r.1 = 0) (w : World) (hb : Below W.heap.size W w) => sizeR_any W t hok (ckN_ok t 0 0 0 (by omega) (by rw [← hr]; exact h)).1 w hb)
  have HE := Lib.hid (show t.err = if r.1 ≠ 0 then r.1 else if 4000 < t.sz then 3 else 0 by unfold PT.err; rw [hr])
  rw [← hr] at HN
  obtain ⟨E, hE⟩ : ∃ E, E = t.err := ⟨_, rfl⟩
  rw [← hE] at HE ⊢
  obtain ⟨s, hs⟩ : ∃ s, s = t.sz := ⟨_, rfl⟩
  rw [← hs] at HE HSZ
  obtain ⟨h, hh⟩ : ∃ h, h = t.hd := ⟨_, rfl⟩
  rw [← hh] at HN HSZ ⊢
  have HB := Lib.hid hbel
  clear hr hE hs hh hok hbel
  obtain ⟨kind, nt, lz, lo, hi, sn, sa, sc, sf, kn, ka, kc⟩ := h
  unfold PH.cells at HN HSZ ⊢
  have hWw := HB.out.size
  obtain ⟨w1, hw1⟩ : ∃ w1, w1 = ((w.alloc (.cells #[.int .i64 kind, .bool nt, .bool lz, .int .i64 lo, .int .i64 hi, .slice sa sn sc, .slice ka kn kc] 25)).alloc (.cells #[.int .i64 0] 3)).alloc (.cells #[.int .i64 0] 3) := ⟨_, rfl⟩
  have HB1 := Lib.hid (show Below w.heap.size w w1 by rw [hw1]; exact (((Below.refl _ _).alloc (Nat.le_refl _) _).alloc (by simp) _).alloc (by simp; omega) _)
  have HX := Lib.hid (show Blk w1 w.heap.size #[.int .i64 kind, .bool nt, .bool lz, .int .i64 lo, .int .i64 hi, .slice sa sn sc, .slice ka kn kc] 25 by rw [hw1]; exact ((Blk.new _ _ _).alloc _).alloc _)
  have HK := Lib.hid (show Blk w1 (w.heap.size + 1) #[.int .i64 0] 3 by
    rw [hw1, show w.heap.size + 1 = (w.alloc (.cells #[.int .i64 kind, .bool nt, .bool lz, .int .i64 lo, .int .i64 hi, .slice sa sn sc, .slice ka kn kc] 25)).heap.size by simp]
    exact (Blk.new _ _ _).alloc _)
  have HG := Lib.hid (show Blk w1 (w.heap.size + 1 + 1) #[.int .i64 0] 3 by
    rw [hw1, show w.heap.size + 1 + 1 = ((w.alloc (.cells #[.int .i64 kind, .bool nt, .bool lz, .int .i64 lo, .int .i64 hi, .slice sa sn sc, .slice ka kn kc] 25)).alloc (.cells #[.int .i64 0] 3)).heap.size by simp]
    exact Blk.new _ _ _)
  have HW1 := Lib.hid hw1
  clear hw1
  have x0 := HX.out.cell (i := 0) rfl
  have x1 := HX.out.cell (i := 1) rfl
  have x2 := HX.out.cell (i := 2) rfl
  have x3 := HX.out.cell (i := 3) rfl
  have x4 := HX.out.cell (i := 4) rfl
  have x5 := HX.out.cell (i := 5) rfl
  have x6 := HX.out.cell (i := 6) rfl
  have HC := Lib.hid (HN.out (w.heap.size + 1) (w.heap.size + 1 + 1) w1 (by omega) (by omega) (by omega) (HB.out.trans (HB1.out.mono HB.out.size)) HK.out HG.out)
  go_enter Tryd.func8, Tryd.ntmps8
  go_upto_region 2 with fail
  rw [← HW1.out]
  go_upto_region 3 with (go_at_call 28; refine HC.out.mono ?_; rintro e w3 ⟨rfl, hk3, hg3, ho3⟩)
  have HX3 := Lib.hid (HX.out.block (Aside.block ho3 w.heap.size HX.out.lt (by omega) (by simp [Value.ownBlock] <;> omega)))
  have HB3 := Lib.hid (HB1.out.trans (Two.to_below ho3 HB1.out.size (by omega) (by omega)))
  clear x0 x1 x2 x3 x4 x5 x6 hk3 hg3 ho3 HK HG HX HC HN HB1 HW1
  by_cases hr0 : r.1 = 0
  case neg =>
    have r1 : (r.1 == 0) = false := by simpa using hr0
    have HEE := Lib.hid (show E = r.1 by rw [HE.out, if_pos hr0])
    go_wp2_with fail
    go_ret
    exact ⟨by rw [HEE.out]; rfl, HB3.out⟩
  have r1 : (r.1 == 0) = true := by simpa using hr0
  have HC := Lib.hid (HSZ.out hr0 w3 (HB.out.trans (HB3.out.mono HB.out.size)))
  have x0 := HX3.out.cell (i := 0) rfl
  have x1 := HX3.out.cell (i := 1) rfl
  have x2 := HX3.out.cell (i := 2) rfl
  have x3 := HX3.out.cell (i := 3) rfl
  have x4 := HX3.out.cell (i := 4) rfl
  have x5 := HX3.out.cell (i := 5) rfl
  have x6 := HX3.out.cell (i := 6) rfl
  by_cases hs : 4000 < s
  · have HEE := Lib.hid (show E = 3 by rw [HE.out, if_neg (by simpa using hr0), if_pos hs])
    clear hr0
    go_wp2_with (go_at_call 29; refine HC.out.mono ?_; rintro e w4 ⟨rfl, hb4⟩)
    go_ret
    exact ⟨by rw [HEE.out]; rfl, HB3.out.trans (hb4.mono HB3.out.size)⟩
  · have HEE := Lib.hid (show E = r.1 by rw [HE.out, if_neg (by simpa using hr0), if_neg hs, hr0])
    clear hr0
    go_wp2_with (go_at_call 29; refine HC.out.mono ?_; rintro e w4 ⟨rfl, hb4⟩)
    go_ret
    exact ⟨by rw [HEE.out]; rfl, HB3.out.trans (hb4.mono HB3.out.size)⟩
end Go.Proofs.YtghbicajcffjhaaDoor.PC
