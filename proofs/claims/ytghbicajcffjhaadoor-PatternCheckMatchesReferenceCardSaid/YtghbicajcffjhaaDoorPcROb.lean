

/-
  The reference's check of a node whose fields are as they must be (kinds 4, 5).
-/
import Derived.Test.YtghbicajcffjhaaDoorPcRKc
namespace Go.Proofs.YtghbicajcffjhaaDoor.PC
open Go.RowKit Go.Law Go.Law.Pn Ref
set_option linter.unusedVariables false
set_option linter.unusedSimpArgs false
set_option maxRecDepth 100000
set_option maxHeartbeats 16000000 in
theorem nodeR_ok4 {W : World} {kf : Nat → PT} (nt lz : Bool) (lo hi : Int) (sn : Nat) (sa : Option Addr) (sc : Nat) (sf : Nat → Int × Int) (kn : Nat) (ka : Option Addr) (kc : Nat) (d n g : Int) (Kn Kg : Nat) (w : World)
    (HIH : Hid (∀ i, i < kn → ∀ (d n g : Int) (Kn Kg : Nat) (w : World), 0 ≤ d → d ≤ 20 → 0 ≤ n → n ≤ 200 → 0 ≤ g → g ≤ 9 → W.heap.size ≤ Kn → W.heap.size ≤ Kg → Kn ≠ Kg → Below W.heap.size W w → Blk w Kn #[.int .i64 n] 3 → Blk w Kg #[.int .i64 g] 3 →
      Calls Tryd.prog 28 #[.agg (kf i).hd.cells.toArray, .int .i64 d, .pointer (some ⟨Kn, 0, none⟩), .pointer (some ⟨Kg, 0, none⟩)] w fun e w' => e = .returned (.int .i64 (ckN (kf i) d n g).1) ∧ Blk w' Kn #[.int .i64 (ckN (kf i) d n g).2.1] 3 ∧ Blk w' Kg #[.int .i64 (ckN (kf i) d n g).2.2] 3 ∧ Two Kn Kg w w'))
    (HKC : Hid (CellsF W ka kn 7 (fun i => (kf i).hd.V))) (hkm : kn ≤ 2 ^ 63 - 1) (HB : Hid (Below W.heap.size W w)) (hKn : W.heap.size ≤ Kn) (hKg : W.heap.size ≤ Kg)
    (HK0 : Hid (Blk w Kn #[.int .i64 n] 3)) (HG0 : Hid (Blk w Kg #[.int .i64 g] 3)) (HS : Hid (∀ w', Below w.heap.size w w' ∨ Two Kn Kg w w' → SetOk w' sa sn sf)) (hne : Kn ≠ Kg) (hd0 : 0 ≤ d) (hn0 : 0 ≤ n) (hg2 : 0 ≤ g ∧ g ≤ 9) (hb : ¬ 200 < n + 1) (hd : ¬ 20 ≤ d) (hV : shpE ⟨4, nt, lz, lo, hi, sn, sa, sc, sf, kn, ka, kc⟩ = 0) :
    Calls Tryd.prog 28 #[.agg #[.int .i64 4, .bool nt, .bool lz, .int .i64 lo, .int .i64 hi, .slice sa sn sc, .slice ka kn kc], .int .i64 d, .pointer (some ⟨Kn, 0, none⟩), .pointer (some ⟨Kg, 0, none⟩)] w fun e w' => e = .returned (.int .i64 (ckN (.mk ⟨4, nt, lz, lo, hi, sn, sa, sc, sf, kn, ka, kc⟩ kf) d n g).1) ∧
      Blk w' Kn #[.int .i64 (ckN (.mk ⟨4, nt, lz, lo, hi, sn, sa, sc, sf, kn, ka, kc⟩ kf) d n g).2.1] 3 ∧ Blk w' Kg #[.int .i64 (ckN (.mk ⟨4, nt, lz, lo, hi, sn, sa, sc, sf, kn, ka, kc⟩ kf) d n g).2.2] 3 ∧ Two Kn Kg w w' := by
  have HGD := Lib.hid (shp_good hV)
  obtain ⟨F, hF⟩ : ∃ F : Nat → Int → Int → Int × Int × Int, F = fun i n g => if likeB ⟨4, nt, lz, lo, hi, sn, sa, sc, sf, kn, ka, kc⟩ (kf i).hd then (4, n, g) else ckN (kf i) (d + 1) n g := ⟨_, rfl⟩
  have HCK := Lib.hid (fun (h4 : ¬ (((4 : Int) = 7) ∧ 9 < g + 1)) => show ckN (.mk ⟨4, nt, lz, lo, hi, sn, sa, sc, sf, kn, ka, kc⟩ kf) d n g = runK F (n + 1) (if (4 : Int) = 7 then g + 1 else g) kn by
    rw [hF]
    exact ckN_kids (h := ⟨4, nt, lz, lo, hi, sn, sa, sc, sf, kn, ka, kc⟩) (kf := kf) hb hd hV h4)
  have HCL := Lib.hid (fun (h4 : (((4 : Int) = 7) ∧ 9 < g + 1)) => show ckN (.mk ⟨4, nt, lz, lo, hi, sn, sa, sc, sf, kn, ka, kc⟩ kf) d n g = (3, n + 1, g + 1) by
    rw [ckN, if_neg hb, if_neg hd, if_neg (by rw [hV]; simp), if_pos h4])
  obtain ⟨E, hE⟩ : ∃ E, E = ckN (.mk ⟨4, nt, lz, lo, hi, sn, sa, sc, sf, kn, ka, kc⟩ kf) d n g := ⟨_, rfl⟩
  rw [← hE] at HCK HCL ⊢
  have HF := Lib.hid hF
  clear hE hF
  have HFR := Lib.hid (show ∀ i, i < kn → ∀ n g, Rg n g → (F i n g).1 = 0 → Rg (F i n g).2.1 (F i n g).2.2 by
    intro i _ n g hr hz
    rw [HF.out] at hz ⊢
    simp only at hz ⊢
    by_cases hl : likeB ⟨4, nt, lz, lo, hi, sn, sa, sc, sf, kn, ka, kc⟩ (kf i).hd
    · rw [if_pos hl] at hz; simp at hz
    · rw [if_neg hl] at hz ⊢
      exact ckN_range (kf i) (d + 1) n g hr hz)
  obtain ⟨kind, hkind⟩ : ∃ kind : Int, kind = 4 := ⟨_, rfl⟩
  rw [← hkind]
  have HKI := Lib.hid hkind
  clear hkind hV
  obtain ⟨w1, hw1⟩ : ∃ w1, w1 = (w.setCell ⟨Kn, 0, none⟩ (.int .i64 (n + 1))).alloc (.cells #[.int .i64 kind, .bool nt, .bool lz, .int .i64 lo, .int .i64 hi, .slice sa sn sc, .slice ka kn kc] 25) := ⟨_, rfl⟩
  obtain ⟨P, hP⟩ : ∃ P, P = w.heap.size := ⟨_, rfl⟩
  have hKl := HK0.out.lt
  have hGl := HG0.out.lt
  have hPn : P ≠ Kn := by omega
  have hPg : P ≠ Kg := by omega
  have HK1 := Lib.hid (show Blk w1 Kn #[.int .i64 (n + 1)] 3 by rw [hw1]; exact (HK0.out.set 0 _).alloc _)
  have HG1 := Lib.hid (show Blk w1 Kg #[.int .i64 g] 3 by rw [hw1]; exact (HG0.out.other (by simpa using Ne.symm hne) _).alloc _)
  have HP1 := Lib.hid (show Blk w1 P #[.int .i64 kind, .bool nt, .bool lz, .int .i64 lo, .int .i64 hi, .slice sa sn sc, .slice ka kn kc] 25 by rw [hw1, hP, show w.heap.size = (w.setCell ⟨Kn, 0, none⟩ (.int .i64 (n + 1))).heap.size by simp]; exact Blk.new _ _ _)
  have HO1 := Lib.hid (show Two Kn Kg w w1 by rw [hw1]; exact (Two.set1 (Aside.refl _ _ _) 0 _).alloc _)
  have HW1 := Lib.hid hw1
  have HPE := Lib.hid hP
  clear hw1 hP
  have e1 : IntKind.i64.wrap (n + 1) = n + 1 := IntWalk.i64_in _ ⟨by omega, by omega⟩
  have x0 := HK0.out.cell (i := 0) rfl
  have xf := HK0.out.frozen
  go_enter Tryd.func28, Tryd.ntmps28
  go_upto_region 2 with fail
  rw [← HW1.out, ← HPE.out]
  clear x0 xf HK0 HG0 hKl hGl
  have x0 := HK1.out.cell (i := 0) rfl
  have hkind := HKI.out
  clear HKI
  subst hkind
  have hI : inB 4 0 7 = true := rfl
  have p0 : w1.cell? ⟨P, 0, none⟩ = some (.int .i64 4) := HP1.out.cell (i := 0) rfl
  go_upto_region 8 with (go_at_call 49; refine (in_any _ _ _ _).mono ?_; rintro e w2 ⟨rfl, rfl⟩)
  go_quiet (fail)
  obtain ⟨w2, hw2⟩ : ∃ w2, w2 = w1.drewN nq := ⟨_, rfl⟩
  rw [← hw2]
  have HK2 := Lib.hid (show Blk w2 Kn #[.int .i64 (n + 1)] 3 by rw [hw2]; exact HK1.out.drewN _)
  have HG2 := Lib.hid (show Blk w2 Kg #[.int .i64 g] 3 by rw [hw2]; exact HG1.out.drewN _)
  have HP2 := Lib.hid (show Blk w2 P #[.int .i64 4, .bool nt, .bool lz, .int .i64 lo, .int .i64 hi, .slice sa sn sc, .slice ka kn kc] 25 by rw [hw2]; exact HP1.out.drewN _)
  have HO2 := Lib.hid (show Two Kn Kg w w2 by rw [hw2]; exact Aside.drewN HO1.out _)
  clear hw2 x0 p0 HK1 HG1 HP1 HO1 HW1
  have p0 : w2.cell? ⟨P, 0, none⟩ = some (.int .i64 4) := HP2.out.cell (i := 0) rfl
  have p1 : w2.cell? ⟨P, 1, none⟩ = some (.bool nt) := HP2.out.cell (i := 1) rfl
  have p2 : w2.cell? ⟨P, 2, none⟩ = some (.bool lz) := HP2.out.cell (i := 2) rfl
  have p3 : w2.cell? ⟨P, 3, none⟩ = some (.int .i64 lo) := HP2.out.cell (i := 3) rfl
  have p4 : w2.cell? ⟨P, 4, none⟩ = some (.int .i64 hi) := HP2.out.cell (i := 4) rfl
  have p5 : w2.cell? ⟨P, 5, none⟩ = some (.slice sa sn sc) := HP2.out.cell (i := 5) rfl
  have p6 : w2.cell? ⟨P, 6, none⟩ = some (.slice ka kn kc) := HP2.out.cell (i := 6) rfl
  have hPl := HP2.out.lt
  obtain ⟨rfl, rfl, rfl, rfl, rfl⟩ : sn = 0 ∧ nt = false ∧ lz = false ∧ lo = 0 ∧ hi = 0 := by
    have h1 := HGD.out.2.1
    simp [frmBad] at h1
    exact ⟨by omega, h1.2.1, h1.2.2.1, h1.2.2.2.1, h1.2.2.2.2⟩
  have k0 := HGD.out.2.2.2.2.1 (by simp)
  try simp only at k0
  clear HGD
  have k1 : inB (kn : Int) 0 (kn : Int) = true := by rw [inB_true]; omega
  have k2 : ((kn : Int) == 1) = false := by simp; omega
  go_upto_block 0 with (go_at_call 49; refine (in_any _ _ _ _).mono ?_; rintro e w4 ⟨rfl, rfl⟩)
  have HR := Lib.hid (HCK.out (by omega))
  try rw [if_pos rfl] at HR
  try rw [if_neg (by decide)] at HR
  obtain ⟨w3, hw3⟩ : ∃ x, x = ((w2.alloc (.cells #[.int .i64 0, .int .i64 0, .int .i64 0, .int .i64 0, .int .i64 0, .int .i64 2, .int .i64 1, .int .i64 1] 3)).alloc (.cells #[.int .i64 0, .int .i64 0, .int .i64 0, .int .i64 0, .int .i64 kn, .int .i64 kn, .int .i64 1, .int .i64 1] 3)) := ⟨_, rfl⟩
  have HK3 := Lib.hid (show Blk w3 Kn #[.int .i64 (n + 1)] 3 by rw [hw3]; exact ((HK2.out.alloc _).alloc _))
  have HG3 := Lib.hid (show Blk w3 Kg #[.int .i64 (g)] 3 by rw [hw3]; exact ((HG2.out.alloc _).alloc _))
  have HP3 := Lib.hid (show Blk w3 P _ 25 by rw [hw3]; exact ((HP2.out.alloc _).alloc _))
  have HO3 := Lib.hid (show Two Kn Kg w w3 by rw [hw3]; exact ((HO2.out.alloc _).alloc _))
  rw [← hw3]
  clear hw3
  have HB3 := Lib.hid (HB.out.trans (Two.to_below HO3.out HB.out.size hKn hKg))
  go_cut [8, 16, 17] from 165 to 193 (fun _ _ _ wx => E.1 = 0 ∧ Blk wx Kn #[.int .i64 E.2.1] 3 ∧ Blk wx Kg #[.int .i64 E.2.2] 3 ∧ Two Kn Kg w3 wx)
  case first =>
    exact rnLoop (kf := kf) (F := F) (kind := 4) (d := d) (n := n) (G := g) HIH HKC hkm HB3 hKn hKg hne hPn hPg HK3 HG3 HP3 hd0 (by omega) hn0 (by omega) (by omega) HF HFR HR (by
      intro t w' ht hf
      repeat (with_reducible first | refine ret_then3 ?_ | refine ret_block3 ?_)
      refine bodyPost_ret (v := .int .i64 E.1) (by rw [results_tmp rfl, ht]) rfl ?_
      exact ⟨rfl, hf.1, hf.2.1, Aside.trans HO3.out hf.2.2⟩) (by assumption) (by assumption)
  case rest =>
    obtain ⟨hz, hkb, hgb, ho⟩ := hcut
    have HZ := Lib.hid hz
    have HKB := Lib.hid hkb
    have HGB := Lib.hid hgb
    have HOB := Lib.hid ho
    clear hz hkb hgb ho
    go_wp2_with fail
    go_ret
    exact ⟨by rw [HZ.out]; rfl, HKB.out, HGB.out, Aside.trans HO3.out HOB.out⟩
set_option maxHeartbeats 16000000 in
theorem nodeR_ok5 {W : World} {kf : Nat → PT} (nt lz : Bool) (lo hi : Int) (sn : Nat) (sa : Option Addr) (sc : Nat) (sf : Nat → Int × Int) (kn : Nat) (ka : Option Addr) (kc : Nat) (d n g : Int) (Kn Kg : Nat) (w : World)
    (HIH : Hid (∀ i, i < kn → ∀ (d n g : Int) (Kn Kg : Nat) (w : World), 0 ≤ d → d ≤ 20 → 0 ≤ n → n ≤ 200 → 0 ≤ g → g ≤ 9 → W.heap.size ≤ Kn → W.heap.size ≤ Kg → Kn ≠ Kg → Below W.heap.size W w → Blk w Kn #[.int .i64 n] 3 → Blk w Kg #[.int .i64 g] 3 →
      Calls Tryd.prog 28 #[.agg (kf i).hd.cells.toArray, .int .i64 d, .pointer (some ⟨Kn, 0, none⟩), .pointer (some ⟨Kg, 0, none⟩)] w fun e w' => e = .returned (.int .i64 (ckN (kf i) d n g).1) ∧ Blk w' Kn #[.int .i64 (ckN (kf i) d n g).2.1] 3 ∧ Blk w' Kg #[.int .i64 (ckN (kf i) d n g).2.2] 3 ∧ Two Kn Kg w w'))
    (HKC : Hid (CellsF W ka kn 7 (fun i => (kf i).hd.V))) (hkm : kn ≤ 2 ^ 63 - 1) (HB : Hid (Below W.heap.size W w)) (hKn : W.heap.size ≤ Kn) (hKg : W.heap.size ≤ Kg)
    (HK0 : Hid (Blk w Kn #[.int .i64 n] 3)) (HG0 : Hid (Blk w Kg #[.int .i64 g] 3)) (HS : Hid (∀ w', Below w.heap.size w w' ∨ Two Kn Kg w w' → SetOk w' sa sn sf)) (hne : Kn ≠ Kg) (hd0 : 0 ≤ d) (hn0 : 0 ≤ n) (hg2 : 0 ≤ g ∧ g ≤ 9) (hb : ¬ 200 < n + 1) (hd : ¬ 20 ≤ d) (hV : shpE ⟨5, nt, lz, lo, hi, sn, sa, sc, sf, kn, ka, kc⟩ = 0) :
    Calls Tryd.prog 28 #[.agg #[.int .i64 5, .bool nt, .bool lz, .int .i64 lo, .int .i64 hi, .slice sa sn sc, .slice ka kn kc], .int .i64 d, .pointer (some ⟨Kn, 0, none⟩), .pointer (some ⟨Kg, 0, none⟩)] w fun e w' => e = .returned (.int .i64 (ckN (.mk ⟨5, nt, lz, lo, hi, sn, sa, sc, sf, kn, ka, kc⟩ kf) d n g).1) ∧
      Blk w' Kn #[.int .i64 (ckN (.mk ⟨5, nt, lz, lo, hi, sn, sa, sc, sf, kn, ka, kc⟩ kf) d n g).2.1] 3 ∧ Blk w' Kg #[.int .i64 (ckN (.mk ⟨5, nt, lz, lo, hi, sn, sa, sc, sf, kn, ka, kc⟩ kf) d n g).2.2] 3 ∧ Two Kn Kg w w' := by
  have HGD := Lib.hid (shp_good hV)
  obtain ⟨F, hF⟩ : ∃ F : Nat → Int → Int → Int × Int × Int, F = fun i n g => if likeB ⟨5, nt, lz, lo, hi, sn, sa, sc, sf, kn, ka, kc⟩ (kf i).hd then (4, n, g) else ckN (kf i) (d + 1) n g := ⟨_, rfl⟩
  have HCK := Lib.hid (fun (h4 : ¬ (((5 : Int) = 7) ∧ 9 < g + 1)) => show ckN (.mk ⟨5, nt, lz, lo, hi, sn, sa, sc, sf, kn, ka, kc⟩ kf) d n g = runK F (n + 1) (if (5 : Int) = 7 then g + 1 else g) kn by
    rw [hF]
    exact ckN_kids (h := ⟨5, nt, lz, lo, hi, sn, sa, sc, sf, kn, ka, kc⟩) (kf := kf) hb hd hV h4)
  have HCL := Lib.hid (fun (h4 : (((5 : Int) = 7) ∧ 9 < g + 1)) => show ckN (.mk ⟨5, nt, lz, lo, hi, sn, sa, sc, sf, kn, ka, kc⟩ kf) d n g = (3, n + 1, g + 1) by
    rw [ckN, if_neg hb, if_neg hd, if_neg (by rw [hV]; simp), if_pos h4])
  obtain ⟨E, hE⟩ : ∃ E, E = ckN (.mk ⟨5, nt, lz, lo, hi, sn, sa, sc, sf, kn, ka, kc⟩ kf) d n g := ⟨_, rfl⟩
  rw [← hE] at HCK HCL ⊢
  have HF := Lib.hid hF
  clear hE hF
  have HFR := Lib.hid (show ∀ i, i < kn → ∀ n g, Rg n g → (F i n g).1 = 0 → Rg (F i n g).2.1 (F i n g).2.2 by
    intro i _ n g hr hz
    rw [HF.out] at hz ⊢
    simp only at hz ⊢
    by_cases hl : likeB ⟨5, nt, lz, lo, hi, sn, sa, sc, sf, kn, ka, kc⟩ (kf i).hd
    · rw [if_pos hl] at hz; simp at hz
    · rw [if_neg hl] at hz ⊢
      exact ckN_range (kf i) (d + 1) n g hr hz)
  obtain ⟨kind, hkind⟩ : ∃ kind : Int, kind = 5 := ⟨_, rfl⟩
  rw [← hkind]
  have HKI := Lib.hid hkind
  clear hkind hV
  obtain ⟨w1, hw1⟩ : ∃ w1, w1 = (w.setCell ⟨Kn, 0, none⟩ (.int .i64 (n + 1))).alloc (.cells #[.int .i64 kind, .bool nt, .bool lz, .int .i64 lo, .int .i64 hi, .slice sa sn sc, .slice ka kn kc] 25) := ⟨_, rfl⟩
  obtain ⟨P, hP⟩ : ∃ P, P = w.heap.size := ⟨_, rfl⟩
  have hKl := HK0.out.lt
  have hGl := HG0.out.lt
  have hPn : P ≠ Kn := by omega
  have hPg : P ≠ Kg := by omega
  have HK1 := Lib.hid (show Blk w1 Kn #[.int .i64 (n + 1)] 3 by rw [hw1]; exact (HK0.out.set 0 _).alloc _)
  have HG1 := Lib.hid (show Blk w1 Kg #[.int .i64 g] 3 by rw [hw1]; exact (HG0.out.other (by simpa using Ne.symm hne) _).alloc _)
  have HP1 := Lib.hid (show Blk w1 P #[.int .i64 kind, .bool nt, .bool lz, .int .i64 lo, .int .i64 hi, .slice sa sn sc, .slice ka kn kc] 25 by rw [hw1, hP, show w.heap.size = (w.setCell ⟨Kn, 0, none⟩ (.int .i64 (n + 1))).heap.size by simp]; exact Blk.new _ _ _)
  have HO1 := Lib.hid (show Two Kn Kg w w1 by rw [hw1]; exact (Two.set1 (Aside.refl _ _ _) 0 _).alloc _)
  have HW1 := Lib.hid hw1
  have HPE := Lib.hid hP
  clear hw1 hP
  have e1 : IntKind.i64.wrap (n + 1) = n + 1 := IntWalk.i64_in _ ⟨by omega, by omega⟩
  have x0 := HK0.out.cell (i := 0) rfl
  have xf := HK0.out.frozen
  go_enter Tryd.func28, Tryd.ntmps28
  go_upto_region 2 with fail
  rw [← HW1.out, ← HPE.out]
  clear x0 xf HK0 HG0 hKl hGl
  have x0 := HK1.out.cell (i := 0) rfl
  have hkind := HKI.out
  clear HKI
  subst hkind
  have hI : inB 5 0 7 = true := rfl
  have p0 : w1.cell? ⟨P, 0, none⟩ = some (.int .i64 5) := HP1.out.cell (i := 0) rfl
  go_upto_region 8 with (go_at_call 49; refine (in_any _ _ _ _).mono ?_; rintro e w2 ⟨rfl, rfl⟩)
  go_quiet (fail)
  obtain ⟨w2, hw2⟩ : ∃ w2, w2 = w1.drewN nq := ⟨_, rfl⟩
  rw [← hw2]
  have HK2 := Lib.hid (show Blk w2 Kn #[.int .i64 (n + 1)] 3 by rw [hw2]; exact HK1.out.drewN _)
  have HG2 := Lib.hid (show Blk w2 Kg #[.int .i64 g] 3 by rw [hw2]; exact HG1.out.drewN _)
  have HP2 := Lib.hid (show Blk w2 P #[.int .i64 5, .bool nt, .bool lz, .int .i64 lo, .int .i64 hi, .slice sa sn sc, .slice ka kn kc] 25 by rw [hw2]; exact HP1.out.drewN _)
  have HO2 := Lib.hid (show Two Kn Kg w w2 by rw [hw2]; exact Aside.drewN HO1.out _)
  clear hw2 x0 p0 HK1 HG1 HP1 HO1 HW1
  have p0 : w2.cell? ⟨P, 0, none⟩ = some (.int .i64 5) := HP2.out.cell (i := 0) rfl
  have p1 : w2.cell? ⟨P, 1, none⟩ = some (.bool nt) := HP2.out.cell (i := 1) rfl
  have p2 : w2.cell? ⟨P, 2, none⟩ = some (.bool lz) := HP2.out.cell (i := 2) rfl
  have p3 : w2.cell? ⟨P, 3, none⟩ = some (.int .i64 lo) := HP2.out.cell (i := 3) rfl
  have p4 : w2.cell? ⟨P, 4, none⟩ = some (.int .i64 hi) := HP2.out.cell (i := 4) rfl
  have p5 : w2.cell? ⟨P, 5, none⟩ = some (.slice sa sn sc) := HP2.out.cell (i := 5) rfl
  have p6 : w2.cell? ⟨P, 6, none⟩ = some (.slice ka kn kc) := HP2.out.cell (i := 6) rfl
  have hPl := HP2.out.lt
  obtain ⟨rfl, rfl, rfl, rfl, rfl⟩ : sn = 0 ∧ nt = false ∧ lz = false ∧ lo = 0 ∧ hi = 0 := by
    have h1 := HGD.out.2.1
    simp [frmBad] at h1
    exact ⟨by omega, h1.2.1, h1.2.2.1, h1.2.2.2.1, h1.2.2.2.2⟩
  have k0 := HGD.out.2.2.2.2.2.1 (by simp)
  try simp only at k0
  clear HGD
  have k1 : inB (kn : Int) 2 (kn : Int) = true := by rw [inB_true]; omega
  go_upto_block 0 with (go_at_call 49; refine (in_any _ _ _ _).mono ?_; rintro e w4 ⟨rfl, rfl⟩)
  have HR := Lib.hid (HCK.out (by omega))
  try rw [if_pos rfl] at HR
  try rw [if_neg (by decide)] at HR
  obtain ⟨w3, hw3⟩ : ∃ x, x = ((w2.alloc (.cells #[.int .i64 0, .int .i64 0, .int .i64 0, .int .i64 0, .int .i64 0, .int .i64 2, .int .i64 1, .int .i64 1] 3)).alloc (.cells #[.int .i64 0, .int .i64 0, .int .i64 0, .int .i64 0, .int .i64 kn, .int .i64 kn, .int .i64 1, .int .i64 1] 3)) := ⟨_, rfl⟩
  have HK3 := Lib.hid (show Blk w3 Kn #[.int .i64 (n + 1)] 3 by rw [hw3]; exact ((HK2.out.alloc _).alloc _))
  have HG3 := Lib.hid (show Blk w3 Kg #[.int .i64 (g)] 3 by rw [hw3]; exact ((HG2.out.alloc _).alloc _))
  have HP3 := Lib.hid (show Blk w3 P _ 25 by rw [hw3]; exact ((HP2.out.alloc _).alloc _))
  have HO3 := Lib.hid (show Two Kn Kg w w3 by rw [hw3]; exact ((HO2.out.alloc _).alloc _))
  rw [← hw3]
  clear hw3
  have HB3 := Lib.hid (HB.out.trans (Two.to_below HO3.out HB.out.size hKn hKg))
  go_cut [8, 16, 17] from 165 to 193 (fun _ _ _ wx => E.1 = 0 ∧ Blk wx Kn #[.int .i64 E.2.1] 3 ∧ Blk wx Kg #[.int .i64 E.2.2] 3 ∧ Two Kn Kg w3 wx)
  case first =>
    exact rnLoop (kf := kf) (F := F) (kind := 5) (d := d) (n := n) (G := g) HIH HKC hkm HB3 hKn hKg hne hPn hPg HK3 HG3 HP3 hd0 (by omega) hn0 (by omega) (by omega) HF HFR HR (by
      intro t w' ht hf
      repeat (with_reducible first | refine ret_then3 ?_ | refine ret_block3 ?_)
      refine bodyPost_ret (v := .int .i64 E.1) (by rw [results_tmp rfl, ht]) rfl ?_
      exact ⟨rfl, hf.1, hf.2.1, Aside.trans HO3.out hf.2.2⟩) (by assumption) (by assumption)
  case rest =>
    obtain ⟨hz, hkb, hgb, ho⟩ := hcut
    have HZ := Lib.hid hz
    have HKB := Lib.hid hkb
    have HGB := Lib.hid hgb
    have HOB := Lib.hid ho
    clear hz hkb hgb ho
    go_wp2_with fail
    go_ret
    exact ⟨by rw [HZ.out]; rfl, HKB.out, HGB.out, Aside.trans HO3.out HOB.out⟩
end Go.Proofs.YtghbicajcffjhaaDoor.PC
