

/-
  The text of a node: nodes that have no kids.
-/
import Derived.Test.YtghbicajcffjhaaDoorPcShP
import Derived.Test.YtghbicajcffjhaaDoorPcShSetW
namespace Go.Proofs.YtghbicajcffjhaaDoor.PC
open Go.RowKit Go.Law Go.Law.Pn
set_option linter.unusedVariables false
set_option linter.unusedSimpArgs false
set_option maxRecDepth 100000
set_option maxHeartbeats 16000000 in
theorem show1 {W : World} {kf : Nat → PT} (nt lz : Bool) (lo hi : Int) (sn : Nat) (sa : Option Addr) (sc : Nat) (sf : Nat → Int × Int) (kn : Nat) (ka : Option Addr) (kc : Nat) (lv : Int) (w : World)
    (HIH : Hid (∀ i, i < kn → ∀ (lv : Int), 0 ≤ lv → lv ≤ 2 → ∀ w, Below W.heap.size W w → Calls Tryd.prog 27 #[.agg (kf i).hd.cells.toArray, .int .i64 lv] w fun e w' => e = .returned (.string (shwS (kf i) lv)) ∧ Below w.heap.size w w'))
    (HZ : Hid (∀ i, i < kn → ∀ lv, (shwS (kf i) lv).size + 10 ≤ 2000 * (kf i).cnt)) (HCN : Hid (1 + sumK (fun i => (kf i).cnt) kn ≤ 200))
    (HKC : Hid (CellsF W ka kn 7 (fun i => (kf i).hd.V))) (hkm : kn ≤ 2 ^ 63 - 1) (HB : Hid (Below W.heap.size W w)) (HEN : Hid (PEnv W)) (HS : Hid (SetOk W sa sn sf)) (hl0 : 0 ≤ lv) (hl2 : lv ≤ 2) (hV : shpE ⟨1, nt, lz, lo, hi, sn, sa, sc, sf, kn, ka, kc⟩ = 0) :
    Calls Tryd.prog 27 #[.agg #[.int .i64 1, .bool nt, .bool lz, .int .i64 lo, .int .i64 hi, .slice sa sn sc, .slice ka kn kc], .int .i64 lv] w fun e w' => e = .returned (.string (shwS (.mk ⟨1, nt, lz, lo, hi, sn, sa, sc, sf, kn, ka, kc⟩ kf) lv)) ∧ Below w.heap.size w w' := by
  have HGD := Lib.hid (shp_good hV)
  obtain ⟨V, hVV⟩ : ∃ V, V = shwS (.mk ⟨1, nt, lz, lo, hi, sn, sa, sc, sf, kn, ka, kc⟩ kf) lv := ⟨_, rfl⟩
  have HV0 := Lib.hid hVV
  rw [← hVV]
  obtain ⟨S, hS⟩ : ∃ S : ByteArray, S = ⟨#[94]⟩ := ⟨_, rfl⟩
  have HSV := Lib.hid hS
  clear hVV hV
  obtain ⟨kind, hkind⟩ : ∃ kind : Int, kind = 1 := ⟨_, rfl⟩
  obtain ⟨w1, hw1⟩ : ∃ x, x = w.alloc (.cells #[.int .i64 1, .bool nt, .bool lz, .int .i64 lo, .int .i64 hi, .slice sa sn sc, .slice ka kn kc] 25) := ⟨_, rfl⟩
  have HB1 := Lib.hid (show Below w.heap.size w w1 by rw [hw1]; exact (Below.refl _ _).alloc (Nat.le_refl _) _)
  obtain ⟨P, hP⟩ : ∃ x, x = w.heap.size := ⟨_, rfl⟩
  have HP1 := Lib.hid (show Blk w1 P #[.int .i64 1, .bool nt, .bool lz, .int .i64 lo, .int .i64 hi, .slice sa sn sc, .slice ka kn kc] 25 by rw [hw1, hP]; exact Blk.new _ _ _)
  have HBW := Lib.hid (show Below W.heap.size W w1 from HB.out.trans (HB1.out.mono HB.out.size))
  have HW1 := Lib.hid hw1
  have HPE := Lib.hid hP
  clear hS hkind hw1 hP
  go_enter Tryd.func27, Tryd.ntmps27
  go_upto_region 1 with fail
  rw [← HW1.out, ← HPE.out]
  have p0 : w1.cell? ⟨P, 0, none⟩ = some (.int .i64 1) := HP1.out.cell (i := 0) rfl
  have p1 : w1.cell? ⟨P, 1, none⟩ = some (.bool nt) := HP1.out.cell (i := 1) rfl
  have p2 : w1.cell? ⟨P, 2, none⟩ = some (.bool lz) := HP1.out.cell (i := 2) rfl
  have p3 : w1.cell? ⟨P, 3, none⟩ = some (.int .i64 lo) := HP1.out.cell (i := 3) rfl
  have p4 : w1.cell? ⟨P, 4, none⟩ = some (.int .i64 hi) := HP1.out.cell (i := 4) rfl
  have p5 : w1.cell? ⟨P, 5, none⟩ = some (.slice sa sn sc) := HP1.out.cell (i := 5) rfl
  have p6 : w1.cell? ⟨P, 6, none⟩ = some (.slice ka kn kc) := HP1.out.cell (i := 6) rfl
  have hPl := HP1.out.lt
  go_upto_block 0 with fail
  have HVB := Lib.hid (show V = brS 2 lv S by rw [HV0.out, HSV.out, shwS]; rfl)
  go_cut [5, 6, 8, 9, 10] from 13 to 77 (fun ov sv _ _ _ wx => ov = .int .i64 2 ∧ sv = .string S ∧ Below w1.heap.size w1 wx)
  case first =>
    go_wp2_with fail
    go_meet
    exact ⟨rfl, by rw [HSV.out], Below.refl _ _⟩
  case rest =>
    obtain ⟨rfl, rfl, hb⟩ := hcut
    obtain ⟨w5, rfl⟩ : ∃ x : World, x = wc := ⟨_, rfl⟩
    have HB5 := Lib.hid (HB1.out.trans (hb.mono HB1.out.size))
    have hSz : S.size ≤ 500000 := (by rw [HSV.out]; show 1 ≤ _; omega)
    clear p0 p1 p2 p3 p4 p5 p6 hb hPl
    have hol : ¬ (2 : Int) < lv := by omega
    have HE := Lib.hid (show V = S by rw [HVB.out, brS, if_neg hol])
    go_wp2_with fail
    go_ret
    exact ⟨by rw [HE.out]; rfl, HB5.out⟩
set_option maxHeartbeats 16000000 in
theorem show2 {W : World} {kf : Nat → PT} (nt lz : Bool) (lo hi : Int) (sn : Nat) (sa : Option Addr) (sc : Nat) (sf : Nat → Int × Int) (kn : Nat) (ka : Option Addr) (kc : Nat) (lv : Int) (w : World)
    (HIH : Hid (∀ i, i < kn → ∀ (lv : Int), 0 ≤ lv → lv ≤ 2 → ∀ w, Below W.heap.size W w → Calls Tryd.prog 27 #[.agg (kf i).hd.cells.toArray, .int .i64 lv] w fun e w' => e = .returned (.string (shwS (kf i) lv)) ∧ Below w.heap.size w w'))
    (HZ : Hid (∀ i, i < kn → ∀ lv, (shwS (kf i) lv).size + 10 ≤ 2000 * (kf i).cnt)) (HCN : Hid (1 + sumK (fun i => (kf i).cnt) kn ≤ 200))
    (HKC : Hid (CellsF W ka kn 7 (fun i => (kf i).hd.V))) (hkm : kn ≤ 2 ^ 63 - 1) (HB : Hid (Below W.heap.size W w)) (HEN : Hid (PEnv W)) (HS : Hid (SetOk W sa sn sf)) (hl0 : 0 ≤ lv) (hl2 : lv ≤ 2) (hV : shpE ⟨2, nt, lz, lo, hi, sn, sa, sc, sf, kn, ka, kc⟩ = 0) :
    Calls Tryd.prog 27 #[.agg #[.int .i64 2, .bool nt, .bool lz, .int .i64 lo, .int .i64 hi, .slice sa sn sc, .slice ka kn kc], .int .i64 lv] w fun e w' => e = .returned (.string (shwS (.mk ⟨2, nt, lz, lo, hi, sn, sa, sc, sf, kn, ka, kc⟩ kf) lv)) ∧ Below w.heap.size w w' := by
  have HGD := Lib.hid (shp_good hV)
  obtain ⟨V, hVV⟩ : ∃ V, V = shwS (.mk ⟨2, nt, lz, lo, hi, sn, sa, sc, sf, kn, ka, kc⟩ kf) lv := ⟨_, rfl⟩
  have HV0 := Lib.hid hVV
  rw [← hVV]
  obtain ⟨S, hS⟩ : ∃ S : ByteArray, S = ⟨#[36]⟩ := ⟨_, rfl⟩
  have HSV := Lib.hid hS
  clear hVV hV
  obtain ⟨kind, hkind⟩ : ∃ kind : Int, kind = 2 := ⟨_, rfl⟩
  obtain ⟨w1, hw1⟩ : ∃ x, x = w.alloc (.cells #[.int .i64 2, .bool nt, .bool lz, .int .i64 lo, .int .i64 hi, .slice sa sn sc, .slice ka kn kc] 25) := ⟨_, rfl⟩
  have HB1 := Lib.hid (show Below w.heap.size w w1 by rw [hw1]; exact (Below.refl _ _).alloc (Nat.le_refl _) _)
  obtain ⟨P, hP⟩ : ∃ x, x = w.heap.size := ⟨_, rfl⟩
  have HP1 := Lib.hid (show Blk w1 P #[.int .i64 2, .bool nt, .bool lz, .int .i64 lo, .int .i64 hi, .slice sa sn sc, .slice ka kn kc] 25 by rw [hw1, hP]; exact Blk.new _ _ _)
  have HBW := Lib.hid (show Below W.heap.size W w1 from HB.out.trans (HB1.out.mono HB.out.size))
  have HW1 := Lib.hid hw1
  have HPE := Lib.hid hP
  clear hS hkind hw1 hP
  go_enter Tryd.func27, Tryd.ntmps27
  go_upto_region 1 with fail
  rw [← HW1.out, ← HPE.out]
  have p0 : w1.cell? ⟨P, 0, none⟩ = some (.int .i64 2) := HP1.out.cell (i := 0) rfl
  have p1 : w1.cell? ⟨P, 1, none⟩ = some (.bool nt) := HP1.out.cell (i := 1) rfl
  have p2 : w1.cell? ⟨P, 2, none⟩ = some (.bool lz) := HP1.out.cell (i := 2) rfl
  have p3 : w1.cell? ⟨P, 3, none⟩ = some (.int .i64 lo) := HP1.out.cell (i := 3) rfl
  have p4 : w1.cell? ⟨P, 4, none⟩ = some (.int .i64 hi) := HP1.out.cell (i := 4) rfl
  have p5 : w1.cell? ⟨P, 5, none⟩ = some (.slice sa sn sc) := HP1.out.cell (i := 5) rfl
  have p6 : w1.cell? ⟨P, 6, none⟩ = some (.slice ka kn kc) := HP1.out.cell (i := 6) rfl
  have hPl := HP1.out.lt
  go_upto_block 0 with fail
  have HVB := Lib.hid (show V = brS 2 lv S by rw [HV0.out, HSV.out, shwS]; rfl)
  go_cut [5, 6, 8, 9, 10] from 13 to 77 (fun ov sv _ _ _ wx => ov = .int .i64 2 ∧ sv = .string S ∧ Below w1.heap.size w1 wx)
  case first =>
    go_wp2_with fail
    go_meet
    exact ⟨rfl, by rw [HSV.out], Below.refl _ _⟩
  case rest =>
    obtain ⟨rfl, rfl, hb⟩ := hcut
    obtain ⟨w5, rfl⟩ : ∃ x : World, x = wc := ⟨_, rfl⟩
    have HB5 := Lib.hid (HB1.out.trans (hb.mono HB1.out.size))
    have hSz : S.size ≤ 500000 := (by rw [HSV.out]; show 1 ≤ _; omega)
    clear p0 p1 p2 p3 p4 p5 p6 hb hPl
    have hol : ¬ (2 : Int) < lv := by omega
    have HE := Lib.hid (show V = S by rw [HVB.out, brS, if_neg hol])
    go_wp2_with fail
    go_ret
    exact ⟨by rw [HE.out]; rfl, HB5.out⟩
set_option maxHeartbeats 16000000 in
theorem show3 {W : World} {kf : Nat → PT} (nt lz : Bool) (lo hi : Int) (sn : Nat) (sa : Option Addr) (sc : Nat) (sf : Nat → Int × Int) (kn : Nat) (ka : Option Addr) (kc : Nat) (lv : Int) (w : World)
    (HIH : Hid (∀ i, i < kn → ∀ (lv : Int), 0 ≤ lv → lv ≤ 2 → ∀ w, Below W.heap.size W w → Calls Tryd.prog 27 #[.agg (kf i).hd.cells.toArray, .int .i64 lv] w fun e w' => e = .returned (.string (shwS (kf i) lv)) ∧ Below w.heap.size w w'))
    (HZ : Hid (∀ i, i < kn → ∀ lv, (shwS (kf i) lv).size + 10 ≤ 2000 * (kf i).cnt)) (HCN : Hid (1 + sumK (fun i => (kf i).cnt) kn ≤ 200))
    (HKC : Hid (CellsF W ka kn 7 (fun i => (kf i).hd.V))) (hkm : kn ≤ 2 ^ 63 - 1) (HB : Hid (Below W.heap.size W w)) (HEN : Hid (PEnv W)) (HS : Hid (SetOk W sa sn sf)) (hl0 : 0 ≤ lv) (hl2 : lv ≤ 2) (hV : shpE ⟨3, nt, lz, lo, hi, sn, sa, sc, sf, kn, ka, kc⟩ = 0) :
    Calls Tryd.prog 27 #[.agg #[.int .i64 3, .bool nt, .bool lz, .int .i64 lo, .int .i64 hi, .slice sa sn sc, .slice ka kn kc], .int .i64 lv] w fun e w' => e = .returned (.string (shwS (.mk ⟨3, nt, lz, lo, hi, sn, sa, sc, sf, kn, ka, kc⟩ kf) lv)) ∧ Below w.heap.size w w' := by
  have HGD := Lib.hid (shp_good hV)
  obtain ⟨V, hVV⟩ : ∃ V, V = shwS (.mk ⟨3, nt, lz, lo, hi, sn, sa, sc, sf, kn, ka, kc⟩ kf) lv := ⟨_, rfl⟩
  have HV0 := Lib.hid hVV
  rw [← hVV]
  obtain ⟨S, hS⟩ : ∃ S : ByteArray, S = (if nt then ⟨#[92, 66]⟩ else ⟨#[92, 98]⟩) := ⟨_, rfl⟩
  have HSV := Lib.hid hS
  clear hVV hV
  obtain ⟨kind, hkind⟩ : ∃ kind : Int, kind = 3 := ⟨_, rfl⟩
  obtain ⟨w1, hw1⟩ : ∃ x, x = w.alloc (.cells #[.int .i64 3, .bool nt, .bool lz, .int .i64 lo, .int .i64 hi, .slice sa sn sc, .slice ka kn kc] 25) := ⟨_, rfl⟩
  have HB1 := Lib.hid (show Below w.heap.size w w1 by rw [hw1]; exact (Below.refl _ _).alloc (Nat.le_refl _) _)
  obtain ⟨P, hP⟩ : ∃ x, x = w.heap.size := ⟨_, rfl⟩
  have HP1 := Lib.hid (show Blk w1 P #[.int .i64 3, .bool nt, .bool lz, .int .i64 lo, .int .i64 hi, .slice sa sn sc, .slice ka kn kc] 25 by rw [hw1, hP]; exact Blk.new _ _ _)
  have HBW := Lib.hid (show Below W.heap.size W w1 from HB.out.trans (HB1.out.mono HB.out.size))
  have HW1 := Lib.hid hw1
  have HPE := Lib.hid hP
  clear hS hkind hw1 hP
  go_enter Tryd.func27, Tryd.ntmps27
  go_upto_region 1 with fail
  rw [← HW1.out, ← HPE.out]
  have p0 : w1.cell? ⟨P, 0, none⟩ = some (.int .i64 3) := HP1.out.cell (i := 0) rfl
  have p1 : w1.cell? ⟨P, 1, none⟩ = some (.bool nt) := HP1.out.cell (i := 1) rfl
  have p2 : w1.cell? ⟨P, 2, none⟩ = some (.bool lz) := HP1.out.cell (i := 2) rfl
  have p3 : w1.cell? ⟨P, 3, none⟩ = some (.int .i64 lo) := HP1.out.cell (i := 3) rfl
  have p4 : w1.cell? ⟨P, 4, none⟩ = some (.int .i64 hi) := HP1.out.cell (i := 4) rfl
  have p5 : w1.cell? ⟨P, 5, none⟩ = some (.slice sa sn sc) := HP1.out.cell (i := 5) rfl
  have p6 : w1.cell? ⟨P, 6, none⟩ = some (.slice ka kn kc) := HP1.out.cell (i := 6) rfl
  have hPl := HP1.out.lt
  go_upto_block 0 with fail
  have HVB := Lib.hid (show V = brS 2 lv S by rw [HV0.out, HSV.out, shwS]; rfl)
  go_cut [5, 6, 8, 9, 10] from 13 to 77 (fun ov sv _ _ _ wx => ov = .int .i64 2 ∧ sv = .string S ∧ Below w1.heap.size w1 wx)
  case first =>
    cases nt
    · have HX := Lib.hid (show S = ⟨#[92, 98]⟩ by rw [HSV.out]; rfl)
      go_wp2_with fail
      go_meet
      exact ⟨rfl, by rw [HX.out], Below.refl _ _⟩
    · have HX := Lib.hid (show S = ⟨#[92, 66]⟩ by rw [HSV.out]; rfl)
      go_wp2_with fail
      go_meet
      exact ⟨rfl, by rw [HX.out], Below.refl _ _⟩
  case rest =>
    obtain ⟨rfl, rfl, hb⟩ := hcut
    obtain ⟨w5, rfl⟩ : ∃ x : World, x = wc := ⟨_, rfl⟩
    have HB5 := Lib.hid (HB1.out.trans (hb.mono HB1.out.size))
    have hSz : S.size ≤ 500000 := (by rw [HSV.out]; split <;> (show 2 ≤ _; omega))
    clear p0 p1 p2 p3 p4 p5 p6 hb hPl
    have hol : ¬ (2 : Int) < lv := by omega
    have HE := Lib.hid (show V = S by rw [HVB.out, brS, if_neg hol])
    go_wp2_with fail
    go_ret
    exact ⟨by rw [HE.out]; rfl, HB5.out⟩
set_option maxHeartbeats 16000000 in
theorem show0 {W : World} {kf : Nat → PT} (nt lz : Bool) (lo hi : Int) (sn : Nat) (sa : Option Addr) (sc : Nat) (sf : Nat → Int × Int) (kn : Nat) (ka : Option Addr) (kc : Nat) (lv : Int) (w : World)
    (HIH : Hid (∀ i, i < kn → ∀ (lv : Int), 0 ≤ lv → lv ≤ 2 → ∀ w, Below W.heap.size W w → Calls Tryd.prog 27 #[.agg (kf i).hd.cells.toArray, .int .i64 lv] w fun e w' => e = .returned (.string (shwS (kf i) lv)) ∧ Below w.heap.size w w'))
    (HZ : Hid (∀ i, i < kn → ∀ lv, (shwS (kf i) lv).size + 10 ≤ 2000 * (kf i).cnt)) (HCN : Hid (1 + sumK (fun i => (kf i).cnt) kn ≤ 200))
    (HKC : Hid (CellsF W ka kn 7 (fun i => (kf i).hd.V))) (hkm : kn ≤ 2 ^ 63 - 1) (HB : Hid (Below W.heap.size W w)) (HEN : Hid (PEnv W)) (HS : Hid (SetOk W sa sn sf)) (hl0 : 0 ≤ lv) (hl2 : lv ≤ 2) (hV : shpE ⟨0, nt, lz, lo, hi, sn, sa, sc, sf, kn, ka, kc⟩ = 0) :
    Calls Tryd.prog 27 #[.agg #[.int .i64 0, .bool nt, .bool lz, .int .i64 lo, .int .i64 hi, .slice sa sn sc, .slice ka kn kc], .int .i64 lv] w fun e w' => e = .returned (.string (shwS (.mk ⟨0, nt, lz, lo, hi, sn, sa, sc, sf, kn, ka, kc⟩ kf) lv)) ∧ Below w.heap.size w w' := by
  have HGD := Lib.hid (shp_good hV)
  obtain ⟨V, hVV⟩ : ∃ V, V = shwS (.mk ⟨0, nt, lz, lo, hi, sn, sa, sc, sf, kn, ka, kc⟩ kf) lv := ⟨_, rfl⟩
  have HV0 := Lib.hid hVV
  rw [← hVV]
  obtain ⟨S, hS⟩ : ∃ S : ByteArray, S = setS nt sn sf := ⟨_, rfl⟩
  have HSV := Lib.hid hS
  clear hVV hV
  obtain ⟨kind, hkind⟩ : ∃ kind : Int, kind = 0 := ⟨_, rfl⟩
  obtain ⟨w1, hw1⟩ : ∃ x, x = w.alloc (.cells #[.int .i64 0, .bool nt, .bool lz, .int .i64 lo, .int .i64 hi, .slice sa sn sc, .slice ka kn kc] 25) := ⟨_, rfl⟩
  have HB1 := Lib.hid (show Below w.heap.size w w1 by rw [hw1]; exact (Below.refl _ _).alloc (Nat.le_refl _) _)
  obtain ⟨P, hP⟩ : ∃ x, x = w.heap.size := ⟨_, rfl⟩
  have HP1 := Lib.hid (show Blk w1 P #[.int .i64 0, .bool nt, .bool lz, .int .i64 lo, .int .i64 hi, .slice sa sn sc, .slice ka kn kc] 25 by rw [hw1, hP]; exact Blk.new _ _ _)
  have HBW := Lib.hid (show Below W.heap.size W w1 from HB.out.trans (HB1.out.mono HB.out.size))
  have HW1 := Lib.hid hw1
  have HPE := Lib.hid hP
  clear hS hkind hw1 hP
  go_enter Tryd.func27, Tryd.ntmps27
  go_upto_region 1 with fail
  rw [← HW1.out, ← HPE.out]
  have p0 : w1.cell? ⟨P, 0, none⟩ = some (.int .i64 0) := HP1.out.cell (i := 0) rfl
  have p1 : w1.cell? ⟨P, 1, none⟩ = some (.bool nt) := HP1.out.cell (i := 1) rfl
  have p2 : w1.cell? ⟨P, 2, none⟩ = some (.bool lz) := HP1.out.cell (i := 2) rfl
  have p3 : w1.cell? ⟨P, 3, none⟩ = some (.int .i64 lo) := HP1.out.cell (i := 3) rfl
  have p4 : w1.cell? ⟨P, 4, none⟩ = some (.int .i64 hi) := HP1.out.cell (i := 4) rfl
  have p5 : w1.cell? ⟨P, 5, none⟩ = some (.slice sa sn sc) := HP1.out.cell (i := 5) rfl
  have p6 : w1.cell? ⟨P, 6, none⟩ = some (.slice ka kn kc) := HP1.out.cell (i := 6) rfl
  have hPl := HP1.out.lt
  go_upto_block 0 with fail
  have HVB := Lib.hid (show V = brS 2 lv S by rw [HV0.out, HSV.out, shwS]; rfl)
  go_cut [5, 6, 8, 9, 10] from 13 to 77 (fun ov sv _ _ _ wx => ov = .int .i64 2 ∧ sv = .string S ∧ Below w1.heap.size w1 wx)
  case first =>
    have hv := (HGD.out.2.2.1 (by simp)).2
    have HC := Lib.hid (showSet_any 0 nt lz lo hi sn sa sc sf kn ka kc w1 (CellsF.below HS.out (Nat.le_refl _) HBW.out) (HEN.out.below HBW.out (Nat.le_refl _)) hv)
    rw [← HSV.out] at HC
    clear hv
    go_wp2_with (go_at_call 56; refine HC.out.mono ?_; rintro e w2 ⟨rfl, hb2⟩)
    go_meet
    exact ⟨rfl, rfl, hb2⟩
  case rest =>
    obtain ⟨rfl, rfl, hb⟩ := hcut
    obtain ⟨w5, rfl⟩ : ∃ x : World, x = wc := ⟨_, rfl⟩
    have HB5 := Lib.hid (HB1.out.trans (hb.mono HB1.out.size))
    have hSz : S.size ≤ 500000 := (by rw [HSV.out]; have h1 := setE_good (HGD.out.2.2.1 (by simp)).2; have h2 := setS_size nt sn sf h1.2.1; omega)
    clear p0 p1 p2 p3 p4 p5 p6 hb hPl
    have hol : ¬ (2 : Int) < lv := by omega
    have HE := Lib.hid (show V = S by rw [HVB.out, brS, if_neg hol])
    go_wp2_with fail
    go_ret
    exact ⟨by rw [HE.out]; rfl, HB5.out⟩
end Go.Proofs.YtghbicajcffjhaaDoor.PC
