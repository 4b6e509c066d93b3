



/-
  MasterShows: the law's walk: the law itself.
-/
import Derived.Test.YtabnohphgegflaaMsParts
import Derived.Test.YtabnohphgegflaaMsBacksLoop
import Derived.Test.YtabnohphgegflaaMsFrontLoop
import Derived.Test.YtabnohphgegflaaMsMissLoop
namespace Go.Proofs.Ytabnohphgegflaa.MS
open Go.RowKit Go.Law Go.Law.Sh Go.Law.Ms ShT
set_option linter.unusedVariables false
set_option linter.unusedSimpArgs false
set_option maxRecDepth 100000
set_option maxHeartbeats 8000000 in
theorem showsLaw_any (n1 n2 : Nat) (E1 E2 : Nat → Nat → Int) (N1 N2 : Nat → Nat → ByteArray) (a1 a2 : Option Addr) (c1 c2 : Nat) (w : World) (h1 : ShF w a1 n1 E1 N1) (h2 : ShF w a2 n2 E2 N2) (hc1 : n1 ≤ c1 ∧ c1 ≤ maxLen) (hc2 : n2 ≤ c2 ∧ c2 ≤ maxLen) (hl : n1 ≤ 1000000000000000000 ∧ n2 ≤ 1000000000000000000)
    (hz1 : ∀ j, j < n1 → (N1 j 0).size ≤ maxLen) (hz2 : ∀ j, j < n2 → (N2 j 0).size ≤ maxLen) :
    Calls Try.prog 3 #[.slice a1 n1 c1, .slice a2 n2 c2] w (TrueB w) := by
  have H1 := Lib.hid h1
  have H2 := Lib.hid h2
  have HC1 := Lib.hid hc1
  have HC2 := Lib.hid hc2
  have HL := Lib.hid hl
  have HZ1 := Lib.hid hz1
  have HZ2 := Lib.hid hz2
  clear h1 h2 hc1 hc2 hl hz1 hz2
  go_enter Try.func3, Try.ntmps3
  go_upto_region 2 with fail
  obtain ⟨w1, hw1⟩ : ∃ w1, w1 = w.alloc (.cells #[.int .i64 1, .int .i64 0, .int .i64 0, .int .i64 7, .int .i64 0, .int .i64 5, .int .i64 5, .int .i64 0, .int .i64 0, .int .i64 0, .string ⟨#[112, 108, 97, 99, 101, 46, 116, 105, 116, 108, 101]⟩, .string ⟨#[]⟩, .int .i64 2, .int .i64 0, .int .i64 0, .int .i64 0, .int .i64 0, .int .i64 3, .int .i64 0, .int .i64 0, .int .i64 0, .int .i64 0, .string ⟨#[]⟩, .string ⟨#[]⟩] 24) := ⟨_, rfl⟩
  have HX2 := Lib.hid (show ShF w1 (some ⟨w.heap.size, 0, none⟩) 2 exE2 exN2 by rw [hw1]; exact ex_cells2 w)
  have HB1 := Lib.hid (show Below w.heap.size w w1 by rw [hw1]; exact (Below.refl _ _).alloc (Nat.le_refl _) _)
  rw [← hw1]
  obtain ⟨ka, hka⟩ : ∃ ka : Addr, ka = ⟨w.heap.size, 0, none⟩ := ⟨_, rfl⟩
  rw [← hka] at HX2 ⊢
  clear hw1 hka
  go_wp2_with fail
  obtain ⟨w2, hw2⟩ : ∃ w2, w2 = w1.alloc (.cells #[.int .i64 9, .int .i64 0, .int .i64 0, .int .i64 0, .int .i64 0, .int .i64 0, .int .i64 0, .int .i64 0, .int .i64 0, .int .i64 0, .string ⟨#[112, 108, 97, 99, 101, 46, 116, 105, 116, 108, 101]⟩, .string ⟨#[]⟩] 24) := ⟨_, rfl⟩
  have HX1 := Lib.hid (show ShF w2 (some ⟨w1.heap.size, 0, none⟩) 1 exE1 exN1 by rw [hw2]; exact ex_cells1 w1)
  have HB2 := Lib.hid (show Below w1.heap.size w1 w2 by rw [hw2]; exact (Below.refl _ _).alloc (Nat.le_refl _) _)
  rw [← hw2]
  clear hw2
  refine (show_ok 1 2 exE1 exE2 exN1 exN2 _ _ 1 2 w2 HX1.out (HX2.out.below (Nat.le_refl _) HB2.out) (by omega) (by omega) ex_ok1 ex_ok2).mono ?_
  rintro e w3 ⟨v1, v2, rfl, hr1, hr2, hb3⟩
  rw [ex_back] at hr1
  obtain ⟨ra1, rc1, hv1, _, _⟩ := RowV.slice hr1
  obtain ⟨rg2, rc2, hv2, _, _, _, _, _, hcells2⟩ := RowV.at hr2 (by omega)
  have q3 := hcells2 0 (by omega) 3 (by omega)
  simp only [ShD.V, ShD.cells, Nat.zero_mul, Nat.zero_add, ex_front] at q3
  subst hv1
  subst hv2
  have q4 : w3.cell? ⟨rg2, 3, none⟩ = some (.int .i64 7) := by rw [q3]; rfl
  have HB3 := Lib.hid (HB1.out.trans ((HB2.out.trans (hb3.mono HB2.out.size)).mono HB1.out.size))
  clear hr1 hr2 hb3 hcells2 q3 HX1 HX2 HB1 HB2
  go_wp2_with fail
  refine (cutShapes_any n1 a1 c1 w3 HL.out.1 HC1.out).mono ?_
  rintro e w4 ⟨rfl, rfl⟩
  go_wp2_with fail
  refine (cutShapes_any n2 a2 c2 w3 HL.out.2 HC2.out).mono ?_
  rintro e w4 ⟨rfl, rfl⟩
  obtain ⟨m1, hm1⟩ : ∃ m, m = min n1 20 := ⟨_, rfl⟩
  obtain ⟨m2, hm2⟩ : ∃ m, m = min n2 20 := ⟨_, rfl⟩
  rw [← hm1, ← hm2]
  have hl1 : m1 ≤ 20 := by omega
  have hl2 : m2 ≤ 20 := by omega
  have G1 := Lib.hid (show ShF w a1 m1 E1 N1 from H1.out.less (by omega))
  have G2 := Lib.hid (show ShF w a2 m2 E2 N2 from H2.out.less (by omega))
  have GC := Lib.hid (show m1 ≤ c1 ∧ m2 ≤ c2 by have := HC1.out; have := HC2.out; omega)
  have GZ1 := Lib.hid (show ∀ j, j < m1 → (N1 j 0).size ≤ maxLen from fun j hj => HZ1.out j (by omega))
  have GZ2 := Lib.hid (show ∀ j, j < m2 → (N2 j 0).size ≤ maxLen from fun j hj => HZ2.out j (by omega))
  clear hm1 hm2 H1 H2 HC1 HC2 HL HZ1 HZ2 q4
  by_cases hE1 : shE m1 E1 = 0
  case neg =>
    obtain ⟨V, hV⟩ : ∃ V, V = shE m1 E1 := ⟨_, rfl⟩
    have HV := Lib.hid hV
    have HNE := Lib.hid hE1
    have g : (V == 0) = false := by rw [hV]; simpa using hE1
    have g' : (V != 0) = true := by rw [hV]; simpa using hE1
    have g2 : (V == V) = true := by simp
    clear hV hE1
    go_wp2_with fail
    refine (show_bad1 m1 m2 E1 E2 N1 N2 a1 a2 c1 c2 w3 (G1.out.below (Nat.le_refl _) HB3.out) (G2.out.below (Nat.le_refl _) HB3.out) ⟨by omega, GC.out.1⟩ HNE.out).mono ?_
    rintro e w4 ⟨rfl, hb4⟩
    rw [← HV.out]
    have HB4 := Lib.hid (HB3.out.trans (hb4.mono HB3.out.size))
    clear hb4
    go_wp2_with fail
    refine (miss_bad1 m1 m2 E1 E2 N1 N2 a1 a2 c1 c2 w4 (G1.out.below (Nat.le_refl _) HB4.out) ⟨by omega, GC.out.1⟩ HNE.out).mono ?_
    rintro e w5 ⟨rfl, hb5⟩
    rw [← HV.out]
    have HB5 := Lib.hid (HB4.out.trans (hb5.mono HB4.out.size))
    clear hb5
    go_wp2_with fail
    refine (shapesError_any m1 E1 N1 a1 c1 w5 (G1.out.below (Nat.le_refl _) HB5.out) (by omega) GC.out.1).mono ?_
    rintro e w6 ⟨rfl, hb6⟩
    rw [← HV.out]
    have HB6 := Lib.hid (HB5.out.trans (hb6.mono HB5.out.size))
    clear hb6
    go_wp2_with fail
    go_ret
    exact ⟨rfl, HB6.out⟩
  have E10 := Lib.hid hE1
  clear hE1
  by_cases hE2 : shE m2 E2 = 0
  case neg =>
    obtain ⟨V, hV⟩ : ∃ V, V = shE m2 E2 := ⟨_, rfl⟩
    have HV := Lib.hid hV
    have HNE := Lib.hid hE2
    have g' : (V != 0) = true := by rw [hV]; simpa using hE2
    have g2 : (V == V) = true := by simp
    clear hV hE2
    go_wp2_with fail
    refine (show_bad2 m1 m2 E1 E2 N1 N2 a1 a2 c1 c2 w3 (G1.out.below (Nat.le_refl _) HB3.out) (G2.out.below (Nat.le_refl _) HB3.out) ⟨by omega, GC.out.1⟩ ⟨by omega, GC.out.2⟩ E10.out HNE.out).mono ?_
    rintro e w4 ⟨rfl, hb4⟩
    rw [← HV.out]
    have HB4 := Lib.hid (HB3.out.trans (hb4.mono HB3.out.size))
    clear hb4
    go_wp2_with fail
    refine (miss_bad2 m1 m2 E1 E2 N1 N2 a1 a2 c1 c2 w4 (G1.out.below (Nat.le_refl _) HB4.out) (G2.out.below (Nat.le_refl _) HB4.out) ⟨by omega, GC.out.1⟩ ⟨by omega, GC.out.2⟩ E10.out HNE.out).mono ?_
    rintro e w5 ⟨rfl, hb5⟩
    rw [← HV.out]
    have HB5 := Lib.hid (HB4.out.trans (hb5.mono HB4.out.size))
    clear hb5
    go_wp2_with fail
    refine (shapesError_any m1 E1 N1 a1 c1 w5 (G1.out.below (Nat.le_refl _) HB5.out) (by omega) GC.out.1).mono ?_
    rintro e w6 ⟨rfl, hb6⟩
    rw [E10.out]
    have HB6 := Lib.hid (HB5.out.trans (hb6.mono HB5.out.size))
    clear hb6
    go_wp2_with fail
    refine (shapesError_any m2 E2 N2 a2 c2 w6 (G2.out.below (Nat.le_refl _) HB6.out) (by omega) GC.out.2).mono ?_
    rintro e w7 ⟨rfl, hb7⟩
    rw [← HV.out]
    have HB7 := Lib.hid (HB6.out.trans (hb7.mono HB6.out.size))
    clear hb7
    go_wp2_with fail
    go_ret
    exact ⟨rfl, HB7.out⟩
  have E20 := Lib.hid hE2
  clear hE2
  go_wp2_with fail
  refine (show_ok m1 m2 E1 E2 N1 N2 a1 a2 c1 c2 w3 (G1.out.below (Nat.le_refl _) HB3.out) (G2.out.below (Nat.le_refl _) HB3.out) GC.out.1 GC.out.2 E10.out E20.out).mono ?_
  rintro e w4 ⟨v1, v2, rfl, hr1, hr2, hb4⟩
  obtain ⟨ra1, rc1, hv1, hcx1, hmx1⟩ := RowV.slice hr1
  obtain ⟨ra2, rc2, hv2, hcx2, hmx2⟩ := RowV.slice hr2
  have hbl := back_len (E := E2) (N := N2) m2
  obtain ⟨bn, hbn⟩ : ∃ bn, bn = (backL E2 N2 m2).length := ⟨_, rfl⟩
  rw [← hbn] at hr1 hv1 hbl
  subst hv1
  subst hv2
  have HR1 := Lib.hid hr1
  have HR2 := Lib.hid hr2
  have HBN := Lib.hid hbn
  have HB4 := Lib.hid (HB3.out.trans (hb4.mono HB3.out.size))
  clear hr1 hr2 hb4 hbn hcx1 hmx1 hcx2 hmx2
  go_wp2_with fail
  refine (miss_ok m1 m2 E1 E2 N1 N2 a1 a2 c1 c2 w4 (G1.out.below (Nat.le_refl _) HB4.out) (G2.out.below (Nat.le_refl _) HB4.out) GC.out.1 GC.out.2 E10.out E20.out GZ1.out GZ2.out).mono ?_
  rintro e w5 ⟨v3, rfl, hr3, hb5⟩
  obtain ⟨ra3, rc3, hv3, hcx3, hmx3⟩ := RowV.slice hr3
  have hml := miss_len (n1 := m1) (E1 := E1) (N1 := N1) (E2 := E2) (N2 := N2) m2
  obtain ⟨mn, hmn⟩ : ∃ mn, mn = (missL m1 E1 N1 E2 N2 m2).length := ⟨_, rfl⟩
  rw [← hmn] at hr3 hv3 hml
  subst hv3
  have HR3 := Lib.hid hr3
  have HMN := Lib.hid hmn
  have HB45 := Lib.hid hb5
  have HB5 := Lib.hid (HB4.out.trans (hb5.mono HB4.out.size))
  clear hr3 hb5 hmn hcx3 hmx3
  go_wp2_with fail
  refine (shapesError_any m1 E1 N1 a1 c1 w5 (G1.out.below (Nat.le_refl _) HB5.out) (by omega) GC.out.1).mono ?_
  rintro e w6 ⟨rfl, hb6⟩
  rw [E10.out]
  have HB46 := Lib.hid (HB45.out.trans (hb6.mono HB45.out.size))
  have HB56 := Lib.hid hb6
  clear hb6
  go_wp2_with fail
  refine (shapesError_any m2 E2 N2 a2 c2 w6 (G2.out.below (Nat.le_refl _) (HB4.out.trans (HB46.out.mono HB4.out.size))) (by omega) GC.out.2).mono ?_
  rintro e w7 ⟨rfl, hb7⟩
  rw [E20.out]
  have HB47 := Lib.hid (HB46.out.trans (hb7.mono HB46.out.size))
  have HB57 := Lib.hid (HB56.out.trans (hb7.mono HB56.out.size))
  have HB7 := Lib.hid (HB4.out.trans (HB47.out.mono HB4.out.size))
  have HIS := Lib.hid (show (Try.prog.info? 24).map (fun i => (i.zero, i.size, i.bytes)) = some (some (.agg #[.int .i64 0, .int .i64 0, .int .i64 0, .int .i64 0, .int .i64 0, .int .i64 0, .int .i64 0, .int .i64 0, .int .i64 0, .int .i64 0, .string ⟨#[]⟩, .string ⟨#[]⟩]), 12, 112) by kernel_rfl)
  clear hb7 HB45 HB46 HB5 HB56
  have HLEN := Lib.hid (show (lawB E2 N2 m2 m2).length = bn from by unfold lawB; rw [List.length_map, HBN.out])
  have HIT := Lib.hid (show (Try.prog.info? 9).map (fun i => (i.zero, i.size, i.bytes)) = some (some (.string ⟨#[]⟩), 1, 16) by kernel_rfl)
  go_upto_block 0 with fail
  go_cut [15] from 15 to 15 (fun bv wx => Below w7.heap.size w7 wx ∧ RowV wx w7.heap.size 24 12 bv (lawB E2 N2 m2 m2).length (fun q => ((lawB E2 N2 m2 m2).getD q default).V))
  case first => exact backsLoop hl2 G2 E20 HB7 HIS (by assumption) (by assumption)
  case rest =>
  obtain ⟨hbel, hrow⟩ := hcut
  obtain ⟨wo, rfl⟩ : ∃ x : World, x = wc := ⟨_, rfl⟩
  rw [HLEN.out] at hrow
  obtain ⟨av, cv, hv, _, _⟩ := RowV.slice hrow
  subst hv
  have HRB := Lib.hid hrow
  have HBB := Lib.hid hbel
  have HBWB := Lib.hid (HB7.out.trans (hbel.mono HB7.out.size))
  clear hrow hbel
  go_upto_block 4 with fail
  go_cut [21] from 21 to 21 (fun fv wx => Below wo.heap.size wo wx ∧ RowV wx wo.heap.size 24 12 fv m1 (fun q => (frontD m2 E2 N2 (shD E1 N1 q)).V))
  case first => exact frontLoop hl1 hl2 GC G1 G2 E20 HBWB HIS (Lib.hid fun _ _ _ _ hd h => ⟨hd.symm.trans h.1, h.2⟩) (by assumption) (by assumption)
  case rest =>
  obtain ⟨hbel, hrow⟩ := hcut
  obtain ⟨wq, rfl⟩ : ∃ x : World, x = wc := ⟨_, rfl⟩
  obtain ⟨fa, fc, hfv, _, _⟩ := RowV.slice hrow
  subst hfv
  have HRF := Lib.hid hrow
  have HBF := Lib.hid hbel
  have HBWF := Lib.hid (HBWB.out.trans (hbel.mono HBWB.out.size))
  clear hrow hbel
  go_upto_block 8 with fail
  go_cut [22] from 22 to 22 (fun mv wx => Below wq.heap.size wq wx ∧ RowV wx wq.heap.size 9 1 mv (missL m1 E1 N1 E2 N2 m2).length (fun q _ => .string ((missL m1 E1 N1 E2 N2 m2).getD q ⟨#[]⟩)))
  case first => exact missLoop hl1 hl2 GC G1 G2 HBWF HIT (Lib.hid fun _ _ _ _ hd h => ⟨hd.symm.trans h.1, h.2⟩) (by assumption) (by assumption)
  case rest =>
  obtain ⟨hbel, hrow⟩ := hcut
  obtain ⟨wu, rfl⟩ : ∃ x : World, x = wc := ⟨_, rfl⟩
  rw [← HMN.out] at hrow
  obtain ⟨ma, mc, hmv, _, _⟩ := RowV.slice hrow
  subst hmv
  have HR := Lib.hid hrow
  have HB := Lib.hid hbel
  have HBW := Lib.hid (HBWF.out.trans (hbel.mono HBWF.out.size))
  clear hrow hbel
  have HB4U := Lib.hid (show Below w4.heap.size w4 wu from (HB47.out.trans ((HBB.out.trans ((HBF.out.trans (HB.out.mono HBF.out.size)).mono HBB.out.size)).mono HB47.out.size)))
  have HB5U := Lib.hid (show Below w5.heap.size w5 wu from (HB57.out.trans ((HBB.out.trans ((HBF.out.trans (HB.out.mono HBF.out.size)).mono HBB.out.size)).mono HB57.out.size)))
  have HBOU := Lib.hid (show Below wo.heap.size wo wu from HBF.out.trans (HB.out.mono HBF.out.size))
  have HC3 := Lib.hid (show CellsF wu ra3 mn 1 (fun q _ => .string ((missL m1 E1 N1 E2 N2 m2).getD q ⟨#[]⟩)) from by
    obtain ⟨a', c', e', h'⟩ := RowV.cells (HR3.out.below HB5U.out (Nat.le_refl _))
    cases e'
    exact h')
  have HC4 := Lib.hid (show CellsF wu ma mn 1 (fun q _ => .string ((missL m1 E1 N1 E2 N2 m2).getD q ⟨#[]⟩)) from by
    obtain ⟨a', c', e', h'⟩ := RowV.cells HR.out
    cases e'
    exact h')
  have HA1 := Lib.hid (show CellsF wu ra1 bn 12 (fun q => (cutX (goneK E2 N2 m2) ((backL E2 N2 m2).getD q default)).V) from by
    obtain ⟨a', c', e', h'⟩ := RowV.cells (HR1.out.below HB4U.out (Nat.le_refl _))
    cases e'
    exact h')
  have HA2 := Lib.hid (show CellsF wu av bn 12 (fun q => ((lawB E2 N2 m2 m2).getD q default).V) from by
    obtain ⟨a', c', e', h'⟩ := RowV.cells (HRB.out.below HBOU.out (Nat.le_refl _))
    cases e'
    exact h')
  have HA3 := Lib.hid (show CellsF wu ra2 m1 12 (fun q => (frontD m2 E2 N2 (shD E1 N1 q)).V) from by
    obtain ⟨a', c', e', h'⟩ := RowV.cells (HR2.out.below HB4U.out (Nat.le_refl _))
    cases e'
    exact h')
  have HA4 := Lib.hid (show CellsF wu fa m1 12 (fun q => (frontD m2 E2 N2 (shD E1 N1 q)).V) from by
    obtain ⟨a', c', e', h'⟩ := RowV.cells (HRF.out.below HB.out (Nat.le_refl _))
    cases e'
    exact h')
  have g1 : ((mn : Int) != (mn : Int)) = false := by simp
  go_wp2_with fail
  go_loopw [284] (fun iv wx => ∃ q : Nat, iv = .int .i64 q ∧ q ≤ mn ∧ Below wu.heap.size wu wx) (fun iv _ => mn - (intOf iv).toNat)
  case atStart => exact ⟨0, rfl, by omega, Below.refl _ _⟩
  case round =>
    obtain ⟨q, rfl, hq, hbl⟩ := hrel
    have HBL := Lib.hid hbl
    have hszl := hbl.size
    clear hbl
    by_cases hqn : q < mn
    · skip
      have hqn2 : (q : Int) < (mn : Int) := by omega
      obtain ⟨b1, o1, h1, hc1⟩ := (HC3.out.below (Nat.le_refl _) HBL.out) (by omega)
      obtain ⟨b2, o2, h2, hc2⟩ := (HC4.out.below (Nat.le_refl _) HBL.out) (by omega)
      have hd := hc1 q hqn 0 (by omega)
      have hx := hc2 q hqn 0 (by omega)
      obtain ⟨S, hS⟩ : ∃ S, S = (missL m1 E1 N1 E2 N2 m2).getD q ⟨#[]⟩ := ⟨_, rfl⟩
      simp only [← hS, Nat.mul_one, Nat.add_zero] at hd hx
      clear hc1 hc2 hS
      subst h1
      subst h2
      have j1 : (0 : Int) ≤ (q : Int) := by omega
      go_wp2_with fail
      go_quiet (fail)
      go_wp2_with fail
      go_roundw
      case rel => exact ⟨q + 1, by go_num, by omega, below_drewN HBL.out _⟩
      case measure => simp [intOf]; omega
    · obtain rfl : mn = q := by omega
      have hnq : ¬ (mn : Int) < (mn : Int) := by omega
      go_wp2_with fail
      refine (equal_true bn (fun q => cutX (goneK E2 N2 m2) ((backL E2 N2 m2).getD q default)) (fun q => (lawB E2 N2 m2 m2).getD q default) ra1 av rc1 cv wr (HA1.out.below (Nat.le_refl _) HBL.out) (HA2.out.below (Nat.le_refl _) HBL.out) (by omega) (fun q hq => by
        unfold lawB
        rw [List.getD_eq_getElem?_getD, List.getD_eq_getElem?_getD, List.getElem?_map, List.getElem?_eq_getElem (show q < (backL E2 N2 m2).length by rw [← HBN.out]; exact hq)]
        rfl)).mono ?_
      rintro e wx ⟨rfl, hbx⟩
      have HBX := Lib.hid (HBL.out.trans (hbx.mono hszl))
      clear hbx
      go_wp2_with fail
      refine (equal_true m1 (fun q => frontD m2 E2 N2 (shD E1 N1 q)) (fun q => frontD m2 E2 N2 (shD E1 N1 q)) ra2 fa rc2 fc wx (HA3.out.below (Nat.le_refl _) HBX.out) (HA4.out.below (Nat.le_refl _) HBX.out) (by omega) (fun q hq => rfl)).mono ?_
      rintro e wy ⟨rfl, hby⟩
      have HBY := Lib.hid (HBW.out.trans ((HBX.out.trans (hby.mono HBX.out.size)).mono HBW.out.size))
      clear hby
      go_wp2_with fail
      go_ret
      exact ⟨rfl, HBY.out⟩
end Go.Proofs.Ytabnohphgegflaa.MS
