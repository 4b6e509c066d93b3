


/-
  What lies in places.
-/
import Derived.Test.YtabnohphgegflaaMsRoom
namespace Go.Proofs.Ytabnohphgegflaa.MS
open Go.RowKit Go.Law Go.Law.Sh Go.Law.Ms ShT
set_option linter.unusedVariables false
set_option linter.unusedSimpArgs false
set_option maxRecDepth 100000
set_option maxHeartbeats 4000000 in
theorem inPlace_any (n : Nat) (E : Nat → Nat → Int) (N : Nat → Nat → ByteArray) (a : Option Addr) (c i : Nat) (w : World) (ha : ShF w a n E N) (hok : shE n E = 0) (hi : i < n) :
    Calls Try.prog 9 #[.slice a n c, .agg (shD E N i).cells.toArray] w fun e w' => e = .returned (.bool (inP E N i)) ∧ Below w.heap.size w w' := by
  obtain ⟨V, hV⟩ : ∃ V, V = inP E N i := ⟨_, rfl⟩
  rw [← hV]
  have HV := Lib.hid hV
  have HA := Lib.hid ha
  have HOK := Lib.hid hok
  have hn := (shE_zero hok).1
  have HB0 := Lib.hid (Blk.new w (shD E N i).cells.toArray 24)
  have HI := Lib.hid hi
  clear ha hV hok
  unfold ShD.cells shD
  go_enter Try.func9, Try.ntmps9
  go_wp2_with fail
  go_loopw [] (fun wr => ∃ j : Nat, j < n ∧ inP E N j = V ∧ Blk wr w.heap.size (shD E N j).cells.toArray 24 ∧ Below w.heap.size w wr) (fun wr => (findV n E (intOf ((wr.cell? ⟨w.heap.size, 0, none⟩).getD undef))).toNat)
  case atStart => exact ⟨i, HI.out, HV.out.symm, HB0.out, (Below.refl _ _).alloc (Nat.le_refl _) _⟩
  case round =>
    clear HV HB0 hi
    obtain ⟨j, hj, hv, hblk, hbel⟩ := hrel
    have HJV := Lib.hid hv
    have HB := Lib.hid hbel
    have HM := Lib.hid (show (findV n E (intOf ((wr.cell? ⟨w.heap.size, 0, none⟩).getD undef))).toNat = j by
      rw [show wr.cell? ⟨w.heap.size, 0, none⟩ = some (.int .i64 (E j 0)) from hblk.cell (i := 0) rfl]
      show (findV n E (E j 0)).toNat = j
      rw [find_of HOK.out hj rfl]; rfl)
    obtain ⟨D, hD⟩ : ∃ D, D = shD E N j := ⟨_, rfl⟩
    rw [← hD] at hblk
    obtain ⟨e0, e1, e2, e3, e4, e5, e6, e7, e8, e9, n0, n1⟩ := D
    have HD := Lib.hid hD
    have HK := Lib.hid (show Blk wr w.heap.size #[.int .i64 e0, .int .i64 e1, .int .i64 e2, .int .i64 e3, .int .i64 e4, .int .i64 e5, .int .i64 e6, .int .i64 e7, .int .i64 e8, .int .i64 e9, .string n0, .string n1] 24 from hblk)
    have HE := Lib.hid (show E j 1 = e1 ∧ N j 0 = n0 by
      have h := hD
      unfold shD at h
      injection h with h0 h1 h2 h3 h4 h5 h6 h7 h8 h9 h10 h11
      exact ⟨h1.symm, h10.symm⟩)
    have zb0 := hblk.lt
    clear hv hblk hbel hD
    have y0 : wr.cell? ⟨w.heap.size, 0, none⟩ = some (.int .i64 e0) := (HK).out.cell (i := 0) rfl
    have y1 : wr.cell? ⟨w.heap.size, 1, none⟩ = some (.int .i64 e1) := (HK).out.cell (i := 1) rfl
    have y2 : wr.cell? ⟨w.heap.size, 2, none⟩ = some (.int .i64 e2) := (HK).out.cell (i := 2) rfl
    have y3 : wr.cell? ⟨w.heap.size, 3, none⟩ = some (.int .i64 e3) := (HK).out.cell (i := 3) rfl
    have y4 : wr.cell? ⟨w.heap.size, 4, none⟩ = some (.int .i64 e4) := (HK).out.cell (i := 4) rfl
    have y5 : wr.cell? ⟨w.heap.size, 5, none⟩ = some (.int .i64 e5) := (HK).out.cell (i := 5) rfl
    have y6 : wr.cell? ⟨w.heap.size, 6, none⟩ = some (.int .i64 e6) := (HK).out.cell (i := 6) rfl
    have y7 : wr.cell? ⟨w.heap.size, 7, none⟩ = some (.int .i64 e7) := (HK).out.cell (i := 7) rfl
    have y8 : wr.cell? ⟨w.heap.size, 8, none⟩ = some (.int .i64 e8) := (HK).out.cell (i := 8) rfl
    have y9 : wr.cell? ⟨w.heap.size, 9, none⟩ = some (.int .i64 e9) := (HK).out.cell (i := 9) rfl
    have y10 : wr.cell? ⟨w.heap.size, 10, none⟩ = some (.string n0) := (HK).out.cell (i := 10) rfl
    have y11 : wr.cell? ⟨w.heap.size, 11, none⟩ = some (.string n1) := (HK).out.cell (i := 11) rfl
    by_cases h0 : e1 = 0
    · have HR := Lib.hid (show V = (decide (e1 = 0) && roomB n0) by rw [← HJV.out, inP_top (by rw [HE.out.1]; exact h0), HE.out.2, decide_eq_true h0]; rfl)
      have f1 : (e1 != 0) = false := by simpa using h0
      clear h0
      go_wp2_with fail
      refine (isPlace_any ⟨e0, e1, e2, e3, e4, e5, e6, e7, e8, e9, n0, n1⟩ wr).mono ?_
      rintro e w2 ⟨rfl, hb2⟩
      simp only []
      rw [← HR.out]
      have HB2 := Lib.hid (HB.out.trans (hb2.mono HB.out.size))
      clear hb2 y0 y1 y2 y3 y4 y5 y6 y7 y8 y9 y10 y11
      go_wp2_with fail
      go_ret
      exact ⟨rfl, HB2.out⟩
    · have f1 : (e1 != 0) = true := by simpa using h0
      obtain ⟨k, hk, he⟩ := ok_par HOK.out hj (by rw [HE.out.1]; exact h0)
      have hkn : k < n := by omega
      have HKV := Lib.hid (show inP E N k = V by rw [← inP_up HOK.out hj hk he]; exact HJV.out)
      have HFK := Lib.hid (show findV n E e1 = k from find_of HOK.out hkn (by rw [he, HE.out.1]))
      clear h0 he
      go_wp2_with fail
      refine (shapeAt_any n E N e1 a c wr (HA.out.below (Nat.le_refl _) HB.out) (by omega)).mono ?_
      rintro e w1 ⟨rfl, hb1⟩
      rw [HFK.out]
      have hbel1 := HB.out.trans (hb1.mono HB.out.size)
      have hblk1 := HK.out.below hb1 zb0
      have zb1 := hblk1.lt
      have HB1 := Lib.hid hblk1
      have HBL1 := Lib.hid hbel1
      clear y0 y1 y2 y3 y4 y5 y6 y7 y8 y9 y10 y11 hb1
      have HBLT := Lib.hid (fun b off (he : a = some ⟨b, off, none⟩) => (by
        obtain ⟨b', off', he', h⟩ := HA.out (by omega)
        rw [he] at he'
        cases he'
        exact lt_of_cell (h k hkn).2.1 : b < w.heap.size))
      obtain ⟨b, off, rfl, hcellG⟩ := HA.out.below (Nat.le_refl _) hbel1 (by omega)
      have hbw := HBLT.out b off rfl
      have hcell := hcellG k hkn
      clear hcellG hblk1 hbel1 HBLT
      have m0 : w1.cell? ⟨w.heap.size, 0, none⟩ = some (.int .i64 e0) := HB1.out.cell (i := 0) rfl
      have m1 : w1.cell? ⟨w.heap.size, 1, none⟩ = some (.int .i64 e1) := HB1.out.cell (i := 1) rfl
      have m2 : w1.cell? ⟨w.heap.size, 2, none⟩ = some (.int .i64 e2) := HB1.out.cell (i := 2) rfl
      have m3 : w1.cell? ⟨w.heap.size, 3, none⟩ = some (.int .i64 e3) := HB1.out.cell (i := 3) rfl
      have m4 : w1.cell? ⟨w.heap.size, 4, none⟩ = some (.int .i64 e4) := HB1.out.cell (i := 4) rfl
      have m5 : w1.cell? ⟨w.heap.size, 5, none⟩ = some (.int .i64 e5) := HB1.out.cell (i := 5) rfl
      have m6 : w1.cell? ⟨w.heap.size, 6, none⟩ = some (.int .i64 e6) := HB1.out.cell (i := 6) rfl
      have m7 : w1.cell? ⟨w.heap.size, 7, none⟩ = some (.int .i64 e7) := HB1.out.cell (i := 7) rfl
      have m8 : w1.cell? ⟨w.heap.size, 8, none⟩ = some (.int .i64 e8) := HB1.out.cell (i := 8) rfl
      have m9 : w1.cell? ⟨w.heap.size, 9, none⟩ = some (.int .i64 e9) := HB1.out.cell (i := 9) rfl
      have m10 : w1.cell? ⟨w.heap.size, 10, none⟩ = some (.string n0) := HB1.out.cell (i := 10) rfl
      have m11 : w1.cell? ⟨w.heap.size, 11, none⟩ = some (.string n1) := HB1.out.cell (i := 11) rfl
      have fz := HB1.out.frozen
      have hne : b ≠ w.heap.size := by omega
      obtain ⟨hci, hc10, hc11⟩ := hcell
      have d0 := hci 0 (by omega)
      rw [Nat.add_zero] at d0
      have d1 := hci 1 (by omega)
      have d2 := hci 2 (by omega)
      have d3 := hci 3 (by omega)
      have d4 := hci 4 (by omega)
      have d5 := hci 5 (by omega)
      have d6 := hci 6 (by omega)
      have d7 := hci 7 (by omega)
      have d8 := hci 8 (by omega)
      have d9 := hci 9 (by omega)
      have zb := lt_of_cell d0
      simp only at zb
      clear hci
      obtain ⟨e0, he0⟩ : ∃ e, e = E k 0 := ⟨_, rfl⟩
      obtain ⟨e1, he1⟩ : ∃ e, e = E k 1 := ⟨_, rfl⟩
      obtain ⟨e2, he2⟩ : ∃ e, e = E k 2 := ⟨_, rfl⟩
      obtain ⟨e3, he3⟩ : ∃ e, e = E k 3 := ⟨_, rfl⟩
      obtain ⟨e4, he4⟩ : ∃ e, e = E k 4 := ⟨_, rfl⟩
      obtain ⟨e5, he5⟩ : ∃ e, e = E k 5 := ⟨_, rfl⟩
      obtain ⟨e6, he6⟩ : ∃ e, e = E k 6 := ⟨_, rfl⟩
      obtain ⟨e7, he7⟩ : ∃ e, e = E k 7 := ⟨_, rfl⟩
      obtain ⟨e8, he8⟩ : ∃ e, e = E k 8 := ⟨_, rfl⟩
      obtain ⟨e9, he9⟩ : ∃ e, e = E k 9 := ⟨_, rfl⟩
      obtain ⟨n0, hn0⟩ : ∃ e, e = N k 0 := ⟨_, rfl⟩
      obtain ⟨n1, hn1⟩ : ∃ e, e = N k 1 := ⟨_, rfl⟩
      rw [← he0] at d0
      rw [← he1] at d1
      rw [← he2] at d2
      rw [← he3] at d3
      rw [← he4] at d4
      rw [← he5] at d5
      rw [← he6] at d6
      rw [← he7] at d7
      rw [← he8] at d8
      rw [← he9] at d9
      rw [← hn0] at hc10
      rw [← hn1] at hc11
      have HE0 := Lib.hid he0
      have HE1 := Lib.hid he1
      have HE2 := Lib.hid he2
      have HE3 := Lib.hid he3
      have HE4 := Lib.hid he4
      have HE5 := Lib.hid he5
      have HE6 := Lib.hid he6
      have HE7 := Lib.hid he7
      have HE8 := Lib.hid he8
      have HE9 := Lib.hid he9
      have HN0 := Lib.hid hn0
      have HN1 := Lib.hid hn1
      clear he0 he1 he2 he3 he4 he5 he6 he7 he8 he9 hn0 hn1
      go_wp2_with fail
      have hnew := (((((((((((HB1.out.set 0 (.int .i64 e0)).set 1 (.int .i64 e1)).set 2 (.int .i64 e2)).set 3 (.int .i64 e3)).set 4 (.int .i64 e4)).set 5 (.int .i64 e5)).set 6 (.int .i64 e6)).set 7 (.int .i64 e7)).set 8 (.int .i64 e8)).set 9 (.int .i64 e9)).set 10 (.string n0)).set 11 (.string n1)
      simp only [List.setIfInBounds_toArray, List.set_cons_zero, List.set_cons_succ] at hnew
      have ho := ((((((((((((Aside.refl _ _ _ : Only w.heap.size w1 w1).setR 0 (.int .i64 e0)).setR 1 (.int .i64 e1)).setR 2 (.int .i64 e2)).setR 3 (.int .i64 e3)).setR 4 (.int .i64 e4)).setR 5 (.int .i64 e5)).setR 6 (.int .i64 e6)).setR 7 (.int .i64 e7)).setR 8 (.int .i64 e8)).setR 9 (.int .i64 e9)).setR 10 (.string n0)).setR 11 (.string n1)
      have hbn := HBL1.out.trans (Only.to_below ho HBL1.out.size (Nat.le_refl _))
      have hcell0 := hnew.cell (i := 0) (v := .int .i64 e0) rfl
      go_roundw
      case rel =>
        refine ⟨k, hkn, HKV.out, ?_, hbn⟩
        unfold ShD.cells shD
        simp only
        rw [← HE0.out, ← HE1.out, ← HE2.out, ← HE3.out, ← HE4.out, ← HE5.out, ← HE6.out, ← HE7.out, ← HE8.out, ← HE9.out, ← HN0.out, ← HN1.out]
        exact hnew
      case measure =>
        rw [HM.out, hcell0]
        show (findV n E e0).toNat < j
        rw [HE0.out, find_of HOK.out hkn rfl]
        simp
        exact hk
end Go.Proofs.Ytabnohphgegflaa.MS
