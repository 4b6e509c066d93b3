


/-
  Places of masters.
-/
import Derived.Test.YtabnohphgegflaaMsPlain
import Derived.Test.YtabnohphgegflaaMsLib
import Derived.Test.YtabnohphgegflaaShFind
import Derived.Test.YtabnohphgegflaaSteps
import Derived.BigQuiet
import Derived.Deep.CutRange
namespace Go.Proofs.Ytabnohphgegflaa.MS
open Go.RowKit Go.Law Go.Law.Sh Go.Law.Ms
set_option linter.unusedVariables false
set_option linter.unusedSimpArgs false
set_option maxRecDepth 100000
set_option maxHeartbeats 2000000 in
theorem room_any (s : ShD) (w : World) : Calls Try.prog 19 #[.agg s.cells.toArray] w fun e w' => e = .returned (.bool (roomB s.nm)) ∧ Below w.heap.size w w' := by
  obtain ⟨e0, e1, e2, e3, e4, e5, e6, e7, e8, e9, n0, n1⟩ := s
  unfold ShD.cells
  go_enter Try.func19, Try.ntmps19
  go_wp2_with fail
  refine (Try.strings_HasPrefix n0 plB _).mono ?_
  rintro e w2 ⟨rfl, rfl⟩
  go_wp2_with fail
  go_ret
  exact ⟨rfl, (Below.refl _ _).alloc (Nat.le_refl _) _⟩
set_option maxHeartbeats 2000000 in
theorem isPlace_any (s : ShD) (w : World) : Calls Try.prog 11 #[.agg s.cells.toArray] w fun e w' => e = .returned (.bool (decide (s.pa = 0) && roomB s.nm)) ∧ Below w.heap.size w w' := by
  obtain ⟨B, hB⟩ : ∃ B, B = (decide (s.pa = 0) && roomB s.nm) := ⟨_, rfl⟩
  rw [← hB]
  obtain ⟨e0, e1, e2, e3, e4, e5, e6, e7, e8, e9, n0, n1⟩ := s
  have HB := Lib.hid (show B = (decide (e1 = 0) && roomB n0) from hB)
  clear hB
  unfold ShD.cells
  go_enter Try.func11, Try.ntmps11
  by_cases h1 : e1 = 0
  case neg =>
    have HE := Lib.hid (show B = false by rw [HB.out, decide_eq_false h1]; rfl)
    have f1 : (e1 == 0) = false := by simpa using h1
    clear h1
    go_wp2_with fail
    go_ret
    exact ⟨by rw [HE.out]; rfl, (Below.refl _ _).alloc (Nat.le_refl _) _⟩
  have HB1 := Lib.hid (show B = roomB n0 by rw [HB.out, decide_eq_true h1]; rfl)
  have f1 : (e1 == 0) = true := by simpa using h1
  clear h1
  by_cases h2 : n0.size < 6
  · have HE := Lib.hid (show B = false by rw [HB1.out]; exact room_short h2)
    have f2 : ¬ 6 ≤ n0.size := by omega
    go_wp2_with fail
    go_ret
    exact ⟨by rw [HE.out]; rfl, (Below.refl _ _).alloc (Nat.le_refl _) _⟩
  · have f2 : 6 ≤ n0.size := by omega
    have f3 : (6 : Int) ≤ (n0.size : Int) := by omega
    have HE := Lib.hid (show B = ((n0.extract 0 6).toList == [112, 108, 97, 99, 101, 46]) by rw [HB1.out]; exact room_ext f2)
    go_wp2_with fail
    go_ret
    exact ⟨by rw [HE.out]; rfl, (Below.refl _ _).alloc (Nat.le_refl _) _⟩
theorem str_eq {a b : ByteArray} : (a.toList == b.toList) = decide (a = b) := by
  by_cases h : a = b
  · subst h; simp
  · rw [decide_eq_false h]
    cases hb : a.toList == b.toList
    · rfl
    · exact absurd (bytes_ext (by simpa using hb)) h
set_option maxHeartbeats 4000000 in
theorem place_any (n : Nat) (E : Nat → Nat → Int) (N : Nat → Nat → ByteArray) (nm : ByteArray) (a : Option Addr) (c : Nat) (w : World) (ha : ShF w a n E N) (hn : n ≤ 1000000000000000000) :
    Calls Try.prog 20 #[.slice a n c, .string nm] w fun e w' => e = .returned (.int .i64 (placeE n E N nm)) ∧ Below w.heap.size w w' := by
  obtain ⟨V, hV⟩ : ∃ V, V = placeE n E N nm := ⟨_, rfl⟩
  rw [← hV]
  have HV := Lib.hid hV
  have HA := Lib.hid ha
  clear hV ha
  go_enter Try.func20, Try.ntmps20
  go_wp2_with fail
  go_loopw [9] (fun iv wr => ∃ i : Nat, iv = .int .i64 i ∧ i ≤ n ∧ (∀ j, j < i → ¬ isPl E N nm j) ∧ Below w.heap.size w wr) (fun iv _ => n - (intOf iv).toNat)
  case atStart => exact ⟨0, rfl, by omega, fun j hj => by omega, Below.refl _ _⟩
  case round =>
    obtain ⟨i, rfl, hi, hno, hbel⟩ := hrel
    have HNO := Lib.hid hno
    have HB := Lib.hid hbel
    have hsz := hbel.size
    clear hno hbel
    by_cases hin : i < n
    · have hin2 : (i : Int) < (n : Int) := by omega
      obtain ⟨b, off, hba, hcellG⟩ := (HA.out.below (Nat.le_refl _) HB.out) (by omega)
      have hcell := hcellG i hin
      clear hcellG
      obtain ⟨hci, hc10, hc11⟩ := hcell
      have d0 := hci 0 (by omega)
      rw [Nat.add_zero] at d0
      have d1 := hci 1 (by omega)
      have d2 := hci 2 (by omega)
      have d3 := hci 3 (by omega)
      have d4 := hci 4 (by omega)
      have d5 := hci 5 (by omega)
      have d6 := hci 6 (by omega)
      have d7 := hci 7 (by omega)
      have d8 := hci 8 (by omega)
      have d9 := hci 9 (by omega)
      have zb := lt_of_cell d0
      simp only at zb
      clear hci
      obtain ⟨e0, he0⟩ : ∃ e, e = E i 0 := ⟨_, rfl⟩
      obtain ⟨e1, he1⟩ : ∃ e, e = E i 1 := ⟨_, rfl⟩
      obtain ⟨e2, he2⟩ : ∃ e, e = E i 2 := ⟨_, rfl⟩
      obtain ⟨e3, he3⟩ : ∃ e, e = E i 3 := ⟨_, rfl⟩
      obtain ⟨e4, he4⟩ : ∃ e, e = E i 4 := ⟨_, rfl⟩
      obtain ⟨e5, he5⟩ : ∃ e, e = E i 5 := ⟨_, rfl⟩
      obtain ⟨e6, he6⟩ : ∃ e, e = E i 6 := ⟨_, rfl⟩
      obtain ⟨e7, he7⟩ : ∃ e, e = E i 7 := ⟨_, rfl⟩
      obtain ⟨e8, he8⟩ : ∃ e, e = E i 8 := ⟨_, rfl⟩
      obtain ⟨e9, he9⟩ : ∃ e, e = E i 9 := ⟨_, rfl⟩
      obtain ⟨n0, hn0⟩ : ∃ e, e = N i 0 := ⟨_, rfl⟩
      obtain ⟨n1, hn1⟩ : ∃ e, e = N i 1 := ⟨_, rfl⟩
      rw [← he0] at d0
      rw [← he1] at d1
      rw [← he2] at d2
      rw [← he3] at d3
      rw [← he4] at d4
      rw [← he5] at d5
      rw [← he6] at d6
      rw [← he7] at d7
      rw [← he8] at d8
      rw [← he9] at d9
      rw [← hn0] at hc10
      rw [← hn1] at hc11
      have HE0 := Lib.hid he0
      have HE1 := Lib.hid he1
      have HE2 := Lib.hid he2
      have HE3 := Lib.hid he3
      have HE4 := Lib.hid he4
      have HE5 := Lib.hid he5
      have HE6 := Lib.hid he6
      have HE7 := Lib.hid he7
      have HE8 := Lib.hid he8
      have HE9 := Lib.hid he9
      have HN0 := Lib.hid hn0
      have HN1 := Lib.hid hn1
      clear he0 he1 he2 he3 he4 he5 he6 he7 he8 he9 hn0 hn1
      subst hba
      have HIS := Lib.hid (show isPl E N nm i ↔ (e1 = 0 ∧ roomB n0 = true ∧ n0 = nm) by rw [HE1.out, HN0.out]; exact Iff.rfl)
      go_upto_region 4 with fail
      obtain ⟨wc, hwc⟩ : ∃ wc, wc = wr.alloc (Obj.cells #[.int .i64 e0, .int .i64 e1, .int .i64 e2, .int .i64 e3, .int .i64 e4, .int .i64 e5, .int .i64 e6, .int .i64 e7, .int .i64 e8, .int .i64 e9, .string n0, .string n1] 24) := ⟨_, rfl⟩
      have HK := Lib.hid (show Blk wc wr.heap.size #[.int .i64 e0, .int .i64 e1, .int .i64 e2, .int .i64 e3, .int .i64 e4, .int .i64 e5, .int .i64 e6, .int .i64 e7, .int .i64 e8, .int .i64 e9, .string n0, .string n1] 24 by rw [hwc]; exact Blk.new _ _ _)
      have HBC := Lib.hid (show Below w.heap.size w wc by rw [hwc]; exact HB.out.alloc hsz _)
      rw [← hwc]
      clear d0 d1 d2 d3 d4 d5 d6 d7 d8 d9 hc10 hc11 zb hwc
      have y1 : wc.cell? ⟨wr.heap.size, 1, none⟩ = some (.int .i64 e1) := HK.out.cell (i := 1) rfl
      by_cases h1 : e1 = 0
      case neg =>
        have f1 : (e1 == 0) = false := by simpa using h1
        have HN := Lib.hid (show ¬ isPl E N nm i from fun h => h1 (HIS.out.1 h).1)
        clear h1
        go_wp2_with fail
        go_roundw
        case rel => exact ⟨i + 1, by go_num, by omega, fun j hj => by
          rcases Nat.lt_or_ge j i with h | h
          · exact HNO.out j h
          · rw [show j = i by omega]; exact HN.out, HBC.out⟩
        case measure => simp [intOf]; omega
      have f1 : (e1 == 0) = true := by simpa using h1
      have H1 := Lib.hid h1
      clear h1
      have y0 : wc.cell? ⟨wr.heap.size, 0, none⟩ = some (.int .i64 e0) := (HK).out.cell (i := 0) rfl
      have y1 : wc.cell? ⟨wr.heap.size, 1, none⟩ = some (.int .i64 e1) := (HK).out.cell (i := 1) rfl
      have y2 : wc.cell? ⟨wr.heap.size, 2, none⟩ = some (.int .i64 e2) := (HK).out.cell (i := 2) rfl
      have y3 : wc.cell? ⟨wr.heap.size, 3, none⟩ = some (.int .i64 e3) := (HK).out.cell (i := 3) rfl
      have y4 : wc.cell? ⟨wr.heap.size, 4, none⟩ = some (.int .i64 e4) := (HK).out.cell (i := 4) rfl
      have y5 : wc.cell? ⟨wr.heap.size, 5, none⟩ = some (.int .i64 e5) := (HK).out.cell (i := 5) rfl
      have y6 : wc.cell? ⟨wr.heap.size, 6, none⟩ = some (.int .i64 e6) := (HK).out.cell (i := 6) rfl
      have y7 : wc.cell? ⟨wr.heap.size, 7, none⟩ = some (.int .i64 e7) := (HK).out.cell (i := 7) rfl
      have y8 : wc.cell? ⟨wr.heap.size, 8, none⟩ = some (.int .i64 e8) := (HK).out.cell (i := 8) rfl
      have y9 : wc.cell? ⟨wr.heap.size, 9, none⟩ = some (.int .i64 e9) := (HK).out.cell (i := 9) rfl
      have y10 : wc.cell? ⟨wr.heap.size, 10, none⟩ = some (.string n0) := (HK).out.cell (i := 10) rfl
      have y11 : wc.cell? ⟨wr.heap.size, 11, none⟩ = some (.string n1) := (HK).out.cell (i := 11) rfl
      go_wp2_with fail
      refine (room_any ⟨e0, e1, e2, e3, e4, e5, e6, e7, e8, e9, n0, n1⟩ wc).mono ?_
      rintro e w2 ⟨rfl, hb2⟩
      simp only []
      have HB2 := Lib.hid (HBC.out.trans (hb2.mono HBC.out.size))
      have HK2 := Lib.hid (HK.out.below hb2 HK.out.lt)
      clear hb2 y0 y1 y2 y3 y4 y5 y6 y7 y8 y9 y10 y11
      have y10 : w2.cell? ⟨wr.heap.size, 10, none⟩ = some (.string n0) := HK2.out.cell (i := 10) rfl
      obtain ⟨RB, hRB⟩ : ∃ RB, RB = roomB n0 := ⟨_, rfl⟩
      rw [← hRB]
      have HRB := Lib.hid hRB
      clear hRB
      cases RB
      · have HN := Lib.hid (show ¬ isPl E N nm i from fun h => by have := (HIS.out.1 h).2.1; rw [← HRB.out] at this; cases this)
        go_wp2_with fail
        go_roundw
        case rel => exact ⟨i + 1, by go_num, by omega, fun j hj => by
          rcases Nat.lt_or_ge j i with h | h
          · exact HNO.out j h
          · rw [show j = i by omega]; exact HN.out, HB2.out⟩
        case measure => simp [intOf]; omega
      by_cases h3 : n0 = nm
      · have f3 : (n0.toList == nm.toList) = true := by rw [str_eq]; exact decide_eq_true h3
        have HE := Lib.hid (show V = i by rw [HV.out]; exact place_some hin HNO.out (HIS.out.2 ⟨H1.out, HRB.out.symm, h3⟩))
        clear h3
        go_wp2_with fail
        go_ret
        exact ⟨by rw [HE.out]; rfl, HB2.out⟩
      · have f3 : (n0.toList == nm.toList) = false := by rw [str_eq]; exact decide_eq_false h3
        have HN := Lib.hid (show ¬ isPl E N nm i from fun h => h3 (HIS.out.1 h).2.2)
        clear h3
        go_wp2_with fail
        go_roundw
        case rel => exact ⟨i + 1, by go_num, by omega, fun j hj => by
          rcases Nat.lt_or_ge j i with h | h
          · exact HNO.out j h
          · rw [show j = i by omega]; exact HN.out, HB2.out⟩
        case measure => simp [intOf]; omega
    · obtain rfl : i = n := by omega
      have hnn : ¬ (i : Int) < (i : Int) := by omega
      have HE := Lib.hid (show V = -1 by rw [HV.out]; exact place_none HNO.out)
      go_wp2_with fail
      go_ret
      exact ⟨by rw [HE.out]; rfl, HB.out⟩
end Go.Proofs.Ytabnohphgegflaa.MS
