
/-
  The reference's error of the ranges of a set.
-/
import Derived.Test.YtghbicajcffjhaaDoorPcSet
namespace Go.Proofs.YtghbicajcffjhaaDoor.PC
open Go.RowKit Go.Law Go.Law.Pn
set_option linter.unusedVariables false
set_option linter.unusedSimpArgs false
set_option maxRecDepth 100000
set_option maxHeartbeats 4000000 in
theorem setError_any (a : Option Addr) (n c : Nat) (f : Nat → Int × Int) (w : World) (hs : SetOk w a n f) : Calls Tryd.prog 60 #[.slice a n c] w fun e w' => e = .returned (.int .i64 (setE n f)) ∧ Below w.heap.size w w' := by
  obtain ⟨V, hV⟩ : ∃ V, V = setE n f := ⟨_, rfl⟩
  rw [← hV]
  have HV := Lib.hid hV
  have HP := Lib.hid hs
  clear hV hs
  by_cases hn0 : n = 0
  · have HE := Lib.hid (show V = 7 by rw [HV.out]; unfold setE; rw [if_pos hn0])
    subst hn0
    go_enter Tryd.func60, Tryd.ntmps60
    go_wp2
    all_goals
      go_ret
      exact ⟨by rw [HE.out]; rfl, Below.refl _ _⟩
  by_cases hn1 : 40 < n
  · have HE := Lib.hid (show V = 3 by rw [HV.out]; unfold setE; rw [if_neg hn0, if_pos hn1])
    have e1 : ((n : Int) == 0) = false := by simpa using hn0
    have e2 : (40 : Int) < (n : Int) := by omega
    go_enter Tryd.func60, Tryd.ntmps60
    go_wp2
    all_goals
      go_ret
      exact ⟨by rw [HE.out]; rfl, Below.refl _ _⟩
  have HF := Lib.hid (show V = fstE n (rgE f) 0 by rw [HV.out]; unfold setE; rw [if_neg hn0, if_neg hn1])
  have e1 : ((n : Int) == 0) = false := by simpa using hn0
  have e2 : ¬ (40 : Int) < (n : Int) := by omega
  clear HV
  go_enter Tryd.func60, Tryd.ntmps60
  go_wp2_with fail
  go_loopw [15] (fun iv wr => ∃ i : Nat, iv = .int .i64 i ∧ i ≤ n ∧ (∀ j, j < i → rgE f j = 0) ∧ Below w.heap.size w wr) (fun iv _ => n - (intOf iv).toNat)
  case atStart => exact ⟨0, rfl, by omega, fun j hj => by omega, Below.refl _ _⟩
  case round =>
    obtain ⟨i, rfl, hi, hno, hbel⟩ := hrel
    have HNO := Lib.hid hno
    have HBEL := Lib.hid hbel
    have hsz := hbel.size
    clear hno hbel
    by_cases hin : i < n
    · have hin2 : (i : Int) < (n : Int) := by omega
      obtain ⟨b, off, hba, hcellG⟩ := (CellsF.below HP.out (Nat.le_refl _) HBEL.out) (by omega)
      have HG := Lib.hid hcellG
      have hcell := hcellG i hin
      obtain ⟨x, hx⟩ : ∃ x, x = f i := ⟨_, rfl⟩
      simp only at hcell hba
      rw [← hx] at hcell
      have HX := Lib.hid hx
      obtain ⟨fr, tt⟩ := x
      have d0 : wr.cell? ⟨b, off + i * 2, none⟩ = some (.int .i64 fr) := hcell 0 (by omega)
      have d1 : wr.cell? ⟨b, off + i * 2 + 1, none⟩ = some (.int .i64 tt) := hcell 1 (by omega)
      have zb := lt_of_cell d0
      simp only at zb
      clear hcell hcellG hx
      subst hba
      have hb2 := HBEL.out.alloc hsz (.cells #[.int .i64 fr, .int .i64 tt] 119)
      have HB2 := Lib.hid hb2
      clear hb2
      by_cases hr : fr < 0 ∨ tt < fr ∨ 1114111 < tt
      · have HE := Lib.hid (show V = 2 by
          have h1 : rgE f i = 2 := rgE_range (by rw [← HX.out]; exact hr)
          rw [HF.out, fstE_some hin HNO.out (by rw [h1]; decide), h1])
        clear HG
        go_wp2_with fail
        all_goals first
          | (exfalso; omega)
          | (go_ret; exact ⟨by rw [HE.out]; rfl, HB2.out⟩)
      have HR := Lib.hid hr
      have r1 : ¬ fr < 0 := by omega
      have r2 : ¬ tt < fr := by omega
      have r3 : ¬ 1114111 < tt := by omega
      clear hr
      obtain ⟨wx, hwx⟩ : ∃ wx, wx = wr.alloc (.cells #[.int .i64 fr, .int .i64 tt] 119) := ⟨_, rfl⟩
      have HWX := Lib.hid hwx
      rw [← hwx] at HB2
      have HX2 := Lib.hid (show Blk wx wr.heap.size #[.int .i64 fr, .int .i64 tt] 119 by rw [hwx]; exact Blk.new _ _ _)
      have HBX := Lib.hid (show Below wr.heap.size wr wx by rw [hwx]; exact (Below.refl _ _).alloc (Nat.le_refl _) _)
      clear hwx
      by_cases h0 : i = 0
      · subst h0
        have HN := Lib.hid (show rgE f 0 = 0 from rgE_fine (by rw [← HX.out]; exact HR.out) (by
          have h1 : lastV f 0 = -2 := rfl
          rw [h1, ← HX.out]
          simp only
          omega))
        clear HG
        simp only [Nat.zero_mul, Nat.add_zero] at d0 d1
        go_upto_region 10 with fail
        rw [← HWX.out]
        have x0 := HX2.out.cell (i := 0) rfl
        go_quiet (fail)
        go_wp2_with fail
        go_roundw
        case rel => exact ⟨1, by rfl, by omega, fun j hj => by
          rw [show j = 0 by omega]; exact HN.out, below_drewN HB2.out _⟩
        case measure => simp [intOf]; omega
      obtain ⟨m, rfl⟩ : ∃ m, i = m + 1 := ⟨i - 1, by omega⟩
      have hc2 := HG.out m (by omega)
      obtain ⟨x', hx'⟩ : ∃ x, x = f m := ⟨_, rfl⟩
      simp only at hc2
      rw [← hx'] at hc2
      have HX' := Lib.hid hx'
      obtain ⟨fr', tt'⟩ := x'
      have y1 : wr.cell? ⟨b, off + m * 2 + 1, none⟩ = some (.int .i64 tt') := hc2 1 (by omega)
      have HNM := Lib.hid (HNO.out m (by omega))
      have htt : tt' ≤ 1114111 ∧ 0 ≤ tt' := by
        have h1 := HNM.out
        unfold rgE at h1
        rw [← HX'.out] at h1
        split at h1
        · omega
        · simp only at *; omega
      clear hc2 hx' HG
      have y2 : wx.cell? ⟨b, off + m * 2 + 1, none⟩ = some (.int .i64 tt') := by rw [HBX.out.cell (by simpa using zb)]; exact y1
      have w1 : IntKind.i64.wrap (tt' + 1) = tt' + 1 := IntWalk.i64_in _ ⟨by omega, by omega⟩
      have w2 : IntKind.i64.wrap (((m + 1 : Nat) : Int) - 1) = (m : Int) := by rw [show ((m + 1 : Nat) : Int) - 1 = (m : Int) by omega]; exact IntWalk.i64_in _ ⟨by omega, by omega⟩
      have w3 : (0 : Int) < ((m + 1 : Nat) : Int) := by omega
      have w4 : (0 : Int) ≤ (m : Int) := by omega
      have w5 : (m : Int) < (n : Int) := by omega
      by_cases ho : fr ≤ tt' + 1
      · have HE := Lib.hid (show V = 5 by
          have h1 : rgE f (m + 1) = 5 := rgE_order (by rw [← HX.out]; exact HR.out) (by
            have h2 : lastV f (m + 1) = tt' := by unfold lastV; rw [if_neg (by omega), Nat.add_sub_cancel, ← HX'.out]
            rw [h2, ← HX.out]; exact ho)
          rw [HF.out, fstE_some hin HNO.out (by rw [h1]; decide), h1])
        go_upto_region 10 with fail
        rw [← HWX.out]
        have x0 := HX2.out.cell (i := 0) rfl
        go_quiet (fail)
        go_wp2_with fail
        go_ret
        exact ⟨by rw [HE.out]; rfl, below_drewN HB2.out _⟩
      · have HN := Lib.hid (show rgE f (m + 1) = 0 from rgE_fine (by rw [← HX.out]; exact HR.out) (by
          have h2 : lastV f (m + 1) = tt' := by unfold lastV; rw [if_neg (by omega), Nat.add_sub_cancel, ← HX'.out]
          rw [h2, ← HX.out]; exact ho))
        go_upto_region 10 with fail
        rw [← HWX.out]
        have x0 := HX2.out.cell (i := 0) rfl
        go_quiet (fail)
        go_wp2_with fail
        go_roundw
        case rel => exact ⟨m + 2, by go_num, by omega, fun j hj => by
          rcases Nat.lt_or_ge j (m + 1) with h | h
          · exact HNO.out j h
          · rw [show j = m + 1 by omega]; exact HN.out, below_drewN HB2.out _⟩
        case measure => simp [intOf]; omega
    · have hin2 : ¬ (i : Int) < (n : Int) := by omega
      have HE := Lib.hid (show V = 0 by rw [HF.out]; exact fstE_none (fun j hj => HNO.out j (by omega)))
      go_wp2_with fail
      go_ret
      exact ⟨by rw [HE.out]; rfl, HBEL.out⟩
end Go.Proofs.YtghbicajcffjhaaDoor.PC
