
/-
  ScaleFindsLeastStep returns true for every input: the walk.
-/
import Derived.Test.YtpbnkkeplhgepaaScaleFind
import Derived.Test.YtpbnkkeplhgepaaIn
namespace Go.Proofs.Ytpbnkkeplhgepaa.SF
open Go.RowKit Go.Law Go.Law.Scale Ref
set_option linter.unusedVariables false
set_option linter.unusedSimpArgs false
set_option maxRecDepth 100000
set_option maxHeartbeats 1000000 in
theorem law_range (low high steps : Int) (w : World) (h : ¬ ((-1000000000000 ≤ low ∧ low ≤ 1000000000000) ∧ (-1000000000000 ≤ high ∧ high ≤ 1000000000000) ∧ (2 ≤ steps ∧ steps ≤ 50))) :
    Calls Try.prog 4 #[.int .i64 low, .int .i64 high, .int .i64 steps] w fun e w' => e = .returned (.bool true) ∧ Below w.heap.size w w' := by
  have H := Lib.hid h
  clear h
  cases i1 : inB low (-1000000000000) 1000000000000
  · go_enter Try.func4, Try.ntmps4
    go_wp2_with fail
    refine (find_ok 3 47 5 3 _ (by omega) (by omega) (by omega) (by omega) (by omega) (by unfold FitsIn; decide) (by unfold FitsIn; decide)).mono ?_
    rintro e w1 ⟨rfl, hb1⟩
    rw [show scaleVal 3 47 (S 3) = .tuple #[.agg #[.int .i64 0, .int .i64 50, .int .i64 10], .int .i64 0] from rfl]
    go_wp2_with fail
    refine (find_range _ _ _ _ H.out).mono ?_
    rintro e w2 ⟨rfl, hb2⟩
    unfold zeroVal
    go_wp2_with (go_at_call 14; refine (in_any _ _ _ _).mono ?_; rintro e w3 ⟨rfl, rfl⟩)
    go_ret
    refine ⟨rfl, ?_⟩
    have hs1 := hb1.size
    have hs2 := hb2.size
    simp at hs1 hs2
    repeat' (with_reducible first | exact Below.refl _ _ | refine Below.setCell ?_ ?_ _ | refine Below.alloc ?_ ?_ _ | refine below_drewN ?_ _ | refine Below.drew ?_ | refine Below.trans ?_ (Below.mono hb2 ?_) | refine Below.trans ?_ (Below.mono hb1 ?_))
    all_goals first | omega | (simp; done) | (simp; omega)
  cases i2 : inB high (-1000000000000) 1000000000000
  · go_enter Try.func4, Try.ntmps4
    go_wp2_with fail
    refine (find_ok 3 47 5 3 _ (by omega) (by omega) (by omega) (by omega) (by omega) (by unfold FitsIn; decide) (by unfold FitsIn; decide)).mono ?_
    rintro e w1 ⟨rfl, hb1⟩
    rw [show scaleVal 3 47 (S 3) = .tuple #[.agg #[.int .i64 0, .int .i64 50, .int .i64 10], .int .i64 0] from rfl]
    go_wp2_with fail
    refine (find_range _ _ _ _ H.out).mono ?_
    rintro e w2 ⟨rfl, hb2⟩
    unfold zeroVal
    go_wp2_with (go_at_call 14; refine (in_any _ _ _ _).mono ?_; rintro e w3 ⟨rfl, rfl⟩)
    go_ret
    refine ⟨rfl, ?_⟩
    have hs1 := hb1.size
    have hs2 := hb2.size
    simp at hs1 hs2
    repeat' (with_reducible first | exact Below.refl _ _ | refine Below.setCell ?_ ?_ _ | refine Below.alloc ?_ ?_ _ | refine below_drewN ?_ _ | refine Below.drew ?_ | refine Below.trans ?_ (Below.mono hb2 ?_) | refine Below.trans ?_ (Below.mono hb1 ?_))
    all_goals first | omega | (simp; done) | (simp; omega)
  cases i3 : inB steps 2 50
  · go_enter Try.func4, Try.ntmps4
    go_wp2_with fail
    refine (find_ok 3 47 5 3 _ (by omega) (by omega) (by omega) (by omega) (by omega) (by unfold FitsIn; decide) (by unfold FitsIn; decide)).mono ?_
    rintro e w1 ⟨rfl, hb1⟩
    rw [show scaleVal 3 47 (S 3) = .tuple #[.agg #[.int .i64 0, .int .i64 50, .int .i64 10], .int .i64 0] from rfl]
    go_wp2_with fail
    refine (find_range _ _ _ _ H.out).mono ?_
    rintro e w2 ⟨rfl, hb2⟩
    unfold zeroVal
    go_wp2_with (go_at_call 14; refine (in_any _ _ _ _).mono ?_; rintro e w3 ⟨rfl, rfl⟩)
    go_ret
    refine ⟨rfl, ?_⟩
    have hs1 := hb1.size
    have hs2 := hb2.size
    simp at hs1 hs2
    repeat' (with_reducible first | exact Below.refl _ _ | refine Below.setCell ?_ ?_ _ | refine Below.alloc ?_ ?_ _ | refine below_drewN ?_ _ | refine Below.drew ?_ | refine Below.trans ?_ (Below.mono hb2 ?_) | refine Below.trans ?_ (Below.mono hb1 ?_))
    all_goals first | omega | (simp; done) | (simp; omega)
  exact absurd ⟨inB_true.1 i1, inB_true.1 i2, inB_true.1 i3⟩ H.out
set_option maxHeartbeats 1000000 in
theorem law_order (low high steps : Int) (w : World) (h1 : -1000000000000 ≤ low ∧ low ≤ 1000000000000) (h2 : -1000000000000 ≤ high ∧ high ≤ 1000000000000) (h3 : 2 ≤ steps ∧ steps ≤ 50) (h4 : high < low) :
    Calls Try.prog 4 #[.int .i64 low, .int .i64 high, .int .i64 steps] w fun e w' => e = .returned (.bool true) ∧ Below w.heap.size w w' := by
  have i1 := inB_true.2 h1
  have i2 := inB_true.2 h2
  have i3 := inB_true.2 h3
  go_enter Try.func4, Try.ntmps4
  go_wp2_with fail
  refine (find_ok 3 47 5 3 _ (by omega) (by omega) (by omega) (by omega) (by omega) (by unfold FitsIn; decide) (by unfold FitsIn; decide)).mono ?_
  rintro e w1 ⟨rfl, hb1⟩
  rw [show scaleVal 3 47 (S 3) = .tuple #[.agg #[.int .i64 0, .int .i64 50, .int .i64 10], .int .i64 0] from rfl]
  go_wp2_with fail
  refine (find_order _ _ _ _ h1 h2 h3 h4).mono ?_
  rintro e w2 ⟨rfl, hb2⟩
  unfold zeroVal
  go_wp2_with (go_at_call 14; refine (in_any _ _ _ _).mono ?_; rintro e w3 ⟨rfl, rfl⟩)
  go_ret
  refine ⟨rfl, ?_⟩
  have hs1 := hb1.size
  have hs2 := hb2.size
  simp at hs1 hs2
  repeat' (with_reducible first | exact Below.refl _ _ | refine Below.setCell ?_ ?_ _ | refine Below.alloc ?_ ?_ _ | refine below_drewN ?_ _ | refine Below.drew ?_ | refine Below.trans ?_ (Below.mono hb2 ?_) | refine Below.trans ?_ (Below.mono hb1 ?_))
  all_goals first | omega | (simp; done) | (simp; omega)
set_option maxHeartbeats 4000000 in
theorem law_ok (low high steps : Int) (w : World) (h1 : -1000000000000 ≤ low ∧ low ≤ 1000000000000) (h2 : -1000000000000 ≤ high ∧ high ≤ 1000000000000) (h3 : 2 ≤ steps ∧ steps ≤ 50) (h4 : low ≤ high) :
    Calls Try.prog 4 #[.int .i64 low, .int .i64 high, .int .i64 steps] w fun e w' => e = .returned (.bool true) ∧ Below w.heap.size w w' := by
  obtain ⟨i0, hi, hg, hmin⟩ := least (p := FitsIn low high steps) 39 (good_last h3.1 h1.1 h2.2 h4)
  have i1 := inB_true.2 h1
  have i2 := inB_true.2 h2
  have i3 := inB_true.2 h3
  have HG := Lib.hid hg
  have HM := Lib.hid hmin
  clear hg hmin
  obtain ⟨s0, hs0⟩ : ∃ s0, s0 = S i0 := ⟨_, rfl⟩
  obtain ⟨X0, hX0⟩ : ∃ X0, X0 = low / s0 * s0 := ⟨_, rfl⟩
  obtain ⟨Y0, hY0⟩ : ∃ Y0, Y0 = T low high s0 * s0 := ⟨_, rfl⟩
  have H0 := Lib.hid hs0
  have HX := Lib.hid hX0
  have HY := Lib.hid hY0
  have HV := Lib.hid (show scaleVal low high (S i0) = .tuple #[.agg #[.int .i64 X0, .int .i64 Y0, .int .i64 s0], .int .i64 0] by rw [scaleVal, ← hs0, ← hX0, ← hY0])
  clear hs0 hX0 hY0
  go_enter Try.func4, Try.ntmps4
  go_wp2_with fail
  refine (find_ok 3 47 5 3 _ (by omega) (by omega) (by omega) (by omega) (by omega) (by unfold FitsIn; decide) (by unfold FitsIn; decide)).mono ?_
  rintro e w1 ⟨rfl, hb1⟩
  rw [show scaleVal 3 47 (S 3) = .tuple #[.agg #[.int .i64 0, .int .i64 50, .int .i64 10], .int .i64 0] from rfl]
  go_wp2_with fail
  refine (find_ok _ _ _ i0 _ h1 h2 h3 h4 hi HG.out HM.out).mono ?_
  rw [HV.out]
  rintro e w2 ⟨rfl, hb2⟩
  go_wp2_with (go_at_call 14; refine (in_any _ _ _ _).mono ?_; rintro e w3 ⟨rfl, rfl⟩)
  go_loop [11, 12] (fun st k => ∃ i : Nat, st = .int .i64 (S i) ∧ k = .int .i64 i ∧ i ≤ i0) (fun _ k => 40 - (intOf k).toNat)
  case atStart => exact ⟨0, rfl, rfl, by omega⟩
  case round =>
    obtain ⟨i, rfl, rfl, hii⟩ := hrel
    have hs1 := S_pos i
    have hs2 := S_le i (by omega)
    obtain ⟨s, hs⟩ : ∃ s, s = S i := ⟨_, rfl⟩
    rw [← hs] at hs1 hs2 ⊢
    have HS := Lib.hid hs.symm
    clear hs
    have hA := A_bd (low := low) hs1
    have hB := A_bd (low := high) hs1
    have hab := abs_bd (a := low) (m := 1000000000000) hs1 (by omega) h1.1 h1.2
    have hbb := abs_bd (a := high) (m := 1000000000000) hs1 (by omega) h2.1 h2.2
    have hB' : (high / s + 1) * s = high / s * s + s := by rw [Int.add_mul, Int.one_mul]
    have hT := T_ref (low := low) hs1 h4
    by_cases hd1 : high / s * s < high
    · rw [if_pos (Or.inl hd1)] at hT
      have HT := Lib.hid hT
      clear hT
      by_cases he : i = i0
      · have hX : X0 = low / s * s := by rw [HX.out, H0.out, ← he, HS.out]
        have hY : Y0 = (high / s + 1) * s := by rw [HY.out, H0.out, ← he, HS.out, HT.out]
        have hZ : s0 = s := by rw [H0.out, ← he, HS.out]
        have hF : high / s + 1 - low / s ≤ steps := by have := HG.out; rw [← he] at this; unfold FitsIn at this; rw [HS.out, HT.out] at this; exact this
        clear he
        go_wp2_with (go_at_call 16; refine (down_any _ _ _ (by omega) (by omega)).mono ?_; rintro e w3 ⟨rfl, rfl⟩)
        go_ret
        refine ⟨rfl, ?_⟩
        have hs1 := hb1.size
        have hs2 := hb2.size
        simp at hs1 hs2
        repeat' (with_reducible first | exact Below.refl _ _ | refine Below.setCell ?_ ?_ _ | refine Below.alloc ?_ ?_ _ | refine below_drewN ?_ _ | refine Below.drew ?_ | refine Below.trans ?_ (Below.mono hb2 ?_) | refine Below.trans ?_ (Below.mono hb1 ?_))
        all_goals first | omega | (simp; done) | (simp; omega)
      · have hF : ¬ high / s + 1 - low / s ≤ steps := by have := HM.out i (by omega); unfold FitsIn at this; rw [HS.out, HT.out] at this; exact this
        have hlt : i < i0 := by omega
        clear he
        by_cases hk : (i : Int) % 3 = 1
        · have hk' : ((i : Int) % 3 == 1) = true := by simpa using hk
          have HN := Lib.hid (show S (i + 1) = s * 2 / 4 * 5 by rw [S_next, if_pos hk, HS.out])
          clear hk
          go_wp2_with (go_at_call 16; refine (down_any _ _ _ (by omega) (by omega)).mono ?_; rintro e w3 ⟨rfl, rfl⟩)
          go_round
          case rel => exact ⟨i + 1, by rw [HN.out], by go_num, by omega⟩
          case measure => simp [intOf]; omega
        · have hk' : ((i : Int) % 3 == 1) = false := by simpa using hk
          have HN := Lib.hid (show S (i + 1) = s * 2 by rw [S_next, if_neg hk, HS.out])
          clear hk
          go_wp2_with (go_at_call 16; refine (down_any _ _ _ (by omega) (by omega)).mono ?_; rintro e w3 ⟨rfl, rfl⟩)
          go_round
          case rel => exact ⟨i + 1, by rw [HN.out], by go_num, by omega⟩
          case measure => simp [intOf]; omega
    · by_cases hd2 : low / s = high / s
      · rw [if_pos (Or.inr hd2)] at hT
        have HT := Lib.hid hT
        have hd' : (low / s == high / s) = true := by simpa using hd2
        clear hT
        by_cases he : i = i0
        · have hX : X0 = low / s * s := by rw [HX.out, H0.out, ← he, HS.out]
          have hY : Y0 = (high / s + 1) * s := by rw [HY.out, H0.out, ← he, HS.out, HT.out]
          have hZ : s0 = s := by rw [H0.out, ← he, HS.out]
          have hF : high / s + 1 - low / s ≤ steps := by have := HG.out; rw [← he] at this; unfold FitsIn at this; rw [HS.out, HT.out] at this; exact this
          clear he hd2
          go_wp2_with (go_at_call 16; refine (down_any _ _ _ (by omega) (by omega)).mono ?_; rintro e w3 ⟨rfl, rfl⟩)
          go_ret
          refine ⟨rfl, ?_⟩
          have hs1 := hb1.size
          have hs2 := hb2.size
          simp at hs1 hs2
          repeat' (with_reducible first | exact Below.refl _ _ | refine Below.setCell ?_ ?_ _ | refine Below.alloc ?_ ?_ _ | refine below_drewN ?_ _ | refine Below.drew ?_ | refine Below.trans ?_ (Below.mono hb2 ?_) | refine Below.trans ?_ (Below.mono hb1 ?_))
          all_goals first | omega | (simp; done) | (simp; omega)
        · have hF : ¬ high / s + 1 - low / s ≤ steps := by have := HM.out i (by omega); unfold FitsIn at this; rw [HS.out, HT.out] at this; exact this
          have hlt : i < i0 := by omega
          clear he hd2
          by_cases hk : (i : Int) % 3 = 1
          · have hk' : ((i : Int) % 3 == 1) = true := by simpa using hk
            have HN := Lib.hid (show S (i + 1) = s * 2 / 4 * 5 by rw [S_next, if_pos hk, HS.out])
            clear hk
            go_wp2_with (go_at_call 16; refine (down_any _ _ _ (by omega) (by omega)).mono ?_; rintro e w3 ⟨rfl, rfl⟩)
            go_round
            case rel => exact ⟨i + 1, by rw [HN.out], by go_num, by omega⟩
            case measure => simp [intOf]; omega
          · have hk' : ((i : Int) % 3 == 1) = false := by simpa using hk
            have HN := Lib.hid (show S (i + 1) = s * 2 by rw [S_next, if_neg hk, HS.out])
            clear hk
            go_wp2_with (go_at_call 16; refine (down_any _ _ _ (by omega) (by omega)).mono ?_; rintro e w3 ⟨rfl, rfl⟩)
            go_round
            case rel => exact ⟨i + 1, by rw [HN.out], by go_num, by omega⟩
            case measure => simp [intOf]; omega
      · rw [if_neg (show ¬ (high / s * s < high ∨ low / s = high / s) by intro h; rcases h with h | h; exact hd1 h; exact hd2 h)] at hT
        have HT := Lib.hid hT
        have hd' : (low / s == high / s) = false := by simpa using hd2
        clear hT
        by_cases he : i = i0
        · have hX : X0 = low / s * s := by rw [HX.out, H0.out, ← he, HS.out]
          have hY : Y0 = high / s * s := by rw [HY.out, H0.out, ← he, HS.out, HT.out]
          have hZ : s0 = s := by rw [H0.out, ← he, HS.out]
          have hF : high / s - low / s ≤ steps := by have := HG.out; rw [← he] at this; unfold FitsIn at this; rw [HS.out, HT.out] at this; exact this
          clear he hd2
          go_wp2_with (go_at_call 16; refine (down_any _ _ _ (by omega) (by omega)).mono ?_; rintro e w3 ⟨rfl, rfl⟩)
          go_ret
          refine ⟨rfl, ?_⟩
          have hs1 := hb1.size
          have hs2 := hb2.size
          simp at hs1 hs2
          repeat' (with_reducible first | exact Below.refl _ _ | refine Below.setCell ?_ ?_ _ | refine Below.alloc ?_ ?_ _ | refine below_drewN ?_ _ | refine Below.drew ?_ | refine Below.trans ?_ (Below.mono hb2 ?_) | refine Below.trans ?_ (Below.mono hb1 ?_))
          all_goals first | omega | (simp; done) | (simp; omega)
        · have hF : ¬ high / s - low / s ≤ steps := by have := HM.out i (by omega); unfold FitsIn at this; rw [HS.out, HT.out] at this; exact this
          have hlt : i < i0 := by omega
          clear he hd2
          by_cases hk : (i : Int) % 3 = 1
          · have hk' : ((i : Int) % 3 == 1) = true := by simpa using hk
            have HN := Lib.hid (show S (i + 1) = s * 2 / 4 * 5 by rw [S_next, if_pos hk, HS.out])
            clear hk
            go_wp2_with (go_at_call 16; refine (down_any _ _ _ (by omega) (by omega)).mono ?_; rintro e w3 ⟨rfl, rfl⟩)
            go_round
            case rel => exact ⟨i + 1, by rw [HN.out], by go_num, by omega⟩
            case measure => simp [intOf]; omega
          · have hk' : ((i : Int) % 3 == 1) = false := by simpa using hk
            have HN := Lib.hid (show S (i + 1) = s * 2 by rw [S_next, if_neg hk, HS.out])
            clear hk
            go_wp2_with (go_at_call 16; refine (down_any _ _ _ (by omega) (by omega)).mono ?_; rintro e w3 ⟨rfl, rfl⟩)
            go_round
            case rel => exact ⟨i + 1, by rw [HN.out], by go_num, by omega⟩
            case measure => simp [intOf]; omega
end Go.Proofs.Ytpbnkkeplhgepaa.SF
