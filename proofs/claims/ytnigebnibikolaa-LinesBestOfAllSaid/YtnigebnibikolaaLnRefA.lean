

/-
  The reference's stop, canStop, begin, follow, bad.
-/
import Derived.Test.YtnigebnibikolaaProg
import Derived.Test.YtnigebnibikolaaLnMk
import Derived.Test.YtnigebnibikolaaCommon
import Derived.Test.YtnigebnibikolaaBlk
import Derived.WalkLawsBesides
import Derived.Lib.Hide
import Derived.BigQuiet
namespace Go.Proofs.Ytnigebnibikolaa.LN
open Go.RowKit Go.Law Go.Law.Ln
set_option linter.unusedVariables false
set_option linter.unusedSimpArgs false
set_option maxRecDepth 100000
theorem stop_any (n : Nat) (L : Nat → Part) (aP : Option Addr) (cP : Nat) (i : Nat) (w : World) (mP : CellsF w aP n 6 (fun i => (L i).V)) (hn : n ≤ 8000) (hi : i ≤ n) :
    Calls Try.prog 78 #[.slice aP n cP, .int .i64 i] w fun e w' => e = .returned (.bool (mustB n L i)) ∧ w = w' := by
  by_cases hin : i = n
  · subst hin
    have HV := Lib.hid (mustB_end i L)
    clear mP
    go_enter Try.func78, Try.ntmps78
    go_wp2_with fail
    go_ret
    exact ⟨by rw [HV.out]; rfl, rfl⟩
  · have hlt : i < n := by omega
    have ne : ((i : Int) == (n : Int)) = false := by simp; omega
    obtain ⟨b, off, rfl, hcell⟩ := mP (by omega)
    have d0 : w.cell? ⟨b, off + i * 6 + 0, none⟩ = some ((L i).V 0) := hcell i (by omega) 0 (by omega)
    have d1 : w.cell? ⟨b, off + i * 6 + 1, none⟩ = some ((L i).V 1) := hcell i (by omega) 1 (by omega)
    have d2 : w.cell? ⟨b, off + i * 6 + 2, none⟩ = some ((L i).V 2) := hcell i (by omega) 2 (by omega)
    have d3 : w.cell? ⟨b, off + i * 6 + 3, none⟩ = some ((L i).V 3) := hcell i (by omega) 3 (by omega)
    have d4 : w.cell? ⟨b, off + i * 6 + 4, none⟩ = some ((L i).V 4) := hcell i (by omega) 4 (by omega)
    have d5 : w.cell? ⟨b, off + i * 6 + 5, none⟩ = some ((L i).V 5) := hcell i (by omega) 5 (by omega)
    obtain ⟨p, hp⟩ : ∃ p, p = L i := ⟨_, rfl⟩
    rw [← hp] at d0 d1 d2 d3 d4 d5
    have HP := Lib.hid hp
    have zb := lt_of_cell d0
    simp only at zb
    clear hp
    obtain ⟨K, Wi, S, R, C, F⟩ := p
    simp only [Part.V] at d0 d1 d2 d3 d4 d5
    rw [Nat.add_zero] at d0
    have HV0 := Lib.hid (show mustB n L i = (decide (K = 2) && decide (C = -10000)) by unfold mustB; rw [← HP.out]; simp [hin])
    clear mP hcell hin
    by_cases hk : K = 2
    · subst hk
      by_cases hc : C = -10000
      · subst hc
        have HV := Lib.hid (show mustB n L i = true by rw [HV0.out]; rfl)
        go_enter Try.func78, Try.ntmps78
        go_wp2_with fail
        go_ret
        exact ⟨by rw [HV.out]; rfl, rfl⟩
      · have HV := Lib.hid (show mustB n L i = false by rw [HV0.out]; simp [hc])
        have hc2 : (C == -10000) = false := by simpa using hc
        clear hc
        go_enter Try.func78, Try.ntmps78
        go_wp2_with fail
        go_ret
        exact ⟨by rw [HV.out]; rfl, rfl⟩
    · have HV := Lib.hid (show mustB n L i = false by rw [HV0.out]; simp [hk])
      have hk2 : (K == 2) = false := by simpa using hk
      clear hk
      go_enter Try.func78, Try.ntmps78
      go_wp2_with fail
      go_ret
      exact ⟨by rw [HV.out]; rfl, rfl⟩
set_option maxHeartbeats 1000000 in
theorem canStop_any (n : Nat) (L : Nat → Part) (aP : Option Addr) (cP : Nat) (i : Nat) (w : World) (mP : CellsF w aP n 6 (fun i => (L i).V)) (hn : n ≤ 8000) (hi : i ≤ n) (hok : ∀ i, i < n → (L i).Ok) :
    Calls Try.prog 84 #[.slice aP n cP, .int .i64 i] w fun e w' => e = .returned (.bool (mayB n L i)) ∧ w = w' := by
  have hs := stop_any n L aP cP i w mP hn hi
  cases hm : mustB n L i
  · rw [hm] at hs
    have hin : i ≠ n := by rintro rfl; rw [mustB_end] at hm; cases hm
    have hlt : i < n := by omega
    have hkk := (hok i hlt).kind
    have hm2 : ¬ ((L i).kind = 2 ∧ (L i).cost = -10000) := by
      intro h
      unfold mustB at hm
      simp [h] at hm
    have mP2 := mP
    obtain ⟨b, off, rfl, hcell⟩ := mP (by omega)
    have d0 : w.cell? ⟨b, off + i * 6 + 0, none⟩ = some ((L i).V 0) := hcell i (by omega) 0 (by omega)
    have d1 : w.cell? ⟨b, off + i * 6 + 1, none⟩ = some ((L i).V 1) := hcell i (by omega) 1 (by omega)
    have d2 : w.cell? ⟨b, off + i * 6 + 2, none⟩ = some ((L i).V 2) := hcell i (by omega) 2 (by omega)
    have d3 : w.cell? ⟨b, off + i * 6 + 3, none⟩ = some ((L i).V 3) := hcell i (by omega) 3 (by omega)
    have d4 : w.cell? ⟨b, off + i * 6 + 4, none⟩ = some ((L i).V 4) := hcell i (by omega) 4 (by omega)
    have d5 : w.cell? ⟨b, off + i * 6 + 5, none⟩ = some ((L i).V 5) := hcell i (by omega) 5 (by omega)
    obtain ⟨p, hp⟩ : ∃ p, p = L i := ⟨_, rfl⟩
    rw [← hp] at d0 d1 d2 d3 d4 d5
    have HP := Lib.hid hp
    have zb := lt_of_cell d0
    simp only at zb
    clear hp
    obtain ⟨K, Wi, S, R, C, F⟩ := p
    simp only [Part.V] at d0 d1 d2 d3 d4 d5
    rw [Nat.add_zero] at d0
    have hprev : 0 < i → w.cell? ⟨b, off + (i - 1) * 6, none⟩ = some (.int .i64 (L (i - 1)).kind) := fun h0 => by
      have q0 : w.cell? ⟨b, off + (i - 1) * 6 + 0, none⟩ = some ((L (i - 1)).V 0) := hcell (i - 1) (by omega) 0 (by omega)
      rw [Nat.add_zero] at q0
      exact q0
    rw [← HP.out] at hkk hm2
    simp only at hkk hm2
    have HS := Lib.hid hs
    clear hs hm mP mP2 hcell hok
    have hk3 : K = 0 ∨ K = 1 ∨ K = 2 := by omega
    clear hkk
    rcases hk3 with rfl | rfl | rfl
    · have HV := Lib.hid (show mayB n L i = false by unfold mayB; rw [← HP.out]; simp [hin])
      clear hprev hin hm2
      go_enter Try.func84, Try.ntmps84
      go_wp2_with fail
      refine (HS.out).mono ?_
      rintro e w1 ⟨rfl, rfl⟩
      go_wp2_with fail
      go_ret
      exact ⟨by rw [HV.out]; rfl, rfl⟩
    · rcases i with _ | i
      · have HV := Lib.hid (show mayB n L 0 = false by unfold mayB; rw [← HP.out]; simp [hin])
        have z0 : ((0 : Nat) : Int) = 0 := rfl
        rw [z0] at HS ⊢
        rw [Nat.zero_mul, Nat.add_zero] at d0 d1 d2 d3 d4 d5
        clear z0 hprev hin hm2
        go_enter Try.func84, Try.ntmps84
        go_wp2_with fail
        refine (HS.out).mono ?_
        rintro e w1 ⟨rfl, rfl⟩
        go_wp2_with fail
        go_ret
        exact ⟨by rw [HV.out]; rfl, rfl⟩
      · have q0 := hprev (by omega)
        rw [show i + 1 - 1 = i by omega] at q0
        obtain ⟨K2, hK2⟩ : ∃ k, k = (L i).kind := ⟨_, rfl⟩
        rw [← hK2] at q0
        have HV0 := Lib.hid (show mayB n L (i + 1) = decide (K2 = 0) by unfold mayB; rw [← HP.out]; simp [hin, hK2])
        have e1 : (((i + 1 : Nat) : Int) - 1) = (i : Int) := by omega
        have e2 : (0 : Int) < ((i + 1 : Nat) : Int) := by omega
        clear hprev hin hK2 hm2
        by_cases hz : K2 = 0
        · subst hz
          have HV := Lib.hid (show mayB n L (i + 1) = true by rw [HV0.out]; rfl)
          go_enter Try.func84, Try.ntmps84
          go_wp2_with fail
          refine (HS.out).mono ?_
          rintro e w1 ⟨rfl, rfl⟩
          go_wp2_with fail
          go_ret
          exact ⟨by rw [HV.out]; rfl, rfl⟩
        · have hz2 : (K2 == 0) = false := by simpa using hz
          have HV := Lib.hid (show mayB n L (i + 1) = false by rw [HV0.out]; simpa using hz)
          clear hz
          go_enter Try.func84, Try.ntmps84
          go_wp2_with fail
          refine (HS.out).mono ?_
          rintro e w1 ⟨rfl, rfl⟩
          go_wp2_with fail
          go_ret
          exact ⟨by rw [HV.out]; rfl, rfl⟩
    · have HV0 := Lib.hid (show mayB n L i = decide (C < 10000) by unfold mayB; rw [← HP.out]; simp [hin])
      clear hprev hin hm2
      by_cases hc : C < 10000
      · have HV := Lib.hid (show mayB n L i = true by rw [HV0.out]; simpa using hc)
        have hc2 : decide (C < 10000) = true := by simpa using hc
        go_enter Try.func84, Try.ntmps84
        go_wp2_with fail
        refine (HS.out).mono ?_
        rintro e w1 ⟨rfl, rfl⟩
        go_wp2_with fail
        go_ret
        exact ⟨by rw [HV.out]; rfl, rfl⟩
      · have HV := Lib.hid (show mayB n L i = false by rw [HV0.out]; simpa using hc)
        have hc2 : decide (C < 10000) = false := by simpa using hc
        go_enter Try.func84, Try.ntmps84
        go_wp2_with fail
        refine (HS.out).mono ?_
        rintro e w1 ⟨rfl, rfl⟩
        go_wp2_with fail
        go_ret
        exact ⟨by rw [HV.out]; rfl, rfl⟩
  · rw [hm] at hs
    have HS := Lib.hid hs
    have HV := Lib.hid (mayB_must hm)
    clear hs hm mP hok
    go_enter Try.func84, Try.ntmps84
    go_wp2_with fail
    refine (HS.out).mono ?_
    rintro e w1 ⟨rfl, rfl⟩
    go_wp2_with fail
    go_ret
    exact ⟨by rw [HV.out]; rfl, rfl⟩
set_option maxHeartbeats 1000000 in
theorem begin_any (n : Nat) (L : Nat → Part) (aP : Option Addr) (cP : Nat) (i : Nat) (w : World) (mP : CellsF w aP n 6 (fun i => (L i).V)) (hn : n ≤ 8000) (hi : i ≤ n) :
    Calls Try.prog 62 #[.slice aP n cP, .int .i64 i] w fun e w' => e = .returned (.int .i64 (begF n L i)) ∧ w = w' := by
  have HM := Lib.hid mP
  obtain ⟨B, hB⟩ : ∃ B, B = begF n L i := ⟨_, rfl⟩
  rw [← hB]
  have HB := Lib.hid hB
  clear mP hB
  go_enter Try.func62, Try.ntmps62
  go_wp2_with fail
  go_loopw [1] (fun iv wr => ∃ k : Nat, iv = .int .i64 k ∧ k ≤ n ∧ B = begF n L k ∧ w = wr) (fun iv _ => n - (intOf iv).toNat)
  case atStart => exact ⟨i, rfl, hi, HB.out, rfl⟩
  case round =>
    obtain ⟨k, rfl, hk, hBk, rfl⟩ := hrel
    have HBK := Lib.hid hBk
    clear hBk HB
    by_cases hkn : k < n
    · have hs := stop_any n L aP cP k w HM.out hn hk
      have mP := HM.out
      obtain ⟨b, off, rfl, hcell⟩ := mP (by omega)
      have d0 : w.cell? ⟨b, off + k * 6 + 0, none⟩ = some ((L k).V 0) := hcell k (by omega) 0 (by omega)
      have d1 : w.cell? ⟨b, off + k * 6 + 1, none⟩ = some ((L k).V 1) := hcell k (by omega) 1 (by omega)
      have d2 : w.cell? ⟨b, off + k * 6 + 2, none⟩ = some ((L k).V 2) := hcell k (by omega) 2 (by omega)
      have d3 : w.cell? ⟨b, off + k * 6 + 3, none⟩ = some ((L k).V 3) := hcell k (by omega) 3 (by omega)
      have d4 : w.cell? ⟨b, off + k * 6 + 4, none⟩ = some ((L k).V 4) := hcell k (by omega) 4 (by omega)
      have d5 : w.cell? ⟨b, off + k * 6 + 5, none⟩ = some ((L k).V 5) := hcell k (by omega) 5 (by omega)
      obtain ⟨p, hp⟩ : ∃ p, p = L k := ⟨_, rfl⟩
      rw [← hp] at d0 d1 d2 d3 d4 d5
      have HP := Lib.hid hp
      have zb := lt_of_cell d0
      simp only at zb
      clear hp
      obtain ⟨K, Wi, S, R, C, F⟩ := p
      simp only [Part.V] at d0 d1 d2 d3 d4 d5
      rw [Nat.add_zero] at d0
      by_cases hk0 : K = 0
      · have HV := Lib.hid (show B = k by rw [HBK.out]; exact begF_here hkn (.inl (by rw [← HP.out]; exact hk0)))
        have hk1 : (K != 0) = false := by simpa using hk0
        clear hs hcell mP hk0
        go_wp2_with fail
        go_ret
        exact ⟨by rw [HV.out]; rfl, rfl⟩
      · have hk1 : (K != 0) = true := by simpa using hk0
        cases hm : mustB n L k
        · rw [hm] at hs
          have HS := Lib.hid hs
          have HV := Lib.hid (show B = begF n L (k + 1) by rw [HBK.out]; exact begF_next hkn (by rw [hm, ← HP.out]; simpa using hk0))
          clear hs hm hk0 hcell mP
          go_wp2_with fail
          refine (HS.out).mono ?_
          rintro e w1 ⟨rfl, rfl⟩
          go_wp2_with fail
          go_roundw
          case rel => exact ⟨k + 1, by go_num, by omega, HV.out, by first | rfl | trivial⟩
          case measure => simp [intOf]; omega
        · rw [hm] at hs
          have HS := Lib.hid hs
          have HV := Lib.hid (show B = k by rw [HBK.out]; exact begF_here hkn (.inr hm))
          clear hs hm hk0 hcell mP
          go_wp2_with fail
          refine (HS.out).mono ?_
          rintro e w1 ⟨rfl, rfl⟩
          go_wp2_with fail
          go_ret
          exact ⟨by rw [HV.out]; rfl, rfl⟩
    · obtain rfl : k = n := by omega
      have HV := Lib.hid (show B = k by rw [HBK.out, begF_end])
      go_wp2_with fail
      go_ret
      exact ⟨by rw [HV.out]; rfl, rfl⟩
theorem follow_any (n : Nat) (L : Nat → Part) (aP : Option Addr) (cP : Nat) (i : Nat) (w : World) (mP : CellsF w aP n 6 (fun i => (L i).V)) (hn : n ≤ 8000) (hi : i ≤ n) :
    Calls Try.prog 67 #[.slice aP n cP, .int .i64 i] w fun e w' => e = .returned (.int .i64 (aftF n L i)) ∧ w = w' := by
  have HM := Lib.hid mP
  by_cases hin : i = n
  · subst hin
    have HV := Lib.hid (show aftF i L i = i by unfold aftF; rw [if_pos rfl])
    clear mP
    go_enter Try.func67, Try.ntmps67
    go_wp2_with fail
    go_ret
    exact ⟨by rw [HV.out]; rfl, rfl⟩
  · have ne : ((i : Int) == (n : Int)) = false := by simp; omega
    have HV := Lib.hid (show aftF n L i = begF n L (i + 1) by unfold aftF; rw [if_neg hin])
    have hi1 : i + 1 ≤ n := by omega
    clear mP hin
    go_enter Try.func67, Try.ntmps67
    go_wp2_with fail
    rw [show ((i : Int) + 1) = ((i + 1 : Nat) : Int) by omega]
    refine (begin_any n L aP cP (i + 1) w HM.out hn hi1).mono ?_
    rintro e w1 ⟨rfl, rfl⟩
    go_wp2_with fail
    go_ret
    exact ⟨by rw [HV.out]; rfl, rfl⟩
end Go.Proofs.Ytnigebnibikolaa.LN
