
/-
  timeline.Check and the law's effectsError.
-/
import Derived.Test.YthddbinbeinafaaProg
import Derived.Test.YthddbinbeinafaaTlPlain
import Derived.Test.YthddbinbeinafaaIn
import Derived.Test.YthddbinbeinafaaCommon
import Derived.WalkLawsBesides
import Derived.Lib.Hide
namespace Go.Proofs.Ythddbinbeinafaa.TL
open Go.RowKit Go.Law Go.Law.Tl Ref
set_option linter.unusedVariables false
set_option linter.unusedSimpArgs false
set_option maxRecDepth 100000
set_option maxHeartbeats 8000000 in
theorem check_any (n : Nat) (L : Nat → Eff) (a : Option Addr) (c : Nat) (w : World) (ha : CellsF w a n 7 (fun i => (L i).V)) (hn : n ≤ 1000000000000000000) :
    Calls Try.prog 13 #[.slice a n c] w fun e w' => e = .returned (.int .i64 (effsE n L)) ∧ Below w.heap.size w w' := by
  by_cases hn2 : 200 < n
  · have HB := Lib.hid (effsE_large (L := L) hn2)
    clear ha
    go_enter Try.func13, Try.ntmps13
    go_wp2_with fail
    go_ret
    exact ⟨by rw [HB.out]; rfl, Below.refl _ _⟩
  · have HA := Lib.hid ha
    clear ha
    go_enter Try.func13, Try.ntmps13
    go_wp2_with fail
    go_loopw [10] (fun ix wr => ∃ k : Nat, ix = .int .i64 k ∧ k ≤ n ∧ (∀ i, i < k → effE (L i) = 0) ∧ Below w.heap.size w wr) (fun ix _ => n - (intOf ix).toNat)
    case atStart => exact ⟨0, rfl, by omega, fun i hi => by omega, Below.refl _ _⟩
    case round =>
      obtain ⟨k, rfl, hk, hall, hbel⟩ := hrel
      have HZ := Lib.hid hall
      clear hall
      have hsz := hbel.size
      by_cases hkn : k < n
      · obtain ⟨b, off, rfl, hcell⟩ := HA.out.below (Nat.le_refl _) hbel (by omega)
        have d0 : wr.cell? ⟨b, off + k * 7 + 0, none⟩ = some ((L k).V 0) := hcell k hkn 0 (by omega)
        have d1 : wr.cell? ⟨b, off + k * 7 + 1, none⟩ = some ((L k).V 1) := hcell k hkn 1 (by omega)
        have d2 : wr.cell? ⟨b, off + k * 7 + 2, none⟩ = some ((L k).V 2) := hcell k hkn 2 (by omega)
        have d3 : wr.cell? ⟨b, off + k * 7 + 3, none⟩ = some ((L k).V 3) := hcell k hkn 3 (by omega)
        have d4 : wr.cell? ⟨b, off + k * 7 + 4, none⟩ = some ((L k).V 4) := hcell k hkn 4 (by omega)
        have d5 : wr.cell? ⟨b, off + k * 7 + 5, none⟩ = some ((L k).V 5) := hcell k hkn 5 (by omega)
        have d6 : wr.cell? ⟨b, off + k * 7 + 6, none⟩ = some ((L k).V 6) := hcell k hkn 6 (by omega)
        obtain ⟨p, hp⟩ : ∃ p, p = L k := ⟨_, rfl⟩
        rw [← hp] at d0 d1 d2 d3 d4 d5 d6
        have HP := Lib.hid hp
        clear hp hcell
        obtain ⟨I, K, S, D, T, X, Y⟩ := p
        simp only [Eff.V] at d0 d1 d2 d3 d4 d5 d6
        rw [Nat.add_zero] at d0
        by_cases a1 : K < 0
        · have HB := Lib.hid (show effsE n L = 8 by
            have h1 : effE (L k) = 8 := by rw [← HP.out]; unfold effE; rw [if_pos (by simp only; omega)]
            rw [effsE_small hn2, firstE_at hkn HZ.out (by show effE (L k) ≠ 0; rw [h1]; decide), h1])
          go_wp2_with fail
          go_ret
          refine ⟨by rw [HB.out]; rfl, ?_⟩
          repeat' (with_reducible first | exact Below.refl _ _ | assumption | refine Below.setCell ?_ ?_ _ | refine Below.alloc ?_ ?_ _ | refine below_drewN ?_ _ | refine Below.drew ?_)
          all_goals first | omega | (simp; done) | (simp; omega)
        by_cases a2 : 2 < K
        · have HB := Lib.hid (show effsE n L = 8 by
            have h1 : effE (L k) = 8 := by rw [← HP.out]; unfold effE; rw [if_pos (by simp only; omega)]
            rw [effsE_small hn2, firstE_at hkn HZ.out (by show effE (L k) ≠ 0; rw [h1]; decide), h1])
          go_wp2_with fail
          go_ret
          refine ⟨by rw [HB.out]; rfl, ?_⟩
          repeat' (with_reducible first | exact Below.refl _ _ | assumption | refine Below.setCell ?_ ?_ _ | refine Below.alloc ?_ ?_ _ | refine below_drewN ?_ _ | refine Below.drew ?_)
          all_goals first | omega | (simp; done) | (simp; omega)
        by_cases a1 : S < 0
        · have HB := Lib.hid (show effsE n L = 8 by
            have h1 : effE (L k) = 8 := by rw [← HP.out]; unfold effE; rw [if_pos (by simp only; omega)]
            rw [effsE_small hn2, firstE_at hkn HZ.out (by show effE (L k) ≠ 0; rw [h1]; decide), h1])
          go_wp2_with fail
          go_ret
          refine ⟨by rw [HB.out]; rfl, ?_⟩
          repeat' (with_reducible first | exact Below.refl _ _ | assumption | refine Below.setCell ?_ ?_ _ | refine Below.alloc ?_ ?_ _ | refine below_drewN ?_ _ | refine Below.drew ?_)
          all_goals first | omega | (simp; done) | (simp; omega)
        by_cases a2 : 2 < S
        · have HB := Lib.hid (show effsE n L = 8 by
            have h1 : effE (L k) = 8 := by rw [← HP.out]; unfold effE; rw [if_pos (by simp only; omega)]
            rw [effsE_small hn2, firstE_at hkn HZ.out (by show effE (L k) ≠ 0; rw [h1]; decide), h1])
          go_wp2_with fail
          go_ret
          refine ⟨by rw [HB.out]; rfl, ?_⟩
          repeat' (with_reducible first | exact Below.refl _ _ | assumption | refine Below.setCell ?_ ?_ _ | refine Below.alloc ?_ ?_ _ | refine below_drewN ?_ _ | refine Below.drew ?_)
          all_goals first | omega | (simp; done) | (simp; omega)
        by_cases a1 : I < 1
        · have HB := Lib.hid (show effsE n L = 2 by
            have h1 : effE (L k) = 2 := by rw [← HP.out]; unfold effE; rw [if_neg (by simp only; omega), if_pos (by simp only; omega)]
            rw [effsE_small hn2, firstE_at hkn HZ.out (by show effE (L k) ≠ 0; rw [h1]; decide), h1])
          go_wp2_with fail
          go_ret
          refine ⟨by rw [HB.out]; rfl, ?_⟩
          repeat' (with_reducible first | exact Below.refl _ _ | assumption | refine Below.setCell ?_ ?_ _ | refine Below.alloc ?_ ?_ _ | refine below_drewN ?_ _ | refine Below.drew ?_)
          all_goals first | omega | (simp; done) | (simp; omega)
        by_cases a2 : 1073741824 < I
        · have HB := Lib.hid (show effsE n L = 2 by
            have h1 : effE (L k) = 2 := by rw [← HP.out]; unfold effE; rw [if_neg (by simp only; omega), if_pos (by simp only; omega)]
            rw [effsE_small hn2, firstE_at hkn HZ.out (by show effE (L k) ≠ 0; rw [h1]; decide), h1])
          go_wp2_with fail
          go_ret
          refine ⟨by rw [HB.out]; rfl, ?_⟩
          repeat' (with_reducible first | exact Below.refl _ _ | assumption | refine Below.setCell ?_ ?_ _ | refine Below.alloc ?_ ?_ _ | refine below_drewN ?_ _ | refine Below.drew ?_)
          all_goals first | omega | (simp; done) | (simp; omega)
        by_cases a1 : D < 0
        · have HB := Lib.hid (show effsE n L = 2 by
            have h1 : effE (L k) = 2 := by rw [← HP.out]; unfold effE; rw [if_neg (by simp only; omega), if_pos (by simp only; omega)]
            rw [effsE_small hn2, firstE_at hkn HZ.out (by show effE (L k) ≠ 0; rw [h1]; decide), h1])
          go_wp2_with fail
          go_ret
          refine ⟨by rw [HB.out]; rfl, ?_⟩
          repeat' (with_reducible first | exact Below.refl _ _ | assumption | refine Below.setCell ?_ ?_ _ | refine Below.alloc ?_ ?_ _ | refine below_drewN ?_ _ | refine Below.drew ?_)
          all_goals first | omega | (simp; done) | (simp; omega)
        by_cases a2 : 10000000 < D
        · have HB := Lib.hid (show effsE n L = 2 by
            have h1 : effE (L k) = 2 := by rw [← HP.out]; unfold effE; rw [if_neg (by simp only; omega), if_pos (by simp only; omega)]
            rw [effsE_small hn2, firstE_at hkn HZ.out (by show effE (L k) ≠ 0; rw [h1]; decide), h1])
          go_wp2_with fail
          go_ret
          refine ⟨by rw [HB.out]; rfl, ?_⟩
          repeat' (with_reducible first | exact Below.refl _ _ | assumption | refine Below.setCell ?_ ?_ _ | refine Below.alloc ?_ ?_ _ | refine below_drewN ?_ _ | refine Below.drew ?_)
          all_goals first | omega | (simp; done) | (simp; omega)
        by_cases a1 : T < 0
        · have HB := Lib.hid (show effsE n L = 2 by
            have h1 : effE (L k) = 2 := by rw [← HP.out]; unfold effE; rw [if_neg (by simp only; omega), if_pos (by simp only; omega)]
            rw [effsE_small hn2, firstE_at hkn HZ.out (by show effE (L k) ≠ 0; rw [h1]; decide), h1])
          go_wp2_with fail
          go_ret
          refine ⟨by rw [HB.out]; rfl, ?_⟩
          repeat' (with_reducible first | exact Below.refl _ _ | assumption | refine Below.setCell ?_ ?_ _ | refine Below.alloc ?_ ?_ _ | refine below_drewN ?_ _ | refine Below.drew ?_)
          all_goals first | omega | (simp; done) | (simp; omega)
        by_cases a2 : 10000000 < T
        · have HB := Lib.hid (show effsE n L = 2 by
            have h1 : effE (L k) = 2 := by rw [← HP.out]; unfold effE; rw [if_neg (by simp only; omega), if_pos (by simp only; omega)]
            rw [effsE_small hn2, firstE_at hkn HZ.out (by show effE (L k) ≠ 0; rw [h1]; decide), h1])
          go_wp2_with fail
          go_ret
          refine ⟨by rw [HB.out]; rfl, ?_⟩
          repeat' (with_reducible first | exact Below.refl _ _ | assumption | refine Below.setCell ?_ ?_ _ | refine Below.alloc ?_ ?_ _ | refine below_drewN ?_ _ | refine Below.drew ?_)
          all_goals first | omega | (simp; done) | (simp; omega)
        by_cases a1 : X < (-1048576)
        · have HB := Lib.hid (show effsE n L = 2 by
            have h1 : effE (L k) = 2 := by rw [← HP.out]; unfold effE; rw [if_neg (by simp only; omega), if_pos (by simp only; omega)]
            rw [effsE_small hn2, firstE_at hkn HZ.out (by show effE (L k) ≠ 0; rw [h1]; decide), h1])
          go_wp2_with fail
          go_ret
          refine ⟨by rw [HB.out]; rfl, ?_⟩
          repeat' (with_reducible first | exact Below.refl _ _ | assumption | refine Below.setCell ?_ ?_ _ | refine Below.alloc ?_ ?_ _ | refine below_drewN ?_ _ | refine Below.drew ?_)
          all_goals first | omega | (simp; done) | (simp; omega)
        by_cases a2 : 1048576 < X
        · have HB := Lib.hid (show effsE n L = 2 by
            have h1 : effE (L k) = 2 := by rw [← HP.out]; unfold effE; rw [if_neg (by simp only; omega), if_pos (by simp only; omega)]
            rw [effsE_small hn2, firstE_at hkn HZ.out (by show effE (L k) ≠ 0; rw [h1]; decide), h1])
          go_wp2_with fail
          go_ret
          refine ⟨by rw [HB.out]; rfl, ?_⟩
          repeat' (with_reducible first | exact Below.refl _ _ | assumption | refine Below.setCell ?_ ?_ _ | refine Below.alloc ?_ ?_ _ | refine below_drewN ?_ _ | refine Below.drew ?_)
          all_goals first | omega | (simp; done) | (simp; omega)
        by_cases a1 : Y < (-1048576)
        · have HB := Lib.hid (show effsE n L = 2 by
            have h1 : effE (L k) = 2 := by rw [← HP.out]; unfold effE; rw [if_neg (by simp only; omega), if_pos (by simp only; omega)]
            rw [effsE_small hn2, firstE_at hkn HZ.out (by show effE (L k) ≠ 0; rw [h1]; decide), h1])
          go_wp2_with fail
          go_ret
          refine ⟨by rw [HB.out]; rfl, ?_⟩
          repeat' (with_reducible first | exact Below.refl _ _ | assumption | refine Below.setCell ?_ ?_ _ | refine Below.alloc ?_ ?_ _ | refine below_drewN ?_ _ | refine Below.drew ?_)
          all_goals first | omega | (simp; done) | (simp; omega)
        by_cases a2 : 1048576 < Y
        · have HB := Lib.hid (show effsE n L = 2 by
            have h1 : effE (L k) = 2 := by rw [← HP.out]; unfold effE; rw [if_neg (by simp only; omega), if_pos (by simp only; omega)]
            rw [effsE_small hn2, firstE_at hkn HZ.out (by show effE (L k) ≠ 0; rw [h1]; decide), h1])
          go_wp2_with fail
          go_ret
          refine ⟨by rw [HB.out]; rfl, ?_⟩
          repeat' (with_reducible first | exact Below.refl _ _ | assumption | refine Below.setCell ?_ ?_ _ | refine Below.alloc ?_ ?_ _ | refine below_drewN ?_ _ | refine Below.drew ?_)
          all_goals first | omega | (simp; done) | (simp; omega)
        by_cases g1 : K = 2
        · have HG := Lib.hid g1
          subst g1
          have HT := HG
          have HOK := Lib.hid (show effE (L k) = 0 by rw [← HP.out]; unfold effE; rw [if_neg (by simp only; omega), if_neg (by simp only; omega), if_neg (by simp only; omega)])
          go_wp2_with fail
          go_roundw
          case rel =>
            refine ⟨k + 1, by go_num, by omega, fun i hi => by rcases Nat.lt_or_ge i k with h | h; exact HZ.out i h; rw [show i = k by omega]; exact HOK.out, ?_⟩
            repeat' (with_reducible first | exact Below.refl _ _ | assumption | refine Below.setCell ?_ ?_ _ | refine Below.alloc ?_ ?_ _ | refine below_drewN ?_ _ | refine Below.drew ?_)
            all_goals first | omega | (simp; done) | (simp; omega)
          case measure => simp [intOf]; omega
        · have g2 : (K != 2) = true := by simpa using g1
          by_cases g3 : X = 0
          · subst g3
            by_cases g4 : Y = 0
            · subst g4
              have HG := Lib.hid g1
              clear g1
              have HOK := Lib.hid (show effE (L k) = 0 by rw [← HP.out]; unfold effE; rw [if_neg (by simp only; omega), if_neg (by simp only; omega), if_neg (by simp only; omega)])
              go_wp2_with fail
              go_roundw
              case rel =>
                refine ⟨k + 1, by go_num, by omega, fun i hi => by rcases Nat.lt_or_ge i k with h | h; exact HZ.out i h; rw [show i = k by omega]; exact HOK.out, ?_⟩
                repeat' (with_reducible first | exact Below.refl _ _ | assumption | refine Below.setCell ?_ ?_ _ | refine Below.alloc ?_ ?_ _ | refine below_drewN ?_ _ | refine Below.drew ?_)
                all_goals first | omega | (simp; done) | (simp; omega)
              case measure => simp [intOf]; omega
            · have g5 : (Y != 0) = true := by simpa using g4
              have HB := Lib.hid (show effsE n L = 4 by
                have h1 : effE (L k) = 4 := by rw [← HP.out]; unfold effE; rw [if_neg (by simp only; omega), if_neg (by simp only; omega), if_pos (by simp only; omega)]
                rw [effsE_small hn2, firstE_at hkn HZ.out (by show effE (L k) ≠ 0; rw [h1]; decide), h1])
              go_wp2_with fail
              go_ret
              refine ⟨by rw [HB.out]; rfl, ?_⟩
              repeat' (with_reducible first | exact Below.refl _ _ | assumption | refine Below.setCell ?_ ?_ _ | refine Below.alloc ?_ ?_ _ | refine below_drewN ?_ _ | refine Below.drew ?_)
              all_goals first | omega | (simp; done) | (simp; omega)
          · have g5 : (X != 0) = true := by simpa using g3
            have HB := Lib.hid (show effsE n L = 4 by
              have h1 : effE (L k) = 4 := by rw [← HP.out]; unfold effE; rw [if_neg (by simp only; omega), if_neg (by simp only; omega), if_pos (by simp only; omega)]
              rw [effsE_small hn2, firstE_at hkn HZ.out (by show effE (L k) ≠ 0; rw [h1]; decide), h1])
            go_wp2_with fail
            go_ret
            refine ⟨by rw [HB.out]; rfl, ?_⟩
            repeat' (with_reducible first | exact Below.refl _ _ | assumption | refine Below.setCell ?_ ?_ _ | refine Below.alloc ?_ ?_ _ | refine below_drewN ?_ _ | refine Below.drew ?_)
            all_goals first | omega | (simp; done) | (simp; omega)
      · obtain rfl : n = k := by omega
        have HB := Lib.hid (show effsE n L = 0 by rw [effsE_small hn2]; exact firstE_none HZ.out)
        go_wp2_with fail
        go_ret
        exact ⟨by rw [HB.out]; rfl, hbel⟩
set_option maxHeartbeats 8000000 in
theorem error_any (n : Nat) (L : Nat → Eff) (a : Option Addr) (c : Nat) (w : World) (ha : CellsF w a n 7 (fun i => (L i).V)) (hn : n ≤ 1000000000000000000) :
    Calls Try.prog 7 #[.slice a n c] w fun e w' => e = .returned (.int .i64 (effsE n L)) ∧ Below w.heap.size w w' := by
  by_cases hn2 : 200 < n
  · have HB := Lib.hid (effsE_large (L := L) hn2)
    clear ha
    go_enter Try.func7, Try.ntmps7
    go_wp2_with fail
    go_ret
    exact ⟨by rw [HB.out]; rfl, Below.refl _ _⟩
  · have HA := Lib.hid ha
    clear ha
    go_enter Try.func7, Try.ntmps7
    go_wp2_with fail
    go_loopw [10] (fun ix wr => ∃ k : Nat, ix = .int .i64 k ∧ k ≤ n ∧ (∀ i, i < k → effE (L i) = 0) ∧ Below w.heap.size w wr) (fun ix _ => n - (intOf ix).toNat)
    case atStart => exact ⟨0, rfl, by omega, fun i hi => by omega, Below.refl _ _⟩
    case round =>
      obtain ⟨k, rfl, hk, hall, hbel⟩ := hrel
      have HZ := Lib.hid hall
      clear hall
      have hsz := hbel.size
      by_cases hkn : k < n
      · obtain ⟨b, off, rfl, hcell⟩ := HA.out.below (Nat.le_refl _) hbel (by omega)
        have d0 : wr.cell? ⟨b, off + k * 7 + 0, none⟩ = some ((L k).V 0) := hcell k hkn 0 (by omega)
        have d1 : wr.cell? ⟨b, off + k * 7 + 1, none⟩ = some ((L k).V 1) := hcell k hkn 1 (by omega)
        have d2 : wr.cell? ⟨b, off + k * 7 + 2, none⟩ = some ((L k).V 2) := hcell k hkn 2 (by omega)
        have d3 : wr.cell? ⟨b, off + k * 7 + 3, none⟩ = some ((L k).V 3) := hcell k hkn 3 (by omega)
        have d4 : wr.cell? ⟨b, off + k * 7 + 4, none⟩ = some ((L k).V 4) := hcell k hkn 4 (by omega)
        have d5 : wr.cell? ⟨b, off + k * 7 + 5, none⟩ = some ((L k).V 5) := hcell k hkn 5 (by omega)
        have d6 : wr.cell? ⟨b, off + k * 7 + 6, none⟩ = some ((L k).V 6) := hcell k hkn 6 (by omega)
        obtain ⟨p, hp⟩ : ∃ p, p = L k := ⟨_, rfl⟩
        rw [← hp] at d0 d1 d2 d3 d4 d5 d6
        have HP := Lib.hid hp
        clear hp hcell
        obtain ⟨I, K, S, D, T, X, Y⟩ := p
        simp only [Eff.V] at d0 d1 d2 d3 d4 d5 d6
        rw [Nat.add_zero] at d0
        cases jK : inB K 0 2
        · have a1 := inB_false.1 jK
          have HB := Lib.hid (show effsE n L = 8 by
            have h1 : effE (L k) = 8 := by rw [← HP.out]; unfold effE; rw [if_pos (by simp only; omega)]
            rw [effsE_small hn2, firstE_at hkn HZ.out (by show effE (L k) ≠ 0; rw [h1]; decide), h1])
          go_wp2_with (go_at_call 8; refine (in_any _ _ _ _).mono ?_; rintro e w9 ⟨rfl, rfl⟩)
          go_ret
          refine ⟨by rw [HB.out]; rfl, ?_⟩
          repeat' (with_reducible first | exact Below.refl _ _ | assumption | refine Below.setCell ?_ ?_ _ | refine Below.alloc ?_ ?_ _ | refine below_drewN ?_ _ | refine Below.drew ?_)
          all_goals first | omega | (simp; done) | (simp; omega)
        have bjK := inB_true.1 jK
        cases jS : inB S 0 2
        · have a1 := inB_false.1 jS
          have HB := Lib.hid (show effsE n L = 8 by
            have h1 : effE (L k) = 8 := by rw [← HP.out]; unfold effE; rw [if_pos (by simp only; omega)]
            rw [effsE_small hn2, firstE_at hkn HZ.out (by show effE (L k) ≠ 0; rw [h1]; decide), h1])
          go_wp2_with (go_at_call 8; refine (in_any _ _ _ _).mono ?_; rintro e w9 ⟨rfl, rfl⟩)
          go_ret
          refine ⟨by rw [HB.out]; rfl, ?_⟩
          repeat' (with_reducible first | exact Below.refl _ _ | assumption | refine Below.setCell ?_ ?_ _ | refine Below.alloc ?_ ?_ _ | refine below_drewN ?_ _ | refine Below.drew ?_)
          all_goals first | omega | (simp; done) | (simp; omega)
        have bjS := inB_true.1 jS
        cases jI : inB I 1 1073741824
        · have a1 := inB_false.1 jI
          have HB := Lib.hid (show effsE n L = 2 by
            have h1 : effE (L k) = 2 := by rw [← HP.out]; unfold effE; rw [if_neg (by simp only; omega), if_pos (by simp only; omega)]
            rw [effsE_small hn2, firstE_at hkn HZ.out (by show effE (L k) ≠ 0; rw [h1]; decide), h1])
          go_wp2_with (go_at_call 8; refine (in_any _ _ _ _).mono ?_; rintro e w9 ⟨rfl, rfl⟩)
          go_ret
          refine ⟨by rw [HB.out]; rfl, ?_⟩
          repeat' (with_reducible first | exact Below.refl _ _ | assumption | refine Below.setCell ?_ ?_ _ | refine Below.alloc ?_ ?_ _ | refine below_drewN ?_ _ | refine Below.drew ?_)
          all_goals first | omega | (simp; done) | (simp; omega)
        have bjI := inB_true.1 jI
        cases jD : inB D 0 10000000
        · have a1 := inB_false.1 jD
          have HB := Lib.hid (show effsE n L = 2 by
            have h1 : effE (L k) = 2 := by rw [← HP.out]; unfold effE; rw [if_neg (by simp only; omega), if_pos (by simp only; omega)]
            rw [effsE_small hn2, firstE_at hkn HZ.out (by show effE (L k) ≠ 0; rw [h1]; decide), h1])
          go_wp2_with (go_at_call 8; refine (in_any _ _ _ _).mono ?_; rintro e w9 ⟨rfl, rfl⟩)
          go_ret
          refine ⟨by rw [HB.out]; rfl, ?_⟩
          repeat' (with_reducible first | exact Below.refl _ _ | assumption | refine Below.setCell ?_ ?_ _ | refine Below.alloc ?_ ?_ _ | refine below_drewN ?_ _ | refine Below.drew ?_)
          all_goals first | omega | (simp; done) | (simp; omega)
        have bjD := inB_true.1 jD
        cases jT : inB T 0 10000000
        · have a1 := inB_false.1 jT
          have HB := Lib.hid (show effsE n L = 2 by
            have h1 : effE (L k) = 2 := by rw [← HP.out]; unfold effE; rw [if_neg (by simp only; omega), if_pos (by simp only; omega)]
            rw [effsE_small hn2, firstE_at hkn HZ.out (by show effE (L k) ≠ 0; rw [h1]; decide), h1])
          go_wp2_with (go_at_call 8; refine (in_any _ _ _ _).mono ?_; rintro e w9 ⟨rfl, rfl⟩)
          go_ret
          refine ⟨by rw [HB.out]; rfl, ?_⟩
          repeat' (with_reducible first | exact Below.refl _ _ | assumption | refine Below.setCell ?_ ?_ _ | refine Below.alloc ?_ ?_ _ | refine below_drewN ?_ _ | refine Below.drew ?_)
          all_goals first | omega | (simp; done) | (simp; omega)
        have bjT := inB_true.1 jT
        cases jX : inB X (-1048576) 1048576
        · have a1 := inB_false.1 jX
          have HB := Lib.hid (show effsE n L = 2 by
            have h1 : effE (L k) = 2 := by rw [← HP.out]; unfold effE; rw [if_neg (by simp only; omega), if_pos (by simp only; omega)]
            rw [effsE_small hn2, firstE_at hkn HZ.out (by show effE (L k) ≠ 0; rw [h1]; decide), h1])
          go_wp2_with (go_at_call 8; refine (in_any _ _ _ _).mono ?_; rintro e w9 ⟨rfl, rfl⟩)
          go_ret
          refine ⟨by rw [HB.out]; rfl, ?_⟩
          repeat' (with_reducible first | exact Below.refl _ _ | assumption | refine Below.setCell ?_ ?_ _ | refine Below.alloc ?_ ?_ _ | refine below_drewN ?_ _ | refine Below.drew ?_)
          all_goals first | omega | (simp; done) | (simp; omega)
        have bjX := inB_true.1 jX
        cases jY : inB Y (-1048576) 1048576
        · have a1 := inB_false.1 jY
          have HB := Lib.hid (show effsE n L = 2 by
            have h1 : effE (L k) = 2 := by rw [← HP.out]; unfold effE; rw [if_neg (by simp only; omega), if_pos (by simp only; omega)]
            rw [effsE_small hn2, firstE_at hkn HZ.out (by show effE (L k) ≠ 0; rw [h1]; decide), h1])
          go_wp2_with (go_at_call 8; refine (in_any _ _ _ _).mono ?_; rintro e w9 ⟨rfl, rfl⟩)
          go_ret
          refine ⟨by rw [HB.out]; rfl, ?_⟩
          repeat' (with_reducible first | exact Below.refl _ _ | assumption | refine Below.setCell ?_ ?_ _ | refine Below.alloc ?_ ?_ _ | refine below_drewN ?_ _ | refine Below.drew ?_)
          all_goals first | omega | (simp; done) | (simp; omega)
        have bjY := inB_true.1 jY
        by_cases g1 : K = 2
        · have HG := Lib.hid g1
          subst g1
          have HT := HG
          have HOK := Lib.hid (show effE (L k) = 0 by rw [← HP.out]; unfold effE; rw [if_neg (by simp only; omega), if_neg (by simp only; omega), if_neg (by simp only; omega)])
          go_wp2_with (go_at_call 8; refine (in_any _ _ _ _).mono ?_; rintro e w9 ⟨rfl, rfl⟩)
          go_roundw
          case rel =>
            refine ⟨k + 1, by go_num, by omega, fun i hi => by rcases Nat.lt_or_ge i k with h | h; exact HZ.out i h; rw [show i = k by omega]; exact HOK.out, ?_⟩
            repeat' (with_reducible first | exact Below.refl _ _ | assumption | refine Below.setCell ?_ ?_ _ | refine Below.alloc ?_ ?_ _ | refine below_drewN ?_ _ | refine Below.drew ?_)
            all_goals first | omega | (simp; done) | (simp; omega)
          case measure => simp [intOf]; omega
        · have g2 : (K != 2) = true := by simpa using g1
          by_cases g3 : X = 0
          · subst g3
            by_cases g4 : Y = 0
            · subst g4
              have HG := Lib.hid g1
              clear g1
              have HOK := Lib.hid (show effE (L k) = 0 by rw [← HP.out]; unfold effE; rw [if_neg (by simp only; omega), if_neg (by simp only; omega), if_neg (by simp only; omega)])
              go_wp2_with (go_at_call 8; refine (in_any _ _ _ _).mono ?_; rintro e w9 ⟨rfl, rfl⟩)
              go_roundw
              case rel =>
                refine ⟨k + 1, by go_num, by omega, fun i hi => by rcases Nat.lt_or_ge i k with h | h; exact HZ.out i h; rw [show i = k by omega]; exact HOK.out, ?_⟩
                repeat' (with_reducible first | exact Below.refl _ _ | assumption | refine Below.setCell ?_ ?_ _ | refine Below.alloc ?_ ?_ _ | refine below_drewN ?_ _ | refine Below.drew ?_)
                all_goals first | omega | (simp; done) | (simp; omega)
              case measure => simp [intOf]; omega
            · have g5 : (Y != 0) = true := by simpa using g4
              have HB := Lib.hid (show effsE n L = 4 by
                have h1 : effE (L k) = 4 := by rw [← HP.out]; unfold effE; rw [if_neg (by simp only; omega), if_neg (by simp only; omega), if_pos (by simp only; omega)]
                rw [effsE_small hn2, firstE_at hkn HZ.out (by show effE (L k) ≠ 0; rw [h1]; decide), h1])
              go_wp2_with (go_at_call 8; refine (in_any _ _ _ _).mono ?_; rintro e w9 ⟨rfl, rfl⟩)
              go_ret
              refine ⟨by rw [HB.out]; rfl, ?_⟩
              repeat' (with_reducible first | exact Below.refl _ _ | assumption | refine Below.setCell ?_ ?_ _ | refine Below.alloc ?_ ?_ _ | refine below_drewN ?_ _ | refine Below.drew ?_)
              all_goals first | omega | (simp; done) | (simp; omega)
          · have g5 : (X != 0) = true := by simpa using g3
            have HB := Lib.hid (show effsE n L = 4 by
              have h1 : effE (L k) = 4 := by rw [← HP.out]; unfold effE; rw [if_neg (by simp only; omega), if_neg (by simp only; omega), if_pos (by simp only; omega)]
              rw [effsE_small hn2, firstE_at hkn HZ.out (by show effE (L k) ≠ 0; rw [h1]; decide), h1])
            go_wp2_with (go_at_call 8; refine (in_any _ _ _ _).mono ?_; rintro e w9 ⟨rfl, rfl⟩)
            go_ret
            refine ⟨by rw [HB.out]; rfl, ?_⟩
            repeat' (with_reducible first | exact Below.refl _ _ | assumption | refine Below.setCell ?_ ?_ _ | refine Below.alloc ?_ ?_ _ | refine below_drewN ?_ _ | refine Below.drew ?_)
            all_goals first | omega | (simp; done) | (simp; omega)
      · obtain rfl : n = k := by omega
        have HB := Lib.hid (show effsE n L = 0 by rw [effsE_small hn2]; exact firstE_none HZ.out)
        go_wp2_with fail
        go_ret
        exact ⟨by rw [HB.out]; rfl, hbel⟩
end Go.Proofs.Ythddbinbeinafaa.TL
