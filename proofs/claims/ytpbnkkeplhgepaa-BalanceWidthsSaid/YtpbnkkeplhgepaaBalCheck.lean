
/-
  balance.Check and the reference's NeedsError: the same number.
-/
import Derived.Test.YtpbnkkeplhgepaaProg
import Derived.Test.YtpbnkkeplhgepaaOwnR
import Derived.Test.YtpbnkkeplhgepaaBalPlain
import Derived.Test.YtpbnkkeplhgepaaIn
import Derived.Test.YtpbnkkeplhgepaaCommon
import Derived.WalkLawsBesides
import Derived.Lib.Hide
namespace Go.Proofs.Ytpbnkkeplhgepaa.BA
open Go.RowKit Go.Law Go.Law.Bal Ref
set_option linter.unusedVariables false
set_option linter.unusedSimpArgs false
set_option maxRecDepth 100000
set_option maxHeartbeats 8000000 in
theorem check_any (cols : Int) (n : Nat) (E : Nat → Nat → Int) (a : Option Addr) (c : Nat) (w : World) (ha : StrF w a n 4 E) (hn : n ≤ 1000000000000000000) :
    Calls Try.prog 41 #[.int .i64 cols, .slice a n c] w fun e w' => e = .returned (.int .i64 (balE cols n E)) ∧ Below w.heap.size w w' := by
  by_cases hc : 1 ≤ cols ∧ cols ≤ 64
  · by_cases hn2 : 4000 < n
    · have HB := Lib.hid (balE_large (E := E) hc hn2)
      have i0 : inB cols 1 64 = true := inB_true.2 hc
      obtain ⟨hc1, hc2⟩ := hc
      go_enter Try.func41, Try.ntmps41
      go_wp2_with fail
      go_ret
      exact ⟨by rw [HB.out]; rfl, Below.refl _ _⟩
    · have i0 : inB cols 1 64 = true := inB_true.2 hc
      have HA := Lib.hid ha
      clear ha
      obtain ⟨hc1, hc2⟩ := hc
      go_enter Try.func41, Try.ntmps41
      go_wp2_with fail
      go_loopw [18] (fun ix wr => ∃ k : Nat, ix = .int .i64 k ∧ k ≤ n ∧ (∀ i, i < k → cellOk cols (E i)) ∧ Below w.heap.size w wr) (fun ix _ => n - (intOf ix).toNat)
      case atStart => exact ⟨0, rfl, by omega, fun i hi => by omega, Below.refl _ _⟩
      case round =>
        obtain ⟨k, rfl, hk, hall, hbel⟩ := hrel
        have HALL := Lib.hid hall
        clear hall
        have hsz := hbel.size
        have hc : 1 ≤ cols ∧ cols ≤ 64 := ⟨hc1, hc2⟩
        by_cases hkn : k < n
        · obtain ⟨b, off, rfl, hcell⟩ := HA.out.below (Nat.le_refl _) hbel (by omega)
          have d0 := hcell k hkn 0 (by omega)
          have d1 := hcell k hkn 1 (by omega)
          have d2 := hcell k hkn 2 (by omega)
          have d3 := hcell k hkn 3 (by omega)
          clear hcell
          obtain ⟨C, hC⟩ : ∃ C, C = E k 0 := ⟨_, rfl⟩
          obtain ⟨S, hS⟩ : ∃ S, S = E k 1 := ⟨_, rfl⟩
          obtain ⟨M, hM⟩ : ∃ M, M = E k 2 := ⟨_, rfl⟩
          obtain ⟨P, hP⟩ : ∃ P, P = E k 3 := ⟨_, rfl⟩
          rw [← hC] at d0
          rw [← hS] at d1
          rw [← hM] at d2
          rw [← hP] at d3
          have H0 := Lib.hid hC
          have H1 := Lib.hid hS
          have H2 := Lib.hid hM
          have H3 := Lib.hid hP
          clear hC hS hM hP
          replace d0 : wr.cell? ⟨b, off + k * 4, none⟩ = some (.int .i64 C) := d0
          by_cases q1 : C < 0
          · have HB := Lib.hid (show balE cols n E = 2 from balE_bad hc hn2 (fun h => by have h1 := h k hkn; unfold cellOk at h1; rw [← H0.out, ← H1.out, ← H2.out, ← H3.out] at h1; omega))
            go_wp2_with fail
            go_ret
            refine ⟨by rw [HB.out]; rfl, ?_⟩
            repeat' (with_reducible first | exact Below.refl _ _ | assumption | refine Below.setCell ?_ ?_ _ | refine Below.alloc ?_ ?_ _ | refine below_drewN ?_ _ | refine Below.drew ?_)
            all_goals first | omega | (simp; done) | (simp; omega)
          by_cases q2 : cols ≤ C
          · have HB := Lib.hid (show balE cols n E = 2 from balE_bad hc hn2 (fun h => by have h1 := h k hkn; unfold cellOk at h1; rw [← H0.out, ← H1.out, ← H2.out, ← H3.out] at h1; omega))
            go_wp2_with fail
            go_ret
            refine ⟨by rw [HB.out]; rfl, ?_⟩
            repeat' (with_reducible first | exact Below.refl _ _ | assumption | refine Below.setCell ?_ ?_ _ | refine Below.alloc ?_ ?_ _ | refine below_drewN ?_ _ | refine Below.drew ?_)
            all_goals first | omega | (simp; done) | (simp; omega)
          by_cases q3 : S < 1
          · have HB := Lib.hid (show balE cols n E = 2 from balE_bad hc hn2 (fun h => by have h1 := h k hkn; unfold cellOk at h1; rw [← H0.out, ← H1.out, ← H2.out, ← H3.out] at h1; omega))
            go_wp2_with fail
            go_ret
            refine ⟨by rw [HB.out]; rfl, ?_⟩
            repeat' (with_reducible first | exact Below.refl _ _ | assumption | refine Below.setCell ?_ ?_ _ | refine Below.alloc ?_ ?_ _ | refine below_drewN ?_ _ | refine Below.drew ?_)
            all_goals first | omega | (simp; done) | (simp; omega)
          by_cases q4 : cols - C < S
          · have HB := Lib.hid (show balE cols n E = 2 from balE_bad hc hn2 (fun h => by have h1 := h k hkn; unfold cellOk at h1; rw [← H0.out, ← H1.out, ← H2.out, ← H3.out] at h1; omega))
            go_wp2_with fail
            go_ret
            refine ⟨by rw [HB.out]; rfl, ?_⟩
            repeat' (with_reducible first | exact Below.refl _ _ | assumption | refine Below.setCell ?_ ?_ _ | refine Below.alloc ?_ ?_ _ | refine below_drewN ?_ _ | refine Below.drew ?_)
            all_goals first | omega | (simp; done) | (simp; omega)
          by_cases q5 : M < 0
          · have HB := Lib.hid (show balE cols n E = 2 from balE_bad hc hn2 (fun h => by have h1 := h k hkn; unfold cellOk at h1; rw [← H0.out, ← H1.out, ← H2.out, ← H3.out] at h1; omega))
            go_wp2_with fail
            go_ret
            refine ⟨by rw [HB.out]; rfl, ?_⟩
            repeat' (with_reducible first | exact Below.refl _ _ | assumption | refine Below.setCell ?_ ?_ _ | refine Below.alloc ?_ ?_ _ | refine below_drewN ?_ _ | refine Below.drew ?_)
            all_goals first | omega | (simp; done) | (simp; omega)
          by_cases q6 : 31680 < M
          · have HB := Lib.hid (show balE cols n E = 2 from balE_bad hc hn2 (fun h => by have h1 := h k hkn; unfold cellOk at h1; rw [← H0.out, ← H1.out, ← H2.out, ← H3.out] at h1; omega))
            go_wp2_with fail
            go_ret
            refine ⟨by rw [HB.out]; rfl, ?_⟩
            repeat' (with_reducible first | exact Below.refl _ _ | assumption | refine Below.setCell ?_ ?_ _ | refine Below.alloc ?_ ?_ _ | refine below_drewN ?_ _ | refine Below.drew ?_)
            all_goals first | omega | (simp; done) | (simp; omega)
          by_cases q7 : P < 0
          · have HB := Lib.hid (show balE cols n E = 2 from balE_bad hc hn2 (fun h => by have h1 := h k hkn; unfold cellOk at h1; rw [← H0.out, ← H1.out, ← H2.out, ← H3.out] at h1; omega))
            go_wp2_with fail
            go_ret
            refine ⟨by rw [HB.out]; rfl, ?_⟩
            repeat' (with_reducible first | exact Below.refl _ _ | assumption | refine Below.setCell ?_ ?_ _ | refine Below.alloc ?_ ?_ _ | refine below_drewN ?_ _ | refine Below.drew ?_)
            all_goals first | omega | (simp; done) | (simp; omega)
          by_cases q8 : 31680 < P
          · have HB := Lib.hid (show balE cols n E = 2 from balE_bad hc hn2 (fun h => by have h1 := h k hkn; unfold cellOk at h1; rw [← H0.out, ← H1.out, ← H2.out, ← H3.out] at h1; omega))
            go_wp2_with fail
            go_ret
            refine ⟨by rw [HB.out]; rfl, ?_⟩
            repeat' (with_reducible first | exact Below.refl _ _ | assumption | refine Below.setCell ?_ ?_ _ | refine Below.alloc ?_ ?_ _ | refine below_drewN ?_ _ | refine Below.drew ?_)
            all_goals first | omega | (simp; done) | (simp; omega)
          have HOK := Lib.hid (show cellOk cols (E k) by unfold cellOk; rw [← H0.out, ← H1.out, ← H2.out, ← H3.out]; omega)
          go_wp2_with fail
          go_roundw
          case rel =>
            refine ⟨k + 1, by go_num, by omega, fun i hi => by rcases Nat.lt_or_ge i k with h | h; exact HALL.out i h; rw [show i = k by omega]; exact HOK.out, ?_⟩
            repeat' (with_reducible first | exact Below.refl _ _ | assumption | refine Below.setCell ?_ ?_ _ | refine Below.alloc ?_ ?_ _ | refine below_drewN ?_ _ | refine Below.drew ?_)
            all_goals first | omega | (simp; done) | (simp; omega)
          case measure => simp [intOf]; omega
        · obtain rfl : n = k := by omega
          have HB := Lib.hid (balE_ok hc hn2 HALL.out)
          clear hc
          go_wp2_with fail
          go_ret
          exact ⟨by rw [HB.out]; rfl, hbel⟩
  · have HB := Lib.hid (balE_cols (n := n) (E := E) hc)
    have i0 : inB cols 1 64 = false := inB_false.2 hc
    have hc2 : cols < 1 ∨ 64 < cols := by omega
    clear hc
    go_enter Try.func41, Try.ntmps41
    rcases hc2 with hc2 | hc2
    · go_wp2_with fail
      go_ret
      exact ⟨by rw [HB.out]; rfl, Below.refl _ _⟩
    · have hc3 : ¬ cols < 1 := by omega
      go_wp2_with fail
      go_ret
      exact ⟨by rw [HB.out]; rfl, Below.refl _ _⟩
set_option maxHeartbeats 8000000 in
theorem error_any (cols : Int) (n : Nat) (E : Nat → Nat → Int) (a : Option Addr) (c : Nat) (w : World) (ha : StrF w a n 4 E) (hn : n ≤ 1000000000000000000) :
    Calls Try.prog 40 #[.int .i64 cols, .slice a n c] w fun e w' => e = .returned (.int .i64 (balE cols n E)) ∧ Below w.heap.size w w' := by
  by_cases hc : 1 ≤ cols ∧ cols ≤ 64
  · by_cases hn2 : 4000 < n
    · have HB := Lib.hid (balE_large (E := E) hc hn2)
      have i0 : inB cols 1 64 = true := inB_true.2 hc
      obtain ⟨hc1, hc2⟩ := hc
      go_enter Try.func40, Try.ntmps40
      go_wp2_with (go_at_call 14; refine (in_any _ _ _ _).mono ?_; rintro e w9 ⟨rfl, rfl⟩)
      go_ret
      exact ⟨by rw [HB.out]; rfl, Below.refl _ _⟩
    · have i0 : inB cols 1 64 = true := inB_true.2 hc
      have HA := Lib.hid ha
      clear ha
      obtain ⟨hc1, hc2⟩ := hc
      go_enter Try.func40, Try.ntmps40
      go_wp2_with (go_at_call 14; refine (in_any _ _ _ _).mono ?_; rintro e w9 ⟨rfl, rfl⟩)
      go_loopw [15] (fun ix wr => ∃ k : Nat, ix = .int .i64 k ∧ k ≤ n ∧ (∀ i, i < k → cellOk cols (E i)) ∧ Below w.heap.size w wr) (fun ix _ => n - (intOf ix).toNat)
      case atStart => exact ⟨0, rfl, by omega, fun i hi => by omega, Below.refl _ _⟩
      case round =>
        obtain ⟨k, rfl, hk, hall, hbel⟩ := hrel
        have HALL := Lib.hid hall
        clear hall
        have hsz := hbel.size
        have hc : 1 ≤ cols ∧ cols ≤ 64 := ⟨hc1, hc2⟩
        by_cases hkn : k < n
        · obtain ⟨b, off, rfl, hcell⟩ := HA.out.below (Nat.le_refl _) hbel (by omega)
          have d0 := hcell k hkn 0 (by omega)
          have d1 := hcell k hkn 1 (by omega)
          have d2 := hcell k hkn 2 (by omega)
          have d3 := hcell k hkn 3 (by omega)
          clear hcell
          obtain ⟨C, hC⟩ : ∃ C, C = E k 0 := ⟨_, rfl⟩
          obtain ⟨S, hS⟩ : ∃ S, S = E k 1 := ⟨_, rfl⟩
          obtain ⟨M, hM⟩ : ∃ M, M = E k 2 := ⟨_, rfl⟩
          obtain ⟨P, hP⟩ : ∃ P, P = E k 3 := ⟨_, rfl⟩
          rw [← hC] at d0
          rw [← hS] at d1
          rw [← hM] at d2
          rw [← hP] at d3
          have H0 := Lib.hid hC
          have H1 := Lib.hid hS
          have H2 := Lib.hid hM
          have H3 := Lib.hid hP
          clear hC hS hM hP
          replace d0 : wr.cell? ⟨b, off + k * 4, none⟩ = some (.int .i64 C) := d0
          cases j1 : inB C 0 (cols - 1)
          · have q1 := inB_false.1 j1
            have HB := Lib.hid (show balE cols n E = 2 from balE_bad hc hn2 (fun h => by have h1 := h k hkn; unfold cellOk at h1; rw [← H0.out, ← H1.out, ← H2.out, ← H3.out] at h1; omega))
            go_wp2_with (go_at_call 14; refine (in_any _ _ _ _).mono ?_; rintro e w9 ⟨rfl, rfl⟩)
            go_ret
            refine ⟨by rw [HB.out]; rfl, ?_⟩
            repeat' (with_reducible first | exact Below.refl _ _ | assumption | refine Below.setCell ?_ ?_ _ | refine Below.alloc ?_ ?_ _ | refine below_drewN ?_ _ | refine Below.drew ?_)
            all_goals first | omega | (simp; done) | (simp; omega)
          have q1 := inB_true.1 j1
          cases j2 : inB S 1 (cols - C)
          · have q2 := inB_false.1 j2
            have HB := Lib.hid (show balE cols n E = 2 from balE_bad hc hn2 (fun h => by have h1 := h k hkn; unfold cellOk at h1; rw [← H0.out, ← H1.out, ← H2.out, ← H3.out] at h1; omega))
            go_wp2_with (go_at_call 14; refine (in_any _ _ _ _).mono ?_; rintro e w9 ⟨rfl, rfl⟩)
            go_ret
            refine ⟨by rw [HB.out]; rfl, ?_⟩
            repeat' (with_reducible first | exact Below.refl _ _ | assumption | refine Below.setCell ?_ ?_ _ | refine Below.alloc ?_ ?_ _ | refine below_drewN ?_ _ | refine Below.drew ?_)
            all_goals first | omega | (simp; done) | (simp; omega)
          have q2 := inB_true.1 j2
          cases j3 : inB M 0 31680
          · have q3 := inB_false.1 j3
            have HB := Lib.hid (show balE cols n E = 2 from balE_bad hc hn2 (fun h => by have h1 := h k hkn; unfold cellOk at h1; rw [← H0.out, ← H1.out, ← H2.out, ← H3.out] at h1; omega))
            go_wp2_with (go_at_call 14; refine (in_any _ _ _ _).mono ?_; rintro e w9 ⟨rfl, rfl⟩)
            go_ret
            refine ⟨by rw [HB.out]; rfl, ?_⟩
            repeat' (with_reducible first | exact Below.refl _ _ | assumption | refine Below.setCell ?_ ?_ _ | refine Below.alloc ?_ ?_ _ | refine below_drewN ?_ _ | refine Below.drew ?_)
            all_goals first | omega | (simp; done) | (simp; omega)
          have q3 := inB_true.1 j3
          cases j4 : inB P 0 31680
          · have q4 := inB_false.1 j4
            have HB := Lib.hid (show balE cols n E = 2 from balE_bad hc hn2 (fun h => by have h1 := h k hkn; unfold cellOk at h1; rw [← H0.out, ← H1.out, ← H2.out, ← H3.out] at h1; omega))
            go_wp2_with (go_at_call 14; refine (in_any _ _ _ _).mono ?_; rintro e w9 ⟨rfl, rfl⟩)
            go_ret
            refine ⟨by rw [HB.out]; rfl, ?_⟩
            repeat' (with_reducible first | exact Below.refl _ _ | assumption | refine Below.setCell ?_ ?_ _ | refine Below.alloc ?_ ?_ _ | refine below_drewN ?_ _ | refine Below.drew ?_)
            all_goals first | omega | (simp; done) | (simp; omega)
          have q4 := inB_true.1 j4
          have HOK := Lib.hid (show cellOk cols (E k) by unfold cellOk; rw [← H0.out, ← H1.out, ← H2.out, ← H3.out]; omega)
          go_wp2_with (go_at_call 14; refine (in_any _ _ _ _).mono ?_; rintro e w9 ⟨rfl, rfl⟩)
          go_roundw
          case rel =>
            refine ⟨k + 1, by go_num, by omega, fun i hi => by rcases Nat.lt_or_ge i k with h | h; exact HALL.out i h; rw [show i = k by omega]; exact HOK.out, ?_⟩
            repeat' (with_reducible first | exact Below.refl _ _ | assumption | refine Below.setCell ?_ ?_ _ | refine Below.alloc ?_ ?_ _ | refine below_drewN ?_ _ | refine Below.drew ?_)
            all_goals first | omega | (simp; done) | (simp; omega)
          case measure => simp [intOf]; omega
        · obtain rfl : n = k := by omega
          have HB := Lib.hid (balE_ok hc hn2 HALL.out)
          clear hc
          go_wp2_with fail
          go_ret
          exact ⟨by rw [HB.out]; rfl, hbel⟩
  · have HB := Lib.hid (balE_cols (n := n) (E := E) hc)
    have i0 : inB cols 1 64 = false := inB_false.2 hc
    have hc2 : cols < 1 ∨ 64 < cols := by omega
    clear hc
    go_enter Try.func40, Try.ntmps40
    rcases hc2 with hc2 | hc2
    · go_wp2_with (go_at_call 14; refine (in_any _ _ _ _).mono ?_; rintro e w9 ⟨rfl, rfl⟩)
      go_ret
      exact ⟨by rw [HB.out]; rfl, Below.refl _ _⟩
    · have hc3 : ¬ cols < 1 := by omega
      go_wp2_with (go_at_call 14; refine (in_any _ _ _ _).mono ?_; rintro e w9 ⟨rfl, rfl⟩)
      go_ret
      exact ⟨by rw [HB.out]; rfl, Below.refl _ _⟩
end Go.Proofs.Ytpbnkkeplhgepaa.BA
