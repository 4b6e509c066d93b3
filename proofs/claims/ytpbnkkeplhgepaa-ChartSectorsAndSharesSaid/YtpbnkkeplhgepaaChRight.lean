
/-
  The reference's sharesRight finds Shares right.
-/
import Derived.Test.YtpbnkkeplhgepaaChShares
import Derived.Test.YtpbnkkeplhgepaaSameInts
namespace Go.Proofs.Ytpbnkkeplhgepaa.CH
open Go.RowKit Go.Law Go.Law.Ch Ref
set_option linter.unusedVariables false
set_option linter.unusedSimpArgs false
set_option maxRecDepth 100000
set_option maxHeartbeats 4000000 in
theorem right_bad (n : Nat) (f : Nat → Int) (a : Option Addr) (c : Nat) (w : World) (ha : IntsF w a n f) (hb : n ≤ 1000000000000000000) (he : shErr n f ≠ 0) :
    Calls Try.prog 32 #[.slice a n c] w fun e w' => e = .returned (.bool true) ∧ w = w' := by
  have hsh := shares_bad n f a c w ha hb he
  by_cases h0 : n = 0
  · rw [shErr_none (f := f) h0] at hsh
    subst h0
    clear he
    go_enter Try.func32, Try.ntmps32
    go_wp2_with fail
    refine hsh.mono ?_
    rintro e w1 ⟨rfl, rfl⟩
    go_wp2_with fail
    refine wp_loop_rounds 1 ?_
    rw [rounds_succ]
    go_wp2_with fail
    go_ret
    exact ⟨rfl, rfl⟩
  · obtain ⟨b, off, rfl, hc⟩ := ha (by omega)
    have hn00 : ((n : Int) == 0) = false := by simp; omega
    by_cases hl : 200 < n
    · rw [shErr_large (f := f) hl] at hsh
      clear he
      have HC := Lib.hid hc
      clear hc ha
      go_enter Try.func32, Try.ntmps32
      go_wp2_with fail
      refine hsh.mono ?_
      rintro e w1 ⟨rfl, rfl⟩
      clear hsh
      go_wp2_with fail
      go_loopw [5, 6, 35] (fun fx ax ix wr => ∃ (k : Nat) (A : Int), ix = .int .i64 k ∧ fx = .int .i64 3 ∧ ax = .int .i64 A ∧ k ≤ n ∧ w = wr) (fun _ _ ix _ => n - (intOf ix).toNat)
      case atStart => exact ⟨0, _, rfl, rfl, rfl, by omega, rfl⟩
      case round =>
        obtain ⟨k, A, rfl, rfl, rfl, hk, rfl⟩ := hrel
        by_cases hkn : k < n
        · have d1 := HC.out k hkn
          go_wp2_with fail
          go_roundw
          case rel => exact ⟨k + 1, _, by go_num, rfl, rfl, by omega, trivial⟩
          case measure => simp [intOf]; omega
        · obtain rfl : n = k := by omega
          go_wp2_with fail
          go_ret
          exact ⟨rfl, rfl⟩
    · have hno : ¬ okV n f := fun h => he (shErr_ok (by omega) (by omega) h)
      rw [shErr_bad (f := f) (by omega) (by omega) hno] at hsh
      have HNO := Lib.hid hno
      have HC := Lib.hid hc
      clear he hno hc ha
      go_enter Try.func32, Try.ntmps32
      go_wp2_with fail
      refine hsh.mono ?_
      rintro e w1 ⟨rfl, rfl⟩
      clear hsh
      go_wp2_with fail
      go_loopw [5, 6, 35] (fun fx ax ix wr => ∃ (k : Nat) (A : Int), ix = .int .i64 k ∧ ax = .int .i64 A ∧ k ≤ n ∧ w = wr ∧ (fx = .int .i64 2 ∨ (fx = .int .i64 0 ∧ ∀ j, j < k → 0 ≤ f j ∧ f j ≤ 83333333333))) (fun _ _ ix _ => n - (intOf ix).toNat)
      case atStart => exact ⟨0, _, rfl, rfl, by omega, rfl, .inr ⟨rfl, fun j hj => by omega⟩⟩
      case round =>
        obtain ⟨k, A, rfl, rfl, hk, rfl, hall⟩ := hrel
        by_cases hkn : k < n
        · have d1 := HC.out k hkn
          rcases hall with rfl | ⟨rfl, hall⟩
          · go_wp2_with fail
            go_roundw
            case rel => exact ⟨k + 1, _, by go_num, rfl, by omega, trivial, .inl rfl⟩
            case measure => simp [intOf]; omega
          · have HA := Lib.hid hall
            clear hall
            by_cases hr : 0 ≤ f k ∧ f k ≤ 83333333333
            · have i1 := inB_true.2 hr
              have HR := Lib.hid hr
              clear hr
              go_wp2_with (go_at_call 14; refine (in_any _ _ _ _).mono ?_; rw [i1]; rintro e w9 ⟨rfl, rfl⟩)
              go_roundw
              case rel => exact ⟨k + 1, _, by go_num, rfl, by omega, trivial, .inr ⟨rfl, fun j hj => by rcases Nat.lt_or_ge j k with h | h; exact HA.out j h; rw [show j = k by omega]; exact HR.out⟩⟩
              case measure => simp [intOf]; omega
            · have i1 := inB_false.2 hr
              clear hr
              go_wp2_with (go_at_call 14; refine (in_any _ _ _ _).mono ?_; rw [i1]; rintro e w9 ⟨rfl, rfl⟩)
              go_roundw
              case rel => exact ⟨k + 1, _, by go_num, rfl, by omega, trivial, .inl rfl⟩
              case measure => simp [intOf]; omega
        · obtain rfl : n = k := by omega
          rcases hall with rfl | ⟨rfl, hall⟩
          · go_wp2_with fail
            go_ret
            exact ⟨rfl, rfl⟩
          · exfalso
            exact HNO.out fun i hi => hall i (by omega)
end Go.Proofs.Ytpbnkkeplhgepaa.CH
