
/-
  BidiOrderReverses returns true for every list: the walk.
-/
import Derived.Test.YtpbnkkeplhgepaaBidiShown
import Derived.Test.YtpbnkkeplhgepaaSameInts
import Derived.Test.YtpbnkkeplhgepaaIn
namespace Go.Proofs.Ytpbnkkeplhgepaa.BO
open Go.RowKit Go.Law Go.Law.Bidi Ref
set_option linter.unusedVariables false
set_option linter.unusedSimpArgs false
set_option maxRecDepth 100000

theorem shown_any (n : Nat) (L : Nat → Int) (a : Option Addr) (c : Nat) (w : World) (ha : IntsF w a n L) (hn : n ≤ 100000) (hL : ∀ i, i < n → 0 ≤ L i ∧ L i ≤ 126) :
    Calls Try.prog 19 #[.slice a n c] w (ShownPost n L w) := by
  rcases Nat.eq_zero_or_pos n with h | h
  · subst h; exact shown_none L a c w
  · obtain ⟨b, off, rfl, hc⟩ := ha h
    exact shown_some n L b off c w hc h hn hL

/-- the first example -/
def L0 : Nat → Int := fun i => match i with | 0 => 0 | 1 => 1 | 2 => 1 | 3 => 2 | _ => 0
def G0 : Nat → Int := fun i => match i with | 0 => 0 | 1 => 3 | 2 => 2 | 3 => 1 | _ => 0
theorem L0_no {m : Nat} {f : Nat → Int} {j : Nat} (h : L0 j < (m : Int)) : ¬ byPlace L0 m f j := by unfold byPlace; omega
theorem L0_yes {m : Nat} {f : Nat → Int} {j : Nat} (h : (m : Int) ≤ L0 j) : byPlace L0 m f j := h
theorem first_passes {F : Nat → Int} (h : Passes (byPlace L0) 4 2 2 F) : ∀ i, i < 4 → F i = G0 i := by
  refine place_one h ⟨fun j => (j : Int), ⟨fun j => (j : Int), fun i _ => rfl, ?_⟩, ?_⟩
  · have s0 := PassTo.zero (byPlace L0 2 fun j => (j : Int)) 4 (fun j => (j : Int))
    have s1 := s0.skip (L0_no (by decide))
    have s2 := s1.skip (L0_no (by decide))
    have s3 := s2.skip (L0_no (by decide))
    have hr : Run (byPlace L0 2 fun j => (j : Int)) 4 3 4 := by
      refine ⟨by omega, by omega, fun j h1 h2 => ?_, .inr (L0_no (by decide)), .inl rfl⟩
      rw [show j = 3 by omega]
      exact L0_yes (by decide)
    refine (s3.turn (f'' := fun j => (j : Int)) hr (fun j hj => ?_)).done (by omega)
    split <;> omega
  · have s0 := PassTo.zero (byPlace L0 1 fun j => (j : Int)) 4 (fun j => (j : Int))
    have s1 := s0.skip (L0_no (by decide))
    have hr : Run (byPlace L0 1 fun j => (j : Int)) 4 1 4 := by
      refine ⟨by omega, by omega, fun j h1 h2 => ?_, .inr (L0_no (by decide)), .inl rfl⟩
      have : j = 1 ∨ j = 2 ∨ j = 3 := by omega
      rcases this with rfl | rfl | rfl <;> exact L0_yes (by decide)
    refine (s1.turn (f'' := G0) hr (fun j hj => ?_)).done (by omega)
    have : j = 0 ∨ j = 1 ∨ j = 2 ∨ j = 3 := by omega
    rcases this with rfl | rfl | rfl | rfl <;> rfl

set_option maxHeartbeats 4000000 in
theorem law_any (n : Nat) (L : Nat → Int) (a : Option Addr) (c : Nat) (w : World) (ha : IntsF w a n L) (hn : n ≤ 1000000000000000000) :
    Calls Try.prog 5 #[.slice a n c] w fun e w' => e = .returned (.bool true) ∧ Below w.heap.size w w' := by
  have HA := Lib.hid ha
  clear ha
  go_enter Try.func5, Try.ntmps5
  go_wp2_with fail
  refine (order_any 4 L0 _ _ _ ((OwnF.new 3 _ 4 L0 (by decide) (fun i hi => by
    have : i = 0 ∨ i = 1 ∨ i = 2 ∨ i = 3 := by omega
    rcases this with rfl | rfl | rfl | rfl <;> rfl)).ints) (by omega)).mono ?_
  rintro e w1 ⟨hb1, hyes, _⟩
  obtain ⟨g1, F1, rfl, hg1, hown1, hp1⟩ := hyes (fun i hi => by
    have : i = 0 ∨ i = 1 ∨ i = 2 ∨ i = 3 := by omega
    rcases this with rfl | rfl | rfl | rfl <;> decide)
  have hF1 := first_passes hp1
  have hs1 := hb1.size
  simp at hs1
  clear hp1 hyes
  go_wp2_with fail
  refine (same_any 4 4 F1 G0 _ _ _ _ _ (hown1.alloc _).ints ((OwnF.new 3 _ 4 G0 (by decide) (fun i hi => by
    have : i = 0 ∨ i = 1 ∨ i = 2 ∨ i = 3 := by omega
    rcases this with rfl | rfl | rfl | rfl <;> rfl)).ints) (by omega) (by omega)).mono ?_
  rintro e w2 ⟨rfl, hb2⟩
  rw [sameB_true.2 ⟨rfl, hF1⟩]
  have hs2 := hb2.size
  simp at hs2
  have hb12 : Below w.heap.size w w2 := ((((Below.refl _ _).alloc (Nat.le_refl _) _).trans (hb1.mono (by simp))).alloc (by omega) _).trans (hb2.mono (by simp; omega))
  clear hF1 hown1 hb1 hb2
  go_wp2_with fail
  by_cases hl : 100000 < n
  · refine (order_large n a c _ hl).mono ?_
    rintro e w3 ⟨rfl, hb3⟩
    go_wp2
    go_ret
    exact ⟨rfl, hb12.trans (hb3.mono (by omega))⟩
  · refine (order_any n L _ _ _ (HA.out.below (Nat.le_refl _) hb12) (by omega)).mono ?_
    rintro e w3 ⟨hb3, hyes, hno⟩
    have hs3 := hb3.size
    have hb13 : Below w.heap.size w w3 := hb12.trans (hb3.mono (by omega))
    have HC := Lib.hid (HA.out.below (Nat.le_refl _) hb13)
    by_cases hall : ∀ i, i < n → 0 ≤ L i ∧ L i ≤ 126
    · obtain ⟨g, F, rfl, hg, hown, hp⟩ := hyes hall
      have HL := Lib.hid hall
      clear hyes hno hb12 hb3 hall
      go_wp2
      go_loop [39] (fun ix => ∃ k : Nat, ix = .int .i64 k ∧ k ≤ n) (fun ix => n - (intOf ix).toNat)
      case atStart => exact ⟨0, rfl, by omega⟩
      case round =>
        obtain ⟨k, rfl, hk⟩ := hrel
        by_cases hkn : k < n
        · obtain ⟨b, off, rfl, hc⟩ := HC.out (by omega)
          have d1 := hc k hkn
          have d2 := inB_true.2 (HL.out k hkn)
          clear hc
          go_wp2_with (go_at_call 14; refine (in_any _ _ _ _).mono ?_; rintro e w4 ⟨rfl, rfl⟩)
          go_round
          case rel => exact ⟨k + 1, by go_num, by omega⟩
          case measure => simp [intOf]; omega
        · obtain rfl : k = n := by omega
          have HP := Lib.hid hp
          have HO := Lib.hid hown
          clear hp hown
          go_wp2_with fail
          refine (shown_any k L _ _ _ HC.out (by omega) HL.out).mono ?_
          rintro e w4 ⟨hb4, a2, c2, F2, rfl, hi2, hp2⟩
          have hs4 := hb4.size
          have HF := Lib.hid (place_one HP.out (what_place (Nat.le_refl _) hp2).1)
          clear hp2
          go_wp2_with fail
          refine (same_any k k F F2 _ _ _ _ _ (HO.out.below hb4 HO.out.lt).ints hi2 (by omega) (by omega)).mono ?_
          rintro e w5 ⟨rfl, hb5⟩
          rw [sameB_true.2 ⟨rfl, HF.out⟩]
          go_wp2_with fail
          go_ret
          exact ⟨rfl, (hb13.trans (hb4.mono (by omega))).trans (hb5.mono (by omega))⟩
    · have HL := Lib.hid hall
      obtain rfl := hno hall
      clear hyes hno hall
      go_wp2
      go_loop [39] (fun ix => ∃ k : Nat, ix = .int .i64 k ∧ k ≤ n ∧ ∀ j, j < k → 0 ≤ L j ∧ L j ≤ 126) (fun ix => n - (intOf ix).toNat)
      case atStart => exact ⟨0, rfl, by omega, fun j hj => by omega⟩
      case round =>
        obtain ⟨k, rfl, hk, hall⟩ := hrel
        have HK := Lib.hid hall
        clear hall
        by_cases hkn : k < n
        · obtain ⟨b, off, rfl, hc⟩ := HC.out (by omega)
          have d1 := hc k hkn
          clear hc
          by_cases hr : 0 ≤ L k ∧ L k ≤ 126
          · have d2 := inB_true.2 hr
            go_wp2_with (go_at_call 14; refine (in_any _ _ _ _).mono ?_; rintro e w4 ⟨rfl, rfl⟩)
            go_round
            case rel => exact ⟨k + 1, by go_num, by omega, fun j hj => by rcases Nat.lt_or_ge j k with h | h; exact HK.out j h; rw [show j = k by omega]; exact hr⟩
            case measure => simp [intOf]; omega
          · have d2 := inB_false.2 hr
            clear hr
            go_wp2_with (go_at_call 14; refine (in_any _ _ _ _).mono ?_; rintro e w4 ⟨rfl, rfl⟩)
            go_ret
            exact ⟨rfl, hb13⟩
        · obtain rfl : k = n := by omega
          exact absurd HK.out HL.out
end Go.Proofs.Ytpbnkkeplhgepaa.BO
