
/-
  What is checked of looks and of texts.
-/
import Derived.Test.YtnigebnibikolaaDoorMeNear
namespace Go.Proofs.YtnigebnibikolaaDoor.ME
open Go.RowKit Go.Law Go.Law.Me Ref
set_option linter.unusedVariables false
set_option linter.unusedSimpArgs false
set_option maxRecDepth 100000
def lookE (k : Look) : Int := if 40 ≤ k.size ∧ k.size ≤ 4000 then 0 else 2
theorem lookE_ok {k : Look} (h : k.ok) : lookE k = 0 := by unfold lookE; rw [if_pos (show 40 ≤ k.size ∧ k.size ≤ 4000 from h)]
theorem lookE_bad {k : Look} (h : ¬ k.ok) : lookE k = 2 := by unfold lookE; rw [if_neg (show ¬ (40 ≤ k.size ∧ k.size ≤ 4000) from h)]
theorem lookE_zero {k : Look} (h : lookE k = 0) : k.ok := by
  by_cases h1 : k.ok
  · exact h1
  · rw [lookE_bad h1] at h; omega
def okText (n : Nat) (t : Nat → Int) : Prop := ∀ i, i < n → 0 ≤ t i ∧ t i ≤ 1114111
open Classical in
noncomputable def charsE (n : Nat) (t : Nat → Int) : Int := if okText n t then 0 else 2
theorem charsE_ok {n : Nat} {t : Nat → Int} (h : okText n t) : charsE n t = 0 := by unfold charsE; rw [if_pos h]
theorem charsE_bad {n : Nat} {t : Nat → Int} (h : ¬ okText n t) : charsE n t = 2 := by unfold charsE; rw [if_neg h]
theorem charsE_zero {n : Nat} {t : Nat → Int} (h : charsE n t = 0) : okText n t := by
  by_cases h1 : okText n t
  · exact h1
  · rw [charsE_bad h1] at h; omega
theorem check_any (k : Look) (w : World) : Calls Tryd.prog 22 #[lookV k] w fun e w' => e = .returned (.int .i64 (lookE k)) ∧ Below w.heap.size w w' := by
  obtain ⟨s, bold, fixed⟩ := k
  unfold lookV
  have hV := show lookE ⟨s, bold, fixed⟩ = if 40 ≤ s ∧ s ≤ 4000 then 0 else 2 from rfl
  obtain ⟨V, hE⟩ : ∃ V, V = lookE ⟨s, bold, fixed⟩ := ⟨_, rfl⟩
  rw [← hE] at hV ⊢
  have HV := Lib.hid hV
  have hb0 := Kept.start w s bold fixed 37
  clear hV hE
  by_cases h : 40 ≤ s ∧ s ≤ 4000
  · have HE := Lib.hid (show V = 0 by rw [HV.out, if_pos h])
    have i1 : inR s (40, 4000) = true := inR_true.2 h
    obtain ⟨h1, h2⟩ := h
    go_enter Tryd.func22, Tryd.ntmps22
    go_wp2_with (fail)
    go_ret
    exact ⟨by rw [HE.out]; rfl, hb0.1⟩
  · have HE := Lib.hid (show V = 2 by rw [HV.out, if_neg h])
    have i1 : inR s (40, 4000) = false := inR_false.2 h
    have h' : s < 40 ∨ 4000 < s := by omega
    clear h
    rcases h' with h | h
    · go_enter Tryd.func22, Tryd.ntmps22
      go_wp2_with (fail)
      go_ret
      exact ⟨by rw [HE.out]; rfl, hb0.1⟩
    · have h2 : ¬ s < 40 := by omega
      go_enter Tryd.func22, Tryd.ntmps22
      go_wp2_with (fail)
      go_ret
      exact ⟨by rw [HE.out]; rfl, hb0.1⟩
theorem lookError_any (k : Look) (w : World) : Calls Tryd.prog 21 #[lookV k] w fun e w' => e = .returned (.int .i64 (lookE k)) ∧ Below w.heap.size w w' := by
  obtain ⟨s, bold, fixed⟩ := k
  unfold lookV
  have hV := show lookE ⟨s, bold, fixed⟩ = if 40 ≤ s ∧ s ≤ 4000 then 0 else 2 from rfl
  obtain ⟨V, hE⟩ : ∃ V, V = lookE ⟨s, bold, fixed⟩ := ⟨_, rfl⟩
  rw [← hE] at hV ⊢
  have HV := Lib.hid hV
  have hb0 := Kept.start w s bold fixed 37
  clear hV hE
  by_cases h : 40 ≤ s ∧ s ≤ 4000
  · have HE := Lib.hid (show V = 0 by rw [HV.out, if_pos h])
    have i1 : inR s (40, 4000) = true := inR_true.2 h
    obtain ⟨h1, h2⟩ := h
    go_enter Tryd.func21, Tryd.ntmps21
    go_wp2_with (go_at_call 27; refine (in_r _ _ _ _).mono ?_; rw [i1]; rintro e w3 ⟨rfl, rfl⟩)
    go_ret
    exact ⟨by rw [HE.out]; rfl, hb0.1⟩
  · have HE := Lib.hid (show V = 2 by rw [HV.out, if_neg h])
    have i1 : inR s (40, 4000) = false := inR_false.2 h
    have h' : s < 40 ∨ 4000 < s := by omega
    clear h
    rcases h' with h | h
    · go_enter Tryd.func21, Tryd.ntmps21
      go_wp2_with (go_at_call 27; refine (in_r _ _ _ _).mono ?_; rw [i1]; rintro e w3 ⟨rfl, rfl⟩)
      go_ret
      exact ⟨by rw [HE.out]; rfl, hb0.1⟩
    · have h2 : ¬ s < 40 := by omega
      go_enter Tryd.func21, Tryd.ntmps21
      go_wp2_with (go_at_call 27; refine (in_r _ _ _ _).mono ?_; rw [i1]; rintro e w3 ⟨rfl, rfl⟩)
      go_ret
      exact ⟨by rw [HE.out]; rfl, hb0.1⟩
set_option maxHeartbeats 2000000 in
theorem charsError_any (n : Nat) (t : Nat → Int) (a : Option Addr) (c : Nat) (w : World) (ha : IntsF w a n t) (hn : n ≤ 1000000000000000000) :
    Calls Tryd.prog 16 #[.slice a n c] w fun e w' => e = .returned (.int .i64 (charsE n t)) ∧ w = w' := by
  have HA := Lib.hid ha
  have HBAD := Lib.hid (@charsE_bad n t)
  have HOK := Lib.hid (@charsE_ok n t)
  unfold okText at *
  obtain ⟨V, hV⟩ : ∃ V, V = charsE n t := ⟨_, rfl⟩
  rw [← hV] at HBAD HOK ⊢
  clear hV ha
  go_enter Tryd.func16, Tryd.ntmps16
  go_wp2_with fail
  go_loopw [7] (fun ix wr => ∃ k : Nat, ix = .int .i64 k ∧ k ≤ n ∧ (∀ i, i < k → 0 ≤ t i ∧ t i ≤ 1114111) ∧ w = wr) (fun ix _ => n - (intOf ix).toNat)
  case atStart => exact ⟨0, rfl, by omega, fun i hi => by omega, rfl⟩
  case round =>
    obtain ⟨k, rfl, hk, hall, rfl⟩ := hrel
    have HALL := Lib.hid hall
    clear hall
    by_cases hkn : k < n
    · obtain ⟨b, off, rfl, hcell⟩ := HA.out (by omega)
      have d1 := hcell k hkn
      clear hcell
      by_cases hr : 0 ≤ t k ∧ t k ≤ 1114111
      · have i1 : inR (t k) (0, 1114111) = true := inR_true.2 hr
        have HR := Lib.hid hr
        obtain ⟨hr1, hr2⟩ := hr
        go_wp2_with (go_at_call 27; refine (in_r _ _ _ _).mono ?_; rw [i1]; rintro e w3 ⟨rfl, rfl⟩)
        go_roundw
        case rel => exact ⟨k + 1, by go_num, by omega, fun i hi => by rcases Nat.lt_or_ge i k with h | h; exact HALL.out i h; rw [show i = k by omega]; exact HR.out, trivial⟩
        case measure => simp [intOf]; omega
      · have HE := Lib.hid (HBAD.out (fun h => hr (h k hkn)))
        have i1 : inR (t k) (0, 1114111) = false := inR_false.2 hr
        have h' : t k < 0 ∨ 1114111 < t k := by omega
        clear hr
        rcases h' with h | h
        · go_wp2_with (go_at_call 27; refine (in_r _ _ _ _).mono ?_; rw [i1]; rintro e w3 ⟨rfl, rfl⟩)
          go_ret
          exact ⟨by rw [HE.out]; rfl, rfl⟩
        · have h2 : ¬ t k < 0 := by omega
          go_wp2_with (go_at_call 27; refine (in_r _ _ _ _).mono ?_; rw [i1]; rintro e w3 ⟨rfl, rfl⟩)
          go_ret
          exact ⟨by rw [HE.out]; rfl, rfl⟩
    · obtain rfl : n = k := by omega
      have HE := Lib.hid (HOK.out HALL.out)
      go_wp2_with fail
      go_ret
      exact ⟨by rw [HE.out]; rfl, rfl⟩
noncomputable def textE (n : Nat) (t : Nat → Int) : Int := if 178956 < n then 3 else charsE n t
set_option maxHeartbeats 2000000 in
theorem checkText_any (n : Nat) (t : Nat → Int) (a : Option Addr) (c : Nat) (w : World) (ha : IntsF w a n t) (hn : n ≤ 178956) :
    Calls Tryd.prog 46 #[.slice a n c] w fun e w' => e = .returned (.int .i64 (charsE n t)) ∧ w = w' := by
  have HA := Lib.hid ha
  have HBAD := Lib.hid (@charsE_bad n t)
  have HOK := Lib.hid (@charsE_ok n t)
  unfold okText at *
  obtain ⟨V, hV⟩ : ∃ V, V = charsE n t := ⟨_, rfl⟩
  rw [← hV] at HBAD HOK ⊢
  clear hV ha
  go_enter Tryd.func46, Tryd.ntmps46
  go_wp2_with fail
  go_loopw [10] (fun ix wr => ∃ k : Nat, ix = .int .i64 k ∧ k ≤ n ∧ (∀ i, i < k → 0 ≤ t i ∧ t i ≤ 1114111) ∧ w = wr) (fun ix _ => n - (intOf ix).toNat)
  case atStart => exact ⟨0, rfl, by omega, fun i hi => by omega, rfl⟩
  case round =>
    obtain ⟨k, rfl, hk, hall, rfl⟩ := hrel
    have HALL := Lib.hid hall
    clear hall
    by_cases hkn : k < n
    · obtain ⟨b, off, rfl, hcell⟩ := HA.out (by omega)
      have d1 := hcell k hkn
      clear hcell
      by_cases hr : 0 ≤ t k ∧ t k ≤ 1114111
      · have i1 : inR (t k) (0, 1114111) = true := inR_true.2 hr
        have HR := Lib.hid hr
        obtain ⟨hr1, hr2⟩ := hr
        go_wp2_with (fail)
        go_roundw
        case rel => exact ⟨k + 1, by go_num, by omega, fun i hi => by rcases Nat.lt_or_ge i k with h | h; exact HALL.out i h; rw [show i = k by omega]; exact HR.out, trivial⟩
        case measure => simp [intOf]; omega
      · have HE := Lib.hid (HBAD.out (fun h => hr (h k hkn)))
        have i1 : inR (t k) (0, 1114111) = false := inR_false.2 hr
        have h' : t k < 0 ∨ 1114111 < t k := by omega
        clear hr
        rcases h' with h | h
        · go_wp2_with (fail)
          go_ret
          exact ⟨by rw [HE.out]; rfl, rfl⟩
        · have h2 : ¬ t k < 0 := by omega
          go_wp2_with (fail)
          go_ret
          exact ⟨by rw [HE.out]; rfl, rfl⟩
    · obtain rfl : n = k := by omega
      have HE := Lib.hid (HOK.out HALL.out)
      go_wp2_with fail
      go_ret
      exact ⟨by rw [HE.out]; rfl, rfl⟩
end Go.Proofs.YtnigebnibikolaaDoor.ME
