

/-
  State where it says no: the effects are wrong; the click or the time is out of range.
-/
import Derived.Test.YthddbinbeinafaaTlCheck
namespace Go.Proofs.Ythddbinbeinafaa.TL
open Go.RowKit Go.Law Go.Law.Tl Ref
set_option linter.unusedVariables false
set_option linter.unusedSimpArgs false
set_option maxRecDepth 100000
set_option maxHeartbeats 4000000 in
theorem state_bad (n : Nat) (L : Nat → Eff) (a : Option Addr) (c : Nat) (click at' : Int) (w : World) (ha : CellsF w a n 7 (fun i => (L i).V)) (hn : n ≤ 1000000000000000000) (hE : ¬ effsE n L = 0) :
    Calls Try.prog 6 #[.slice a n c, .int .i64 click, .int .i64 at'] w fun e w' => e = .returned (.tuple #[.slice none 0 0, .int .i64 (effsE n L)]) ∧ Below w.heap.size w w' := by
  have HA := Lib.hid ha
  obtain ⟨E, hEE⟩ : ∃ E, E = effsE n L := ⟨_, rfl⟩
  rw [← hEE] at hE
  rw [← hEE]
  have HE := Lib.hid hEE
  clear ha hEE
  go_enter Try.func6, Try.ntmps6
  go_wp2_with fail
  refine (check_any n L a c w HA.out hn).mono ?_
  rintro e w2 ⟨rfl, hb2⟩
  rw [← HE.out]
  have HB2 := Lib.hid hb2
  clear hb2
  go_wp2_with fail
  go_ret2
  exact ⟨rfl, HB2.out⟩
set_option maxHeartbeats 4000000 in
theorem state_range (n : Nat) (L : Nat → Eff) (a : Option Addr) (c : Nat) (click at' : Int) (w : World) (ha : CellsF w a n 7 (fun i => (L i).V)) (hn : n ≤ 1000000000000000000) (hE : effsE n L = 0) (hr : ¬ ((0 ≤ click ∧ click ≤ 200) ∧ (0 ≤ at' ∧ at' ≤ 10000000))) :
    Calls Try.prog 6 #[.slice a n c, .int .i64 click, .int .i64 at'] w fun e w' => e = .returned (.tuple #[.slice none 0 0, .int .i64 2]) ∧ Below w.heap.size w w' := by
  have HA := Lib.hid ha
  have HE := Lib.hid hE
  clear ha hE
  go_enter Try.func6, Try.ntmps6
  go_wp2_with fail
  refine (check_any n L a c w HA.out hn).mono ?_
  rintro e w2 ⟨rfl, hb2⟩
  rw [HE.out]
  have HB2 := Lib.hid hb2
  clear hb2
  by_cases h1 : click < 0
  · clear hr
    go_wp2_with fail
    go_ret2
    exact ⟨rfl, HB2.out⟩
  by_cases h2 : 200 < click
  · clear hr
    go_wp2_with fail
    go_ret2
    exact ⟨rfl, HB2.out⟩
  by_cases h3 : at' < 0
  · clear hr
    go_wp2_with fail
    go_ret2
    exact ⟨rfl, HB2.out⟩
  have h4 : 10000000 < at' := by omega
  clear hr
  go_wp2_with fail
  go_ret2
  exact ⟨rfl, HB2.out⟩
end Go.Proofs.Ythddbinbeinafaa.TL
