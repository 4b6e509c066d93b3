
/-
  The reference's In, Small and WordChar; within; pattern.holds and Word.
-/
import Derived.Test.YtpbnkkeplhgepaaDoorDoorLower
namespace Go.Proofs.YtpbnkkeplhgepaaDoor.PC
open Go.RowKit Go.Law
set_option linter.unusedVariables false
set_option linter.unusedSimpArgs false
set_option maxRecDepth 100000
theorem retI {a b : Int} (h : a = b) : Ending.returned (.int .i64 a) = .returned (.int .i64 b) := by rw [h]
theorem retB {a b : Bool} (h : a = b) : Ending.returned (.bool a) = .returned (.bool b) := by rw [h]
theorem in_any (n lo hi : Int) (w : World) : Calls Tryd.prog 14 #[.int .i64 n, .int .i64 lo, .int .i64 hi] w fun e w' => e = .returned (.bool (decide (lo ≤ n ∧ n ≤ hi))) ∧ w = w' := by
  go_enter Tryd.func14, Tryd.ntmps14
  go_wp2
  all_goals
    go_ret
    refine ⟨retB ?_, rfl⟩
    rw [Bool.eq_iff_iff]
    simp
    omega
def small (c : Int) : Int :=
  if (65 ≤ c ∧ c ≤ 90) ∨ (192 ≤ c ∧ c ≤ 214) ∨ (216 ≤ c ∧ c ≤ 222) ∨ (913 ≤ c ∧ c ≤ 929) ∨ (931 ≤ c ∧ c ≤ 937) ∨ (1040 ≤ c ∧ c ≤ 1071) then c + 32 else if 1024 ≤ c ∧ c ≤ 1039 then c + 80 else c
set_option maxHeartbeats 1000000 in
theorem small_any (c : Int) (w : World) : Calls Tryd.prog 8 #[.int .i64 c] w fun e w' => e = .returned (.int .i64 (small c)) ∧ w = w' := by
  go_enter Tryd.func8, Tryd.ntmps8
  go_wp2_with (go_at_call 14; refine (in_any _ _ _ _).mono ?_; rintro e w3 ⟨rfl, rfl⟩)
  all_goals
    go_ret
    refine ⟨retI ?_, rfl⟩
    unfold small
    (repeat' split) <;> first | rfl | omega
def wordC (c : Int) : Bool := decide ((48 ≤ c ∧ c ≤ 57) ∨ (65 ≤ c ∧ c ≤ 90) ∨ (97 ≤ c ∧ c ≤ 122) ∨ c = 95 ∨ (192 ≤ c ∧ c ≤ 591) ∨ (880 ≤ c ∧ c ≤ 1535))
set_option maxHeartbeats 1000000 in
theorem wordC_any (c : Int) (w : World) : Calls Tryd.prog 9 #[.int .i64 c] w fun e w' => e = .returned (.bool (wordC c)) ∧ w = w' := by
  go_enter Tryd.func9, Tryd.ntmps9
  go_wp2_with (go_at_call 14; refine (in_any _ _ _ _).mono ?_; rintro e w3 ⟨rfl, rfl⟩)
  all_goals
    go_ret
    refine ⟨retB ?_, rfl⟩
    unfold wordC
    rw [Bool.eq_iff_iff]
    simp
    try omega
theorem within_any (x lo hi : Int) (w : World) (h1 : 0 ≤ lo) (h2 : lo ≤ hi) (h3 : hi ≤ 1000000000) :
    Calls Tryd.prog 7 #[.int .i64 x, .int .i64 lo, .int .i64 hi] w fun e w' => ∃ r, e = .returned (.int .i64 r) ∧ w = w' ∧ lo ≤ r ∧ r ≤ hi := by
  obtain ⟨m, hm⟩ : ∃ m, hi - lo + 1 = m := ⟨_, rfl⟩
  have b1 := Int.tmod_lt_of_pos x (show 0 < m by omega)
  have b2 : -m < x.tmod m := by
    have := Int.tmod_lt_of_pos (-x) (show 0 < m by omega)
    rw [Int.neg_tmod] at this; omega
  obtain ⟨t, ht⟩ : ∃ t, x.tmod m = t := ⟨_, rfl⟩
  rw [ht] at b1 b2
  have hm0 : 1 ≤ m ∧ m ≤ 1000000001 := by omega
  have b3 : 0 ≤ t + m := by omega
  have hh : hi = lo + m - 1 := by omega
  have HH := Lib.hid hh
  have b4 := Int.emod_nonneg t (show m ≠ 0 by omega)
  have b5 := Int.emod_lt_of_pos t (show 0 < m by omega)
  clear hh
  go_enter Tryd.func7, Tryd.ntmps7
  go_wp2
  go_ret
  exact ⟨lo + t % m, rfl, rfl, by omega, by have := HH.out; omega⟩
def word (c : Int) : Bool := (findR lettersT c).isSome
theorem letters_len : ∀ r ∈ lettersT, r.length = 2 := by decide
theorem letters_bd : ∀ i, i < 6 → (0 ≤ ent lettersT i 0 ∧ ent lettersT i 1 ≤ 2000) := by decide
set_option maxHeartbeats 2000000 in
theorem word_any (c : Int) (w : World) (ht : TabAt w 1 2 lettersT) :
    Calls Tryd.prog 6 #[.int .i64 c] w fun e w' => e = .returned (.bool (word c)) ∧ Below w.heap.size w w' := by
  obtain ⟨b, off, cap, h1, h2⟩ := ht.ents letters_len
  rw [show lettersT.length = 6 from rfl] at h1 h2
  have HT := Lib.hid h2
  clear h2
  go_enter Tryd.func6, Tryd.ntmps6
  go_wp2_with fail
  go_enter Tryd.func16, Tryd.ntmps16
  go_wp2
  go_loopw [10] (fun ix wr => ∃ k : Nat, ix = .int .i64 k ∧ k ≤ 6 ∧ (∀ j, j < k → hit lettersT c j = false) ∧ wr.cell? ⟨w.heap.size, 1, none⟩ = some (.bool false) ∧ Below w.heap.size w wr ∧ w.heap.size < wr.heap.size) (fun ix _ => 6 - (intOf ix).toNat)
  case atStart => exact ⟨0, rfl, by omega, fun j hj => by omega, by simp, (Below.refl _ _).alloc (Nat.le_refl _) _, by simp⟩
  case round =>
    obtain ⟨k, rfl, hk, hno, hnot, hbel, hsz⟩ := hrel
    have HN := Lib.hid hno
    clear hno
    by_cases hk7 : k < 6
    · have d0 := (hbel.cell (lt_of_cell (HT.out k 0 hk7 (by omega)))).trans (HT.out k 0 hk7 (by omega))
      have d1 := (hbel.cell (lt_of_cell (HT.out k 1 hk7 (by omega)))).trans (HT.out k 1 hk7 (by omega))
      rw [Nat.add_zero] at d0
      have hbd := letters_bd k hk7
      obtain ⟨x, hx⟩ : ∃ x, x = ent lettersT k 0 := ⟨_, rfl⟩
      obtain ⟨y, hy⟩ : ∃ y, y = ent lettersT k 1 := ⟨_, rfl⟩
      have HH := Lib.hid (show hit lettersT c k = decide (x ≤ c ∧ c ≤ y) by rw [hx, hy]; rfl)
      rw [← hx] at d0 hbd
      rw [← hy] at d1 hbd
      clear hx hy
      by_cases hc : x ≤ c ∧ c ≤ y
      · have HL := Lib.hid (show word c = true by unfold word; rw [findR_some (T := lettersT) (k := k) hk7 HN.out (by rw [HH.out]; simpa using hc)]; rfl)
        go_wp2_with fail
        go_ret
        refine ⟨by rw [HL.out]; rfl, ?_⟩
        repeat' (with_reducible first | exact Below.refl _ _ | assumption | refine Below.setCell ?_ ?_ _ | refine Below.alloc ?_ ?_ _ | refine below_drewN ?_ _ | refine Below.drew ?_)
        all_goals first | omega | (simp; done) | (simp; omega)
      · have HC := Lib.hid hc
        clear hc
        go_wp2_with fail
        all_goals first | (exfalso; have := HC.out; omega) | skip
        all_goals
          go_roundw
          case rel =>
            refine ⟨k + 1, by go_num, by omega, fun j hj => ?_, ?_, ?_, ?_⟩
            · rcases Nat.lt_or_ge j k with h | h
              · exact HN.out j h
              · rw [show j = k by omega, HH.out]; simpa using HC.out
            · simp [World.cell?_alloc_past, hsz, hnot]
            · repeat' (with_reducible first | exact Below.refl _ _ | assumption | refine Below.setCell ?_ ?_ _ | refine Below.alloc ?_ ?_ _ | refine below_drewN ?_ _ | refine Below.drew ?_)
              all_goals first | omega | (simp; done) | (simp; omega)
            · simp; omega
          case measure => simp [intOf]; omega
    · obtain rfl : k = 6 := by omega
      have HL := Lib.hid (show word c = false by unfold word; rw [findR_none (T := lettersT) HN.out]; rfl)
      go_wp2_with fail
      go_ret
      exact ⟨by rw [HL.out]; rfl, hbel⟩
end Go.Proofs.YtpbnkkeplhgepaaDoor.PC
