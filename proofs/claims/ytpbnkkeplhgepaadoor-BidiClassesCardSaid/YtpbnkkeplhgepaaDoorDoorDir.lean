
/-
  The reference's Direction.
-/
import Derived.Test.YtpbnkkeplhgepaaDoorDoorSmall
import Derived.Test.YtpbnkkeplhgepaaDoorDoorDirT
namespace Go.Proofs.YtpbnkkeplhgepaaDoor.PC
open Go.RowKit Go.Law
set_option linter.unusedVariables false
set_option linter.unusedSimpArgs false
set_option maxRecDepth 100000
def flatA : List Int := dirAT.flatMap fun r => r
theorem flat_at : ∀ i, i < 19 → ∀ j, j < 3 → flatA.getD (i * 3 + j) 0 = ent dirAT i j := by decide
theorem flat_len : flatA.length = 57 := by decide
set_option maxHeartbeats 4000000 in
theorem dir_any (c : Int) (w : World) :
    Calls Tryd.prog 13 #[.int .i64 c] w fun e w' => e = .returned (.int .i64 (lookR c (dirAT ++ dirST))) ∧ Below w.heap.size w w' := by
  go_enter Tryd.func13, Tryd.ntmps13
  go_wp2
  go_loopw [26] (fun ix wr => ∃ k : Nat, ix = .int .i64 k ∧ k ≤ 19 ∧ (∀ j, j < k → hit dirAT c j = false) ∧ Below (w.heap.size + 1) (w.alloc (.cells (flatA.map (Value.int .i64)).toArray 41)) wr) (fun ix _ => 19 - (intOf ix).toNat)
  case atStart => exact ⟨0, rfl, by omega, fun j hj => by omega, Below.refl _ _⟩
  case round =>
    obtain ⟨k, rfl, hk, hno, hbel⟩ := hrel
    have HN := Lib.hid hno
    clear hno
    have hsz := hbel.size
    simp at hsz
    by_cases hk7 : k < 19
    · have dd : ∀ j, j < 3 → wr.cell? ⟨w.heap.size, k * 3 + j, none⟩ = some (.int .i64 (ent dirAT k j)) := by
        intro j hj
        rw [hbel.cell (show w.heap.size < w.heap.size + 1 by omega), World.cell?_alloc_new, ← flat_at k hk7 j hj]
        have : k * 3 + j < flatA.length := by rw [flat_len]; omega
        simp [this]
      have d0 := dd 0 (by omega)
      have d1 := dd 1 (by omega)
      have d2 := dd 2 (by omega)
      rw [Nat.add_zero] at d0
      clear dd
      obtain ⟨x, hx⟩ : ∃ x, x = ent dirAT k 0 := ⟨_, rfl⟩
      obtain ⟨y, hy⟩ : ∃ y, y = ent dirAT k 1 := ⟨_, rfl⟩
      obtain ⟨z, hz⟩ : ∃ z, z = ent dirAT k 2 := ⟨_, rfl⟩
      have HH := Lib.hid (show hit dirAT c k = decide (x ≤ c ∧ c ≤ y) by rw [hx, hy]; rfl)
      rw [← hx] at d0
      rw [← hy] at d1
      rw [← hz] at d2
      have HZ := Lib.hid hz
      clear hx hy hz
      have hbw : Below w.heap.size w wr := ((Below.refl _ _).alloc (Nat.le_refl _) _).trans (hbel.mono (by omega))
      by_cases hc : x ≤ c ∧ c ≤ y
      · have HL := Lib.hid (show lookR c (dirAT ++ dirST) = z by rw [lookR_hit_append c dirAT dirST k hk7 HN.out (by rw [HH.out]; simpa using hc), HZ.out])
        have hcd : decide (x ≤ c ∧ c ≤ y) = true := by simpa using hc
        go_wp2_with (go_at_call 14; refine (in_any _ _ _ _).mono ?_; rintro e w3 ⟨rfl, rfl⟩)
        go_ret
        refine ⟨by rw [HL.out]; rfl, ?_⟩
        repeat' (with_reducible first | exact Below.refl _ _ | assumption | refine Below.setCell ?_ ?_ _ | refine Below.alloc ?_ ?_ _ | refine below_drewN ?_ _ | refine Below.drew ?_)
        all_goals first | omega | (simp; done) | (simp; omega)
      · have hcd : decide (x ≤ c ∧ c ≤ y) = false := by simpa using hc
        have HC := Lib.hid hc
        clear hc
        go_wp2_with (go_at_call 14; refine (in_any _ _ _ _).mono ?_; rw [hcd]; rintro e w3 ⟨rfl, rfl⟩)
        go_roundw
        case rel =>
          refine ⟨k + 1, by go_num, by omega, fun j hj => ?_, ?_⟩
          · rcases Nat.lt_or_ge j k with h | h
            · exact HN.out j h
            · rw [show j = k by omega, HH.out]; simpa using HC.out
          · repeat' (with_reducible first | exact Below.refl _ _ | assumption | refine Below.setCell ?_ ?_ _ | refine Below.alloc ?_ ?_ _ | refine below_drewN ?_ _ | refine Below.drew ?_)
            all_goals first | omega | (simp; done) | (simp; omega)
        case measure => simp [intOf]; omega
    · obtain rfl : k = 19 := by omega
      have HL := Lib.hid (lookR_append c dirAT dirST HN.out)
      have hbw : Below w.heap.size w wr := ((Below.refl _ _).alloc (Nat.le_refl _) _).trans (hbel.mono (by omega))
      clear hbel hsz
      have hne : ∀ v : Int, (c < v ∨ v < c) = ¬ (c = v) := fun v => by
        apply propext; omega
      have HE := Lib.hid hne
      clear hne
      go_wp2_with (go_at_call 14; refine (in_any _ _ _ _).mono ?_; rintro e w3 ⟨rfl, rfl⟩)
      all_goals
        go_ret
        refine ⟨retI ?_, hbw⟩
        rw [HL.out]
        clear HL HN
        go_tidy
        have e := HE.out
        try simp only [beq_iff_eq, beq_eq_false_iff_ne, ne_eq] at *
        try simp only [← Int.not_lt, ← not_or] at *
        simp only [dirST, lookR, List.getD_cons_zero, List.getD_cons_succ, e]
        simp [*]
end Go.Proofs.YtpbnkkeplhgepaaDoor.PC
