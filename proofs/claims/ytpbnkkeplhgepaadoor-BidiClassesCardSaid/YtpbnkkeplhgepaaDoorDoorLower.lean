
/-
  pattern.Lower goes through its table.
-/
import Derived.Test.YtpbnkkeplhgepaaDoorProg
import Derived.Test.YtpbnkkeplhgepaaDoorDoorTabs
import Derived.WalkLawsBesides
import Derived.Lib.Hide
import Derived.Deep.QuietTactic
import Derived.BigQuiet
namespace Go.Proofs.YtpbnkkeplhgepaaDoor.PC
open Go.RowKit Go.Law
set_option linter.unusedVariables false
set_option linter.unusedSimpArgs false
set_option maxRecDepth 100000
def low (c : Int) : Int := match findR casesT c with | some i => c + ent casesT i 2 | none => c
theorem cases_len : ∀ r ∈ casesT, r.length = 3 := by decide
theorem cases_bd : ∀ i, i < 7 → (0 ≤ ent casesT i 0 ∧ ent casesT i 1 ≤ 2000 ∧ 0 ≤ ent casesT i 2 ∧ ent casesT i 2 ≤ 100) := by decide
set_option maxHeartbeats 1000000 in
theorem lower_any (c : Int) (w : World) (ht : TabAt w 0 3 casesT) :
    Calls Tryd.prog 5 #[.int .i64 c] w fun e w' => e = .returned (.int .i64 (low c)) ∧ Below w.heap.size w w' := by
  obtain ⟨b, off, cap, h1, h2⟩ := ht.ents cases_len
  rw [show casesT.length = 7 from rfl] at h1 h2
  have HT := Lib.hid h2
  clear h2
  go_enter Tryd.func5, Tryd.ntmps5
  go_wp2
  go_loopw [7] (fun ix wr => ∃ k : Nat, ix = .int .i64 k ∧ k ≤ 7 ∧ (∀ j, j < k → hit casesT c j = false) ∧ Below w.heap.size w wr) (fun ix _ => 7 - (intOf ix).toNat)
  case atStart => exact ⟨0, rfl, by omega, fun j hj => by omega, Below.refl _ _⟩
  case round =>
    obtain ⟨k, rfl, hk, hno, hbel⟩ := hrel
    have HN := Lib.hid hno
    clear hno
    by_cases hk7 : k < 7
    · have d0 := (hbel.cell (lt_of_cell (HT.out k 0 hk7 (by omega)))).trans (HT.out k 0 hk7 (by omega))
      have d1 := (hbel.cell (lt_of_cell (HT.out k 1 hk7 (by omega)))).trans (HT.out k 1 hk7 (by omega))
      have d2 := (hbel.cell (lt_of_cell (HT.out k 2 hk7 (by omega)))).trans (HT.out k 2 hk7 (by omega))
      rw [Nat.add_zero] at d0
      have hsz := hbel.size
      have hbd := cases_bd k hk7
      obtain ⟨x, hx⟩ : ∃ x, x = ent casesT k 0 := ⟨_, rfl⟩
      obtain ⟨y, hy⟩ : ∃ y, y = ent casesT k 1 := ⟨_, rfl⟩
      obtain ⟨z, hz⟩ : ∃ z, z = ent casesT k 2 := ⟨_, rfl⟩
      have HH := Lib.hid (show hit casesT c k = decide (x ≤ c ∧ c ≤ y) by rw [hx, hy]; rfl)
      rw [← hx] at d0 hbd
      rw [← hy] at d1 hbd
      rw [← hz] at d2 hbd
      have HZ := Lib.hid hz
      clear hx hy hz
      by_cases hc : x ≤ c ∧ c ≤ y
      · have HL := Lib.hid (show low c = c + z by unfold low; rw [findR_some (T := casesT) (k := k) hk7 HN.out (by rw [HH.out]; simpa using hc), HZ.out])
        go_wp2
        go_ret
        refine ⟨by rw [HL.out]; rfl, ?_⟩
        repeat' (with_reducible first | exact Below.refl _ _ | assumption | refine Below.setCell ?_ ?_ _ | refine Below.alloc ?_ ?_ _ | refine below_drewN ?_ _ | refine Below.drew ?_)
        all_goals first | omega | (simp; done) | (simp; omega)
      · have HC := Lib.hid hc
        clear hc
        go_wp2
        all_goals first | (exfalso; have := HC.out; omega) | skip
        all_goals
          go_roundw
          case rel =>
            refine ⟨k + 1, by go_num, by omega, fun j hj => ?_, ?_⟩
            · rcases Nat.lt_or_ge j k with h | h
              · exact HN.out j h
              · rw [show j = k by omega, HH.out]; simpa using HC.out
            · repeat' (with_reducible first | exact Below.refl _ _ | assumption | refine Below.setCell ?_ ?_ _ | refine Below.alloc ?_ ?_ _ | refine below_drewN ?_ _ | refine Below.drew ?_)
              all_goals first | omega | (simp; done) | (simp; omega)
          case measure => simp [intOf]; omega
    · obtain rfl : k = 7 := by omega
      have HL := Lib.hid (show low c = c by unfold low; rw [findR_none (T := casesT) HN.out])
      go_wp2
      go_ret
      exact ⟨by rw [HL.out]; rfl, hbel⟩
end Go.Proofs.YtpbnkkeplhgepaaDoor.PC
