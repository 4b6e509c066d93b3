
/-
  The reference's SameInts compares two rows of ints.
-/
import Derived.Test.YtabnohphgegflaaProg
import Derived.Test.YtabnohphgegflaaOwn
import Derived.WalkLawsBesides
import Derived.Lib.Hide
import Derived.Deep.QuietTactic
import Derived.BigQuiet
namespace Go.Proofs.Ytabnohphgegflaa.Ref
open Go.RowKit Go.Law
set_option linter.unusedVariables false
set_option linter.unusedSimpArgs false
set_option maxRecDepth 100000
def sameB (n m : Nat) (f g : Nat → Int) : Bool := decide (n = m) && (List.range n).all fun i => f i == g i
theorem sameB_true {n m : Nat} {f g : Nat → Int} : sameB n m f g = true ↔ n = m ∧ ∀ i, i < n → f i = g i := by
  simp [sameB]
theorem sameB_no {n m : Nat} {f g : Nat → Int} (h : n ≠ m) : sameB n m f g = false := by simp [sameB, h]
theorem sameB_part {n : Nat} {f g : Nat → Int} {i : Nat} (hi : i < n) (h : f i ≠ g i) : sameB n n f g = false := by
  cases hb : sameB n n f g
  · rfl
  · exact absurd ((sameB_true.1 hb).2 i hi) h
set_option maxHeartbeats 1000000 in
theorem same_any (n m : Nat) (f g : Nat → Int) (a b : Option Addr) (ca cb : Nat) (w : World) (ha : IntsF w a n f) (hb : IntsF w b m g) (hn : n ≤ 9223372036854775806) (hm : m ≤ 9223372036854775806) :
    Calls Try.prog 14 #[.slice a n ca, .slice b m cb] w fun e w' => e = .returned (.bool (sameB n m f g)) ∧ Below w.heap.size w w' := by
  by_cases hnm : n = m
  · subst hnm
    have hd : ((n : Int) != (n : Int)) = false := by simp
    by_cases h0 : n = 0
    · have H := Lib.hid (show sameB n n f g = true by rw [sameB_true]; exact ⟨rfl, fun i hi => by omega⟩)
      subst h0
      go_enter Try.func14, Try.ntmps14
      go_wp2
      refine wp_loop_rounds 1 ?_
      rw [rounds_succ]
      go_wp2
      go_ret
      exact ⟨by rw [H.out]; rfl, Below.refl _ _⟩
    · obtain ⟨b1, o1, rfl, hc1⟩ := ha (by omega)
      obtain ⟨b2, o2, rfl, hc2⟩ := hb (by omega)
      go_enter Try.func14, Try.ntmps14
      go_wp2
      go_loopw [13] (fun i wr => ∃ k : Nat, i = .int .i64 k ∧ k ≤ n ∧ (∀ j, j < k → f j = g j) ∧ Below w.heap.size w wr) (fun i _ => n - (intOf i).toNat)
      case atStart => exact ⟨0, rfl, by omega, fun j hj => by omega, Below.refl _ _⟩
      case round =>
        obtain ⟨k, rfl, hk, hall, hbel⟩ := hrel
        have HA := Lib.hid hall
        clear hall
        by_cases hkn : k < n
        · have d1 : wr.cell? ⟨b1, o1 + k, none⟩ = some (.int .i64 (f k)) := by rw [hbel.cell (lt_of_cell (hc1 k hkn))]; exact hc1 k hkn
          have d2 : wr.cell? ⟨b2, o2 + k, none⟩ = some (.int .i64 (g k)) := by rw [hbel.cell (lt_of_cell (hc2 k hkn))]; exact hc2 k hkn
          clear hc1 hc2
          by_cases he : f k = g k
          · have he' : (f k != g k) = false := by simp [he]
            have HE := Lib.hid he
            clear he
            go_wp2
            go_quiet (fail)
            go_wp2
            go_roundw
            case rel => exact ⟨k + 1, by go_num, by omega, fun j hj => by rcases Nat.lt_or_ge j k with h | h; exact HA.out j h; rw [show j = k by omega]; exact HE.out, below_drewN hbel _⟩
            case measure => simp [intOf]; omega
          · have he' : (f k != g k) = true := by simpa using he
            have HE := Lib.hid (sameB_part hkn he)
            clear he
            go_wp2
            go_quiet (fail)
            go_wp2
            go_ret
            exact ⟨by rw [HE.out]; rfl, below_drewN hbel _⟩
        · obtain rfl : k = n := by omega
          have HT := Lib.hid (sameB_true.2 ⟨rfl, HA.out⟩)
          go_wp2
          go_ret
          exact ⟨by rw [HT.out]; rfl, hbel⟩
  · have hd : ((n : Int) != (m : Int)) = true := by simp; omega
    have H := Lib.hid (sameB_no (f := f) (g := g) hnm)
    clear hnm
    go_enter Try.func14, Try.ntmps14
    go_wp2
    go_ret
    exact ⟨by rw [H.out]; rfl, Below.refl _ _⟩
end Go.Proofs.Ytabnohphgegflaa.Ref
