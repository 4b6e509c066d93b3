

/-
  sameShapes: the reference's.
  cutShapes.
-/
import Derived.Test.YtabnohphgegflaaDoorShErrR
import Derived.Test.YtabnohphgegflaaDoorShFind
import Derived.Deep.QuietTactic
import Derived.BigQuiet
import Derived.Test.YtabnohphgegflaaDoorProg
import Derived.Test.YtabnohphgegflaaDoorCommon
import Derived.WalkLawsBesides
import Derived.Lib.Hide
namespace Go.Proofs.YtabnohphgegflaaDoor.ShT
open Go.RowKit Go.Law Go.Law.Sh
set_option linter.unusedVariables false
set_option linter.unusedSimpArgs false
set_option maxRecDepth 100000
set_option maxHeartbeats 1000000 in
theorem same_err (n cw : Nat) (E : Nat → Nat → Int) (N : Nat → Nat → ByteArray) (aw : Option Addr) (w : World) (hw : ShF w aw n E N) (hn : n ≤ 1000) (hc : n ≤ cw) (he : shE n E ≠ 0) :
    Calls Tryd.prog 30 #[.slice none 0 0, .slice aw n cw, .int .i64 (shE n E)] w fun e w' => e = .returned (.bool true) ∧ Below w.heap.size w w' := by
  have HC := Lib.hid (shapesError_any n E N aw cw w hw (by omega) hc)
  obtain ⟨V, hV⟩ : ∃ V, V = shE n E := ⟨_, rfl⟩
  have g : (V != 0) = true := by rw [hV]; simpa using he
  have g2 : (V == V) = true := by simp
  rw [← hV] at HC ⊢
  clear hw he hV
  go_enter Tryd.func30, Tryd.ntmps30
  go_wp2_with fail
  refine HC.out.mono ?_
  rintro e w1 ⟨rfl, hb⟩
  have HB := Lib.hid hb
  clear hb
  go_wp2_with fail
  go_ret
  exact ⟨rfl, HB.out⟩
set_option maxHeartbeats 4000000 in
theorem same_ok (n cl cw : Nat) (E : Nat → Nat → Int) (N : Nat → Nat → ByteArray) (al aw : Option Addr) (w : World) (hl : ShF w al n E N) (hw : ShF w aw n E N) (hn : n ≤ 1000) (hcl : n ≤ cl) (hc : n ≤ cw) (he : shE n E = 0) :
    Calls Tryd.prog 30 #[.slice al n cl, .slice aw n cw, .int .i64 0] w fun e w' => e = .returned (.bool true) ∧ Below w.heap.size w w' := by
  have HC := Lib.hid (shapesError_any n E N aw cw w hw (by omega) hc)
  rw [he] at HC
  have HA := Lib.hid hl
  have HW := Lib.hid hw
  have g1 : ((n : Int) != (n : Int)) = false := by simp
  clear hl hw he
  go_enter Tryd.func30, Tryd.ntmps30
  go_wp2_with fail
  refine HC.out.mono ?_
  rintro e w1 ⟨rfl, hb⟩
  have HB := Lib.hid hb
  clear hb HC
  go_wp2_with fail
  go_loopw [32] (fun iv wr => ∃ i : Nat, iv = .int .i64 i ∧ i ≤ n ∧ Below w.heap.size w wr) (fun iv _ => n - (intOf iv).toNat)
  case atStart => exact ⟨0, rfl, by omega, HB.out⟩
  case round =>
    obtain ⟨i, rfl, hi, hbel⟩ := hrel
    have HBL := Lib.hid hbel
    clear hbel HB
    by_cases hin : i < n
    · have hin2 : (i : Int) < (n : Int) := by omega
      obtain ⟨b1, o1, rfl, hc1⟩ := (HA.out.below (Nat.le_refl _) HBL.out) (by omega)
      obtain ⟨b2, o2, rfl, hc2⟩ := (HW.out.below (Nat.le_refl _) HBL.out) (by omega)
      obtain ⟨hci, d10, d11⟩ := hc1 i hin
      obtain ⟨hcj, x10, x11⟩ := hc2 i hin
      obtain ⟨e0, he0⟩ : ∃ e, e = E i 0 := ⟨_, rfl⟩
      obtain ⟨e1, he1⟩ : ∃ e, e = E i 1 := ⟨_, rfl⟩
      obtain ⟨e2, he2⟩ : ∃ e, e = E i 2 := ⟨_, rfl⟩
      obtain ⟨e3, he3⟩ : ∃ e, e = E i 3 := ⟨_, rfl⟩
      obtain ⟨e4, he4⟩ : ∃ e, e = E i 4 := ⟨_, rfl⟩
      obtain ⟨e5, he5⟩ : ∃ e, e = E i 5 := ⟨_, rfl⟩
      obtain ⟨e6, he6⟩ : ∃ e, e = E i 6 := ⟨_, rfl⟩
      obtain ⟨e7, he7⟩ : ∃ e, e = E i 7 := ⟨_, rfl⟩
      obtain ⟨e8, he8⟩ : ∃ e, e = E i 8 := ⟨_, rfl⟩
      obtain ⟨e9, he9⟩ : ∃ e, e = E i 9 := ⟨_, rfl⟩
      obtain ⟨n0, hn0⟩ : ∃ e, e = N i 0 := ⟨_, rfl⟩
      obtain ⟨n1, hn1⟩ : ∃ e, e = N i 1 := ⟨_, rfl⟩
      rw [← hn0] at d10 x10
      rw [← hn1] at d11 x11
      have d0 : wr.cell? ⟨b1, o1 + i * 12, none⟩ = some (.int .i64 e0) := by have := hci 0 (by omega); simpa only [Nat.add_zero, ← he0] using this
      have d1 : wr.cell? ⟨b1, o1 + i * 12 + 1, none⟩ = some (.int .i64 e1) := by have := hci 1 (by omega); simpa only [Nat.add_zero, ← he1] using this
      have d2 : wr.cell? ⟨b1, o1 + i * 12 + 2, none⟩ = some (.int .i64 e2) := by have := hci 2 (by omega); simpa only [Nat.add_zero, ← he2] using this
      have d3 : wr.cell? ⟨b1, o1 + i * 12 + 3, none⟩ = some (.int .i64 e3) := by have := hci 3 (by omega); simpa only [Nat.add_zero, ← he3] using this
      have d4 : wr.cell? ⟨b1, o1 + i * 12 + 4, none⟩ = some (.int .i64 e4) := by have := hci 4 (by omega); simpa only [Nat.add_zero, ← he4] using this
      have d5 : wr.cell? ⟨b1, o1 + i * 12 + 5, none⟩ = some (.int .i64 e5) := by have := hci 5 (by omega); simpa only [Nat.add_zero, ← he5] using this
      have d6 : wr.cell? ⟨b1, o1 + i * 12 + 6, none⟩ = some (.int .i64 e6) := by have := hci 6 (by omega); simpa only [Nat.add_zero, ← he6] using this
      have d7 : wr.cell? ⟨b1, o1 + i * 12 + 7, none⟩ = some (.int .i64 e7) := by have := hci 7 (by omega); simpa only [Nat.add_zero, ← he7] using this
      have d8 : wr.cell? ⟨b1, o1 + i * 12 + 8, none⟩ = some (.int .i64 e8) := by have := hci 8 (by omega); simpa only [Nat.add_zero, ← he8] using this
      have d9 : wr.cell? ⟨b1, o1 + i * 12 + 9, none⟩ = some (.int .i64 e9) := by have := hci 9 (by omega); simpa only [Nat.add_zero, ← he9] using this
      have x0 : wr.cell? ⟨b2, o2 + i * 12, none⟩ = some (.int .i64 e0) := by have := hcj 0 (by omega); simpa only [Nat.add_zero, ← he0] using this
      have x1 : wr.cell? ⟨b2, o2 + i * 12 + 1, none⟩ = some (.int .i64 e1) := by have := hcj 1 (by omega); simpa only [Nat.add_zero, ← he1] using this
      have x2 : wr.cell? ⟨b2, o2 + i * 12 + 2, none⟩ = some (.int .i64 e2) := by have := hcj 2 (by omega); simpa only [Nat.add_zero, ← he2] using this
      have x3 : wr.cell? ⟨b2, o2 + i * 12 + 3, none⟩ = some (.int .i64 e3) := by have := hcj 3 (by omega); simpa only [Nat.add_zero, ← he3] using this
      have x4 : wr.cell? ⟨b2, o2 + i * 12 + 4, none⟩ = some (.int .i64 e4) := by have := hcj 4 (by omega); simpa only [Nat.add_zero, ← he4] using this
      have x5 : wr.cell? ⟨b2, o2 + i * 12 + 5, none⟩ = some (.int .i64 e5) := by have := hcj 5 (by omega); simpa only [Nat.add_zero, ← he5] using this
      have x6 : wr.cell? ⟨b2, o2 + i * 12 + 6, none⟩ = some (.int .i64 e6) := by have := hcj 6 (by omega); simpa only [Nat.add_zero, ← he6] using this
      have x7 : wr.cell? ⟨b2, o2 + i * 12 + 7, none⟩ = some (.int .i64 e7) := by have := hcj 7 (by omega); simpa only [Nat.add_zero, ← he7] using this
      have x8 : wr.cell? ⟨b2, o2 + i * 12 + 8, none⟩ = some (.int .i64 e8) := by have := hcj 8 (by omega); simpa only [Nat.add_zero, ← he8] using this
      have x9 : wr.cell? ⟨b2, o2 + i * 12 + 9, none⟩ = some (.int .i64 e9) := by have := hcj 9 (by omega); simpa only [Nat.add_zero, ← he9] using this
      clear hci hcj hc1 hc2 he0 he1 he2 he3 he4 he5 he6 he7 he8 he9 hn0 hn1
      have j1 : (0 : Int) ≤ (i : Int) := by omega
      go_wp2_with fail
      go_quiet (fail)
      go_wp2_with fail
      go_roundw
      case rel => exact ⟨i + 1, by go_num, by omega, below_drewN HBL.out _⟩
      case measure => simp [intOf]; omega
    · obtain rfl : i = n := by omega
      have hnn : ¬ (i : Int) < (i : Int) := by omega
      go_wp2_with fail
      go_ret
      exact ⟨rfl, HBL.out⟩
end Go.Proofs.YtabnohphgegflaaDoor.ShT
namespace Go.Proofs.YtabnohphgegflaaDoor.ShT
open Go.RowKit Go.Law
set_option linter.unusedVariables false
set_option linter.unusedSimpArgs false
theorem cut_any (n c : Nat) (a : Option Addr) (w : World) (hc : n ≤ c) (hm : c ≤ maxLen) :
    Calls Tryd.prog 9 #[.slice a n c] w fun e w' => e = .returned (.slice a (min n 20) c) ∧ w = w' := by
  unfold maxLen at hm
  by_cases h : 20 < n
  · rw [show min n 20 = 20 by omega]
    go_enter Tryd.func9, Tryd.ntmps9
    go_wp2_with fail
    go_ret
    exact ⟨rfl, rfl⟩
  · rw [show min n 20 = n by omega]
    go_enter Tryd.func9, Tryd.ntmps9
    go_wp2_with fail
    go_ret
    exact ⟨rfl, rfl⟩
end Go.Proofs.YtabnohphgegflaaDoor.ShT
