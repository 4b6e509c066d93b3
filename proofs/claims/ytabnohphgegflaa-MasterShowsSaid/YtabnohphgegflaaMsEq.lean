


/-
  Rows of shapes are compared.
-/
import Derived.Test.YtabnohphgegflaaMsRoom
namespace Go.Proofs.Ytabnohphgegflaa.MS
open Go.RowKit Go.Law Go.Law.Sh Go.Law.Ms ShT
set_option linter.unusedVariables false
set_option linter.unusedSimpArgs false
set_option maxRecDepth 100000
set_option maxHeartbeats 4000000 in
theorem equal_true (n : Nat) (F G : Nat → ShD) (a b : Option Addr) (ca cb : Nat) (w : World) (ha : CellsF w a n 12 (fun i => (F i).V)) (hb : CellsF w b n 12 (fun i => (G i).V)) (hn : n ≤ 1000000000000000000) (he : ∀ i, i < n → F i = G i) :
    Calls Try.prog 12 #[.slice a n ca, .slice b n cb] w fun e w' => e = .returned (.bool true) ∧ Below w.heap.size w w' := by
  have HA := Lib.hid ha
  have HB := Lib.hid hb
  have HE := Lib.hid he
  clear ha hb he
  go_enter Try.func12, Try.ntmps12
  have g1 : ((n : Int) != (n : Int)) = false := by simp
  go_wp2_with fail
  go_loopw [13] (fun iv wr => ∃ i : Nat, iv = .int .i64 i ∧ i ≤ n ∧ Below w.heap.size w wr) (fun iv _ => n - (intOf iv).toNat)
  case atStart => exact ⟨0, rfl, by omega, Below.refl _ _⟩
  case round =>
    obtain ⟨i, rfl, hi, hbel⟩ := hrel
    have HBL := Lib.hid hbel
    clear hbel
    by_cases hin : i < n
    · have hin2 : (i : Int) < (n : Int) := by omega
      obtain ⟨b1, o1, h1, hc1⟩ := (HA.out.below (Nat.le_refl _) HBL.out) (by omega)
      obtain ⟨b2, o2, h2, hc2⟩ := (HB.out.below (Nat.le_refl _) HBL.out) (by omega)
      have hci := hc1 i hin
      have hcj := hc2 i hin
      simp only at hci hcj
      rw [← HE.out i hin] at hcj
      obtain ⟨D, hD⟩ : ∃ D, D = F i := ⟨_, rfl⟩
      simp only [← hD] at hci hcj
      clear hc1 hc2 hD
      obtain ⟨e0, e1, e2, e3, e4, e5, e6, e7, e8, e9, n0, n1⟩ := D
      subst h1
      subst h2
      have d0 : wr.cell? ⟨b1, o1 + i * 12, none⟩ = some (.int .i64 e0) := hci 0 (by omega)
      have d1 : wr.cell? ⟨b1, o1 + i * 12 + 1, none⟩ = some (.int .i64 e1) := hci 1 (by omega)
      have d2 : wr.cell? ⟨b1, o1 + i * 12 + 2, none⟩ = some (.int .i64 e2) := hci 2 (by omega)
      have d3 : wr.cell? ⟨b1, o1 + i * 12 + 3, none⟩ = some (.int .i64 e3) := hci 3 (by omega)
      have d4 : wr.cell? ⟨b1, o1 + i * 12 + 4, none⟩ = some (.int .i64 e4) := hci 4 (by omega)
      have d5 : wr.cell? ⟨b1, o1 + i * 12 + 5, none⟩ = some (.int .i64 e5) := hci 5 (by omega)
      have d6 : wr.cell? ⟨b1, o1 + i * 12 + 6, none⟩ = some (.int .i64 e6) := hci 6 (by omega)
      have d7 : wr.cell? ⟨b1, o1 + i * 12 + 7, none⟩ = some (.int .i64 e7) := hci 7 (by omega)
      have d8 : wr.cell? ⟨b1, o1 + i * 12 + 8, none⟩ = some (.int .i64 e8) := hci 8 (by omega)
      have d9 : wr.cell? ⟨b1, o1 + i * 12 + 9, none⟩ = some (.int .i64 e9) := hci 9 (by omega)
      have d10 : wr.cell? ⟨b1, o1 + i * 12 + 10, none⟩ = some (.string n0) := hci 10 (by omega)
      have d11 : wr.cell? ⟨b1, o1 + i * 12 + 11, none⟩ = some (.string n1) := hci 11 (by omega)
      have x0 : wr.cell? ⟨b2, o2 + i * 12, none⟩ = some (.int .i64 e0) := hcj 0 (by omega)
      have x1 : wr.cell? ⟨b2, o2 + i * 12 + 1, none⟩ = some (.int .i64 e1) := hcj 1 (by omega)
      have x2 : wr.cell? ⟨b2, o2 + i * 12 + 2, none⟩ = some (.int .i64 e2) := hcj 2 (by omega)
      have x3 : wr.cell? ⟨b2, o2 + i * 12 + 3, none⟩ = some (.int .i64 e3) := hcj 3 (by omega)
      have x4 : wr.cell? ⟨b2, o2 + i * 12 + 4, none⟩ = some (.int .i64 e4) := hcj 4 (by omega)
      have x5 : wr.cell? ⟨b2, o2 + i * 12 + 5, none⟩ = some (.int .i64 e5) := hcj 5 (by omega)
      have x6 : wr.cell? ⟨b2, o2 + i * 12 + 6, none⟩ = some (.int .i64 e6) := hcj 6 (by omega)
      have x7 : wr.cell? ⟨b2, o2 + i * 12 + 7, none⟩ = some (.int .i64 e7) := hcj 7 (by omega)
      have x8 : wr.cell? ⟨b2, o2 + i * 12 + 8, none⟩ = some (.int .i64 e8) := hcj 8 (by omega)
      have x9 : wr.cell? ⟨b2, o2 + i * 12 + 9, none⟩ = some (.int .i64 e9) := hcj 9 (by omega)
      have x10 : wr.cell? ⟨b2, o2 + i * 12 + 10, none⟩ = some (.string n0) := hcj 10 (by omega)
      have x11 : wr.cell? ⟨b2, o2 + i * 12 + 11, none⟩ = some (.string n1) := hcj 11 (by omega)
      clear hci hcj
      have j1 : (0 : Int) ≤ (i : Int) := by omega
      go_wp2_with fail
      go_quiet (fail)
      go_wp2_with fail
      go_roundw
      case rel => exact ⟨i + 1, by go_num, by omega, below_drewN HBL.out _⟩
      case measure => simp [intOf]; omega
    · obtain rfl : i = n := by omega
      have hnn : ¬ (i : Int) < (i : Int) := by omega
      go_wp2_with fail
      go_ret
      exact ⟨rfl, HBL.out⟩
end Go.Proofs.Ytabnohphgegflaa.MS
