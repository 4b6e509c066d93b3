
/-
  balance.Needs.
-/
import Derived.Test.YtpbnkkeplhgepaaBalShare
import Derived.Test.YtpbnkkeplhgepaaBalCheck
namespace Go.Proofs.Ytpbnkkeplhgepaa.BA
open Go.RowKit Go.Law Go.Law.Bal Ref
set_option linter.unusedVariables false
set_option linter.unusedSimpArgs false
set_option maxRecDepth 100000
set_option maxHeartbeats 2000000 in
theorem top_bad (cols : Int) (n : Nat) (E : Nat → Nat → Int) (a : Option Addr) (c : Nat) (w : World) (ha : StrF w a n 4 E) (hn : n ≤ 1000000000000000000) (he : balE cols n E ≠ 0) :
    Calls Try.prog 39 #[.int .i64 cols, .slice a n c] w fun e w' => e = .returned (.tuple #[.slice none 0 0, .slice none 0 0, .int .i64 (balE cols n E)]) ∧ Below w.heap.size w w' := by
  have hchk := check_any cols n E a c w ha hn
  obtain ⟨V, hV⟩ : ∃ V, V = balE cols n E := ⟨_, rfl⟩
  rw [← hV] at hchk he ⊢
  have v2 : (V != 0) = true := by simpa using he
  clear hV he
  go_enter Try.func39, Try.ntmps39
  go_wp2_with fail
  refine hchk.mono ?_
  rintro e w1 ⟨rfl, hb1⟩
  go_wp2_with fail
  go_ret3
  exact ⟨rfl, hb1⟩
def TopPost (cols n : Nat) (E : Nat → Nat → Int) (w : World) (e : Ending) (w' : World) : Prop :=
  Below w.heap.size w w' ∧ ∃ g1 g2, e = .returned (.tuple #[.slice (some ⟨g1, 0, none⟩) cols cols, .slice (some ⟨g2, 0, none⟩) cols cols, .int .i64 0]) ∧ w.heap.size ≤ g1 ∧ w.heap.size ≤ g2 ∧ g1 ≠ g2 ∧ OwnF w' 3 g1 cols (needF E (wantA E) n cols) ∧ OwnF w' 3 g2 cols (mostF E n cols)
set_option maxHeartbeats 4000000 in
theorem top_any (cols n : Nat) (E : Nat → Nat → Int) (a : Option Addr) (c : Nat) (w : World) (ha : StrF w a n 4 E) (he : balE cols n E = 0) :
    Calls Try.prog 39 #[.int .i64 cols, .slice a n c] w (TopPost cols n E w) := by
  obtain ⟨hc, hn, hE⟩ := balE_zero he
  have hc' : 1 ≤ cols ∧ cols ≤ 64 := ⟨by omega, by omega⟩
  have hchk := check_any cols n E a c w ha (by omega)
  rw [he] at hchk
  have HA := Lib.hid ha
  have HE := Lib.hid (show ∀ i, i < n → cellOk (cols : Int) (E i) from hE)
  have hmax : ∀ x y : Int, (if x < y then y else x) = max x y := fun x y => by omega
  clear ha he hE
  go_enter Try.func39, Try.ntmps39
  go_wp2_with fail
  refine hchk.mono ?_
  rintro e w1 ⟨rfl, hb1⟩
  go_wp2_with fail
  refine (needs_first cols n E a c w1 (HA.out.below (Nat.le_refl _) hb1) hc' hn HE.out).mono ?_
  rintro e w2 ⟨hb2, g1, rfl, hg1, hO1⟩
  have hb3 := hb1.trans (hb2.mono hb1.size)
  have hs1 := hb1.size
  have hl1 := hO1.lt
  go_wp2_with fail
  refine (needs_second cols n E a c w2 (HA.out.below (Nat.le_refl _) hb3) hc' hn HE.out).mono ?_
  rintro e w3 ⟨hb4, g2, rfl, hg2, hO2⟩
  have hb5 := hb3.trans (hb4.mono hb3.size)
  have hO1 := hO1.below hb4 hl1
  have hs5 := hb3.size
  have hG1 : w.heap.size ≤ g1 := by omega
  have hG2 : w.heap.size ≤ g2 := by omega
  have hgn : g1 ≠ g2 := by omega
  have HEND := Lib.hid (fun j (hj : j < cols) => joinF_end (E := E) (n := n) hj)
  have hjz := joinF_zero (needF E (wantA E) n cols) (needF E (wantB E) n cols)
  obtain ⟨A, hA⟩ : ∃ A, A = needF E (wantA E) n cols := ⟨_, rfl⟩
  obtain ⟨B, hB⟩ : ∃ B, B = needF E (wantB E) n cols := ⟨_, rfl⟩
  rw [← hA] at hO1
  rw [← hB] at hO2
  rw [← hA, ← hB] at hjz
  have HAE := Lib.hid hA
  have HBE := Lib.hid hB
  have HO1 := Lib.hid hO1
  have HO2 := Lib.hid hO2
  have HJZ := Lib.hid hjz
  have HBEL := Lib.hid hb5
  clear hA hB hO1 hO2 hjz hb5 hb4 hb3 hb2 hb1 hs1 hs5 hg1 hg2 hchk
  go_wp2_with fail
  go_loopw [25] (fun iv wr => ∃ k : Nat, iv = .int .i64 k ∧ k ≤ cols ∧ OwnF wr 3 g1 cols A ∧ OwnF wr 3 g2 cols (joinF A B k) ∧ Below w.heap.size w wr) (fun iv _ => cols - (intOf iv).toNat)
  case atStart => exact ⟨0, rfl, by omega, HO1.out, by rw [HJZ.out]; exact HO2.out, HBEL.out⟩
  case round =>
    clear HO1 HO2 HBEL
    obtain ⟨k, rfl, hk, hO1, hO2, hbel⟩ := hrel
    by_cases hkt : k < cols
    · have d1 := hO1.cell hkt
      have d2 := hO2.cell hkt
      rw [joinF_at] at d2
      have z2 := hO2.frozen k
      have HO1 := Lib.hid hO1
      have HO2 := Lib.hid hO2
      have HBEL := Lib.hid hbel
      have HJ := Lib.hid (joinF_max A B k)
      clear hO1 hO2 hbel
      obtain ⟨we, hwe⟩ : ∃ we, we = wr.drew := ⟨_, rfl⟩
      have HWE := Lib.hid hwe
      have d2' : we.cell? ⟨g2, k, none⟩ = some (.int .i64 (B k)) := by rw [hwe]; exact d2
      have z2' : we.frozen? ⟨g2, k, none⟩ = false := by rw [hwe]; exact z2
      clear hwe
      go_wp2_with fail
      go_still_tail 12, (by kernel_rfl)
      change wpList _ _ _ _ _ wr.drew
      rw [← HWE.out]
      clear d1 d2 z2
      go_wp2_with fail
      go_roundw
      case rel => exact ⟨k + 1, by go_num, by omega, by rw [HWE.out]; exact HO1.out.drew.other hgn _, by rw [HJ.out, HWE.out]; exact HO2.out.drew.set k _, by rw [HWE.out]; exact HBEL.out.drew.setCell hG2 _⟩
      case measure => simp [intOf]; omega
    · obtain rfl : cols = k := by omega
      have HO1 := Lib.hid hO1
      have HO2 := Lib.hid hO2
      have HBEL := Lib.hid hbel
      clear hO1 hO2 hbel
      go_wp2_with fail
      go_ret3
      exact ⟨HBEL.out, g1, g2, rfl, hG1, hG2, hgn, by rw [← HAE.out]; exact HO1.out, HO2.out.congr fun j hj => by rw [HAE.out, HBE.out]; exact HEND.out j hj⟩
end Go.Proofs.Ytpbnkkeplhgepaa.BA
