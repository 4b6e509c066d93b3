
/-
  BidiClasses returns true for every number, where the program's tables hold what its text lays: the walk.
-/
import Derived.Test.YtpbnkkeplhgepaaDoorDoorClass
import Derived.Test.YtpbnkkeplhgepaaDoorDoorDir
namespace Go.Proofs.YtpbnkkeplhgepaaDoor.PC
open Go.RowKit Go.Law
set_option linter.unusedVariables false
set_option linter.unusedSimpArgs false
set_option maxRecDepth 100000
theorem within_cell (x hi : Int) (b : Nat) (w : World) (h2 : 0 ≤ hi) (h3 : hi ≤ 1000000000) (hc : ∀ i : Nat, (i : Int) ≤ hi → ∃ y, w.cell? ⟨b, i, none⟩ = some (.int .i64 y) ∧ 0 ≤ y ∧ y ≤ 1000000) :
    Calls Tryd.prog 7 #[.int .i64 x, .int .i64 0, .int .i64 hi] w fun e w' => ∃ (r : Nat) (y : Int), e = .returned (.int .i64 r) ∧ w = w' ∧ (r : Int) ≤ hi ∧ w.cell? ⟨b, r, none⟩ = some (.int .i64 y) ∧ 0 ≤ y ∧ y ≤ 1000000 := by
  refine (within_any x 0 hi w (by omega) h2 h3).mono ?_
  rintro e w' ⟨r, rfl, rfl, h4, h5⟩
  obtain ⟨y, hy, hy1⟩ := hc r.toNat (by omega)
  exact ⟨r.toNat, y, by rw [show ((r.toNat : Nat) : Int) = r by omega], rfl, by omega, hy, hy1⟩
theorem edges_bd : ∀ i, i < 72 → 0 ≤ edgesL.getD i 0 ∧ edgesL.getD i 0 ≤ 1000000 := by decide
theorem edges_cell (w : World) : ∀ i : Nat, (i : Int) ≤ 71 → ∃ y, (w.alloc (.cells (edgesL.map (Value.int .i64)).toArray 3)).cell? ⟨w.heap.size, i, none⟩ = some (.int .i64 y) ∧ 0 ≤ y ∧ y ≤ 1000000 := by
  intro i hi
  refine ⟨edgesL.getD i 0, ?_, edges_bd i (by omega)⟩
  rw [World.cell?_alloc_new]
  have : i < edgesL.length := by show i < 72; omega
  simp [this]
set_option maxHeartbeats 1000000 in
theorem some_any (c : Int) (w : World) :
    Calls Tryd.prog 12 #[.int .i64 c] w fun e w' => ∃ a f, e = .returned (.slice a 5 5) ∧ IntsF w' a 5 f ∧ Below w.heap.size w w' := by
  go_enter Tryd.func12, Tryd.ntmps12
  go_wp2_with fail
  refine (within_cell c 71 w.heap.size _ (by omega) (by omega) (edges_cell w)).mono ?_
  rintro e w1 ⟨r, y, rfl, rfl, hr, hy, hy0, hy1⟩
  have HY := Lib.hid hy
  go_wp2_with fail
  refine (within_any c 0 12288 _ (by omega) (by omega) (by omega)).mono ?_
  rintro e w2 ⟨r2, rfl, rfl, hr1, hr2⟩
  go_wp2_with fail
  go_ret
  refine ⟨_, fun i => match i with | 0 => c | 1 => r2 | 2 => y - 1 | 3 => y | _ => y + 1, rfl, ?_, ?_⟩
  · intro _
    refine ⟨_, 0, rfl, fun i hi => ?_⟩
    have : i = 0 ∨ i = 1 ∨ i = 2 ∨ i = 3 ∨ i = 4 := by omega
    rcases this with rfl | rfl | rfl | rfl | rfl <;> simp
  · repeat' (with_reducible first | exact Below.refl _ _ | assumption | refine Below.setCell ?_ ?_ _ | refine Below.alloc ?_ ?_ _ | refine below_drewN ?_ _ | refine Below.drew ?_)
    all_goals first | omega | (simp; done) | (simp; omega)
theorem mir_law (k : Int) : mirR (mirR k bracketsT) bracketsT = k ∧ (mirR k bracketsT ≠ k ↔ k ∈ pairsL) := by
  by_cases h : k ∈ pairsL
  · have : ∀ x ∈ pairsL, mirR (mirR x bracketsT) bracketsT = x ∧ (mirR x bracketsT ≠ x ↔ x ∈ pairsL) := by decide
    exact this k h
  · have e : mirR k bracketsT = k := mirR_none k bracketsT fun i hi => by
      have key : ∀ i, i < 7 → ent bracketsT i 0 ∈ pairsL ∧ ent bracketsT i 1 ∈ pairsL := by decide
      have := key i hi
      exact ⟨fun hh => h (by rw [hh]; exact this.1), fun hh => h (by rw [hh]; exact this.2)⟩
    rw [e, e]
    exact ⟨rfl, fun hh => absurd rfl hh, fun hh => absurd hh h⟩
set_option maxHeartbeats 4000000 in
theorem classes_any (c : Int) (w : World) (h1 : TabAt w 2 3 tableT) (h2 : TabAt w 3 2 bracketsT) :
    Calls Tryd.prog 4 #[.int .i64 c] w fun e w' => e = .returned (.bool true) ∧ Below w.heap.size w w' := by
  go_enter Tryd.func4, Tryd.ntmps4
  go_wp2_with fail
  refine (class_any 1488 _ h1).mono ?_
  rintro e w1 ⟨rfl, hb1⟩
  rw [show lookR 1488 tableT = 1 by decide]
  go_wp2_with fail
  refine (mirror_any 40 _ (h2.below brackets_len (by omega) (by decide) (Nat.le_refl _) hb1)).mono ?_
  rintro e w2 ⟨rfl, hb2⟩
  rw [show mirR 40 bracketsT = 41 by decide]
  have hs1 := hb1.size
  have hb12 := hb1.trans (hb2.mono hs1)
  clear hb1 hb2
  go_wp2_with fail
  refine (some_any c _).mono ?_
  rintro e w3 ⟨a, f, rfl, hf, hb3⟩
  have hs2 := hb12.size
  have hb13 := hb12.trans (hb3.mono hs2)
  have H1 := Lib.hid h1
  have H2 := Lib.hid h2
  have HF := Lib.hid hf
  clear h1 h2 hb12 hb3 hf
  go_wp2_with fail
  go_loopw [15] (fun ix wr => ∃ k : Nat, ix = .int .i64 k ∧ k ≤ 5 ∧ Below w3.heap.size w3 wr) (fun ix _ => 5 - (intOf ix).toNat)
  case atStart => exact ⟨0, rfl, by omega, Below.refl _ _⟩
  case round =>
    obtain ⟨k, rfl, hk, hbel⟩ := hrel
    have hsz := hbel.size
    have hs3 := hb13.size
    have hbw : Below w.heap.size w wr := hb13.trans (hbel.mono hs3)
    by_cases hk2 : k < 5
    · obtain ⟨b, off, rfl, hc⟩ := HF.out (by omega)
      have d0 := (hbel.cell (lt_of_cell (hc k hk2))).trans (hc k hk2)
      clear hc
      obtain ⟨x, hx⟩ : ∃ x, x = f k := ⟨_, rfl⟩
      rw [← hx] at d0
      clear hx
      by_cases hx0 : 0 ≤ x
      · go_wp2_with fail
        refine (class_any x _ (H1.out.below table_len (by omega) (by decide) (Nat.le_refl _) hbw)).mono ?_
        rintro e w4 ⟨rfl, hb4⟩
        rw [tables_same]
        have hs4 := hb4.size
        have dd : (lookR x (dirAT ++ dirST) != lookR x (dirAT ++ dirST)) = false := by simp
        go_wp2_with fail
        refine (dir_any x _).mono ?_
        rintro e w5 ⟨rfl, hb5⟩
        have hs5 := hb5.size
        replace hbel := (hbel.trans (hb4.mono hsz)).trans (hb5.mono (by omega))
        replace hbw := (hbw.trans (hb4.mono (by omega))).trans (hb5.mono (by omega))
        clear hb4 hb5
        go_wp2_with fail
        have hsc : w.heap.size ≤ w5.heap.size := by omega
        obtain ⟨m1, m2⟩ := mir_law x
        refine (mirror_any x _ (H2.out.below brackets_len (by omega) (by decide) (Nat.le_refl _) hbw)).mono ?_
        rintro e w6 ⟨rfl, hb6⟩
        obtain ⟨m, hm⟩ : ∃ m, m = mirR x bracketsT := ⟨_, rfl⟩
        rw [← hm] at m1 m2 ⊢
        have HM := Lib.hid m1
        have HN := Lib.hid m2
        clear hm m1 m2
        have hs6 := hb6.size
        replace hbel := hbel.trans (hb6.mono (by omega))
        replace hbw := hbw.trans (hb6.mono (by omega))
        clear hb6
        go_wp2_with fail
        refine (mirror_any m _ (H2.out.below brackets_len (by omega) (by decide) (Nat.le_refl _) hbw)).mono ?_
        rintro e w7 ⟨rfl, hb7⟩
        rw [HM.out]
        have hs7 := hb7.size
        replace hbel := hbel.trans (hb7.mono (by omega))
        replace hbw := hbw.trans (hb7.mono (by omega))
        clear hb7
        have d9 : (x != x) = false := by simp
        go_wp2_with fail
        refine (pair_any x _).mono ?_
        rintro e w8 ⟨r, rfl, hr, hb8⟩
        have hs8 := hb8.size
        replace hbel := hbel.trans (hb8.mono (by omega))
        replace hbw := hbw.trans (hb8.mono (by omega))
        clear hb8
        have HR := Lib.hid hr
        clear hr
        by_cases hmx : m = x
        · have e1 : (m != x) = false := by simp [hmx]
          have e2 : decide (0 ≤ r ∧ r ≤ 13) = false := by
            rw [decide_eq_false_iff_not]
            exact fun hh => HN.out.2 (HR.out.1 hh) hmx
          clear hmx
          go_wp2_with (go_at_call 14; refine (in_any _ _ _ _).mono ?_; rw [e2]; rintro e w3 ⟨rfl, rfl⟩)
          go_roundw
          case rel => exact ⟨k + 1, by go_num, by omega, hbel⟩
          case measure => simp [intOf]; omega
        · have e1 : (m != x) = true := by simpa using hmx
          have e2 : decide (0 ≤ r ∧ r ≤ 13) = true := by
            rw [decide_eq_true_eq]
            exact HR.out.2 (HN.out.1 hmx)
          clear hmx
          go_wp2_with (go_at_call 14; refine (in_any _ _ _ _).mono ?_; rw [e2]; rintro e w3 ⟨rfl, rfl⟩)
          go_roundw
          case rel => exact ⟨k + 1, by go_num, by omega, hbel⟩
          case measure => simp [intOf]; omega
      · go_wp2_with fail
        have hsc : w.heap.size ≤ wr.heap.size := by omega
        obtain ⟨m1, m2⟩ := mir_law x
        refine (mirror_any x _ (H2.out.below brackets_len (by omega) (by decide) (Nat.le_refl _) hbw)).mono ?_
        rintro e w6 ⟨rfl, hb6⟩
        obtain ⟨m, hm⟩ : ∃ m, m = mirR x bracketsT := ⟨_, rfl⟩
        rw [← hm] at m1 m2 ⊢
        have HM := Lib.hid m1
        have HN := Lib.hid m2
        clear hm m1 m2
        have hs6 := hb6.size
        replace hbel := hbel.trans (hb6.mono (by omega))
        replace hbw := hbw.trans (hb6.mono (by omega))
        clear hb6
        go_wp2_with fail
        refine (mirror_any m _ (H2.out.below brackets_len (by omega) (by decide) (Nat.le_refl _) hbw)).mono ?_
        rintro e w7 ⟨rfl, hb7⟩
        rw [HM.out]
        have hs7 := hb7.size
        replace hbel := hbel.trans (hb7.mono (by omega))
        replace hbw := hbw.trans (hb7.mono (by omega))
        clear hb7
        have d9 : (x != x) = false := by simp
        go_wp2_with fail
        refine (pair_any x _).mono ?_
        rintro e w8 ⟨r, rfl, hr, hb8⟩
        have hs8 := hb8.size
        replace hbel := hbel.trans (hb8.mono (by omega))
        replace hbw := hbw.trans (hb8.mono (by omega))
        clear hb8
        have HR := Lib.hid hr
        clear hr
        by_cases hmx : m = x
        · have e1 : (m != x) = false := by simp [hmx]
          have e2 : decide (0 ≤ r ∧ r ≤ 13) = false := by
            rw [decide_eq_false_iff_not]
            exact fun hh => HN.out.2 (HR.out.1 hh) hmx
          clear hmx
          go_wp2_with (go_at_call 14; refine (in_any _ _ _ _).mono ?_; rw [e2]; rintro e w3 ⟨rfl, rfl⟩)
          go_roundw
          case rel => exact ⟨k + 1, by go_num, by omega, hbel⟩
          case measure => simp [intOf]; omega
        · have e1 : (m != x) = true := by simpa using hmx
          have e2 : decide (0 ≤ r ∧ r ≤ 13) = true := by
            rw [decide_eq_true_eq]
            exact HR.out.2 (HN.out.1 hmx)
          clear hmx
          go_wp2_with (go_at_call 14; refine (in_any _ _ _ _).mono ?_; rw [e2]; rintro e w3 ⟨rfl, rfl⟩)
          go_roundw
          case rel => exact ⟨k + 1, by go_num, by omega, hbel⟩
          case measure => simp [intOf]; omega
    · obtain rfl : k = 5 := by omega
      go_wp2_with fail
      go_ret
      exact ⟨rfl, hbw⟩
end Go.Proofs.YtpbnkkeplhgepaaDoor.PC
