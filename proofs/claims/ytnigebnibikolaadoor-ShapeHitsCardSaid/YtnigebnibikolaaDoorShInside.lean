

/-
  inside.
-/
import Derived.Test.YtnigebnibikolaaDoorShHitPlain
import Derived.Test.YtnigebnibikolaaDoorShTurn
namespace Go.Proofs.YtnigebnibikolaaDoor.ShT
open Go.RowKit Go.Law Go.Law.Sh
set_option linter.unusedVariables false
set_option linter.unusedSimpArgs false
set_option maxRecDepth 100000
theorem inside_out (e0 e1 e2 e3 e4 e5 e6 e7 e8 e9 x y : Int) (s0 s1 : ByteArray) (w : World) (r1 : -1048576 ≤ e3 ∧ e3 ≤ 1048576) (r2 : -1048576 ≤ e4 ∧ e4 ≤ 1048576) (r3 : 0 ≤ e5 ∧ e5 ≤ 1048576) (r4 : 0 ≤ e6 ∧ e6 ≤ 1048576)
    (h : x < e3 ∨ e3 + e5 < x ∨ y < e4 ∨ e4 + e6 < y) :
    Calls Tryd.prog 56 #[.agg #[.int .i64 e0, .int .i64 e1, .int .i64 e2, .int .i64 e3, .int .i64 e4, .int .i64 e5, .int .i64 e6, .int .i64 e7, .int .i64 e8, .int .i64 e9, .string s0, .string s1], .int .i64 x, .int .i64 y] w fun e w' => e = .returned (.bool false) ∧ Below w.heap.size w w' := by
  by_cases h1 : x < e3
  · clear h
    go_enter Tryd.func56, Tryd.ntmps56
    go_wp2_with fail
    go_ret
    exact ⟨rfl, (Below.refl _ _).alloc (Nat.le_refl _) _⟩
  by_cases h2 : e3 + e5 < x
  · clear h
    go_enter Tryd.func56, Tryd.ntmps56
    go_wp2_with fail
    go_ret
    exact ⟨rfl, (Below.refl _ _).alloc (Nat.le_refl _) _⟩
  by_cases h3 : y < e4
  · clear h
    go_enter Tryd.func56, Tryd.ntmps56
    go_wp2_with fail
    go_ret
    exact ⟨rfl, (Below.refl _ _).alloc (Nat.le_refl _) _⟩
  have h4 : e4 + e6 < y := by omega
  clear h
  go_enter Tryd.func56, Tryd.ntmps56
  go_wp2_with fail
  go_ret
  exact ⟨rfl, (Below.refl _ _).alloc (Nat.le_refl _) _⟩
theorem inside_box (e0 e1 e2 e3 e4 e5 e6 e7 e8 e9 x y : Int) (s0 s1 : ByteArray) (w : World) (r1 : -1048576 ≤ e3 ∧ e3 ≤ 1048576) (r2 : -1048576 ≤ e4 ∧ e4 ≤ 1048576) (r3 : 0 ≤ e5 ∧ e5 ≤ 1048576) (r4 : 0 ≤ e6 ∧ e6 ≤ 1048576)
    (h1 : e3 ≤ x) (h2 : x ≤ e3 + e5) (h3 : e4 ≤ y) (h4 : y ≤ e4 + e6) (h : ¬ e2 = 1 ∨ e5 = 0 ∨ e6 = 0) :
    Calls Tryd.prog 56 #[.agg #[.int .i64 e0, .int .i64 e1, .int .i64 e2, .int .i64 e3, .int .i64 e4, .int .i64 e5, .int .i64 e6, .int .i64 e7, .int .i64 e8, .int .i64 e9, .string s0, .string s1], .int .i64 x, .int .i64 y] w fun e w' => e = .returned (.bool true) ∧ Below w.heap.size w w' := by
  have q1 : ¬ x < e3 := by omega
  have q2 : ¬ e3 + e5 < x := by omega
  have q3 : ¬ y < e4 := by omega
  have q4 : ¬ e4 + e6 < y := by omega
  by_cases k1 : e2 = 1
  · subst k1
    by_cases k2 : e5 = 0
    · subst k2
      clear h
      go_enter Tryd.func56, Tryd.ntmps56
      go_wp2_with fail
      go_ret
      exact ⟨rfl, (Below.refl _ _).alloc (Nat.le_refl _) _⟩
    · have k3 : e6 = 0 := by omega
      subst k3
      have k2' : (e5 == 0) = false := by simpa using k2
      clear h
      go_enter Tryd.func56, Tryd.ntmps56
      go_wp2_with fail
      go_ret
      exact ⟨rfl, (Below.refl _ _).alloc (Nat.le_refl _) _⟩
  · have k1' : (e2 != 1) = true := by simpa using k1
    clear h
    go_enter Tryd.func56, Tryd.ntmps56
    go_wp2_with fail
    go_ret
    exact ⟨rfl, (Below.refl _ _).alloc (Nat.le_refl _) _⟩
set_option maxHeartbeats 1000000 in
theorem inside_oval (e0 e1 e3 e4 e5 e6 e7 e8 e9 x y : Int) (s0 s1 : ByteArray) (w : World) (r1 : -1048576 ≤ e3 ∧ e3 ≤ 1048576) (r2 : -1048576 ≤ e4 ∧ e4 ≤ 1048576) (r3 : 0 < e5 ∧ e5 ≤ 1048576) (r4 : 0 < e6 ∧ e6 ≤ 1048576)
    (h1 : e3 ≤ x) (h2 : x ≤ e3 + e5) (h3 : e4 ≤ y) (h4 : y ≤ e4 + e6) :
    Calls Tryd.prog 56 #[.agg #[.int .i64 e0, .int .i64 e1, .int .i64 1, .int .i64 e3, .int .i64 e4, .int .i64 e5, .int .i64 e6, .int .i64 e7, .int .i64 e8, .int .i64 e9, .string s0, .string s1], .int .i64 x, .int .i64 y] w
      fun e w' => e = .returned (.bool (decide (wrap64 (wrap64 (ovU x e3 e5 * ovU x e3 e5) + wrap64 (ovU y e4 e6 * ovU y e4 e6)) ≤ 1048576))) ∧ Below w.heap.size w w' := by
  have q1 : ¬ x < e3 := by omega
  have q2 : ¬ e3 + e5 < x := by omega
  have q3 : ¬ y < e4 := by omega
  have q4 : ¬ e4 + e6 < y := by omega
  have k2 : (e5 == 0) = false := by simp; omega
  have k3 : (e6 == 0) = false := by simp; omega
  obtain ⟨U, hU⟩ : ∃ U, U = ovU x e3 e5 := ⟨_, rfl⟩
  obtain ⟨V, hV⟩ : ∃ V, V = ovU y e4 e6 := ⟨_, rfl⟩
  rw [← hU, ← hV]
  have HU := Lib.hid (show rnd (1024 * (2 * x - 2 * e3 - e5)) e5 = U from hU.symm)
  have HV := Lib.hid (show rnd (1024 * (2 * y - 2 * e4 - e6)) e6 = V from hV.symm)
  clear hU hV
  go_enter Tryd.func56, Tryd.ntmps56
  go_wp2_with fail
  have a1 : IntKind.i64.wrap (2 * x) = 2 * x := IntWalk.i64_in _ ⟨by omega, by omega⟩
  have a2 : IntKind.i64.wrap (2 * e3) = 2 * e3 := IntWalk.i64_in _ ⟨by omega, by omega⟩
  have a3 : IntKind.i64.wrap (2 * x - 2 * e3) = 2 * x - 2 * e3 := IntWalk.i64_in _ ⟨by omega, by omega⟩
  have a4 : IntKind.i64.wrap (2 * x - 2 * e3 - e5) = 2 * x - 2 * e3 - e5 := IntWalk.i64_in _ ⟨by omega, by omega⟩
  have a5 : IntKind.i64.wrap (1024 * (2 * x - 2 * e3 - e5)) = 1024 * (2 * x - 2 * e3 - e5) := IntWalk.i64_in _ ⟨by omega, by omega⟩
  have b1 : IntKind.i64.wrap (2 * y) = 2 * y := IntWalk.i64_in _ ⟨by omega, by omega⟩
  have b2 : IntKind.i64.wrap (2 * e4) = 2 * e4 := IntWalk.i64_in _ ⟨by omega, by omega⟩
  have b3 : IntKind.i64.wrap (2 * y - 2 * e4) = 2 * y - 2 * e4 := IntWalk.i64_in _ ⟨by omega, by omega⟩
  have b4 : IntKind.i64.wrap (2 * y - 2 * e4 - e6) = 2 * y - 2 * e4 - e6 := IntWalk.i64_in _ ⟨by omega, by omega⟩
  have b5 : IntKind.i64.wrap (1024 * (2 * y - 2 * e4 - e6)) = 1024 * (2 * y - 2 * e4 - e6) := IntWalk.i64_in _ ⟨by omega, by omega⟩
  obtain ⟨w0, hw0⟩ : ∃ w0, w0 = w.alloc (Obj.cells #[.int .i64 e0, .int .i64 e1, .int .i64 1, .int .i64 e3, .int .i64 e4, .int .i64 e5, .int .i64 e6, .int .i64 e7, .int .i64 e8, .int .i64 e9, .string s0, .string s1] 82) := ⟨_, rfl⟩
  have hbel : Below w.heap.size w w0 := by rw [hw0]; exact (Below.refl _ _).alloc (Nat.le_refl _) _
  have hblk : Blk w0 w.heap.size #[.int .i64 e0, .int .i64 e1, .int .i64 1, .int .i64 e3, .int .i64 e4, .int .i64 e5, .int .i64 e6, .int .i64 e7, .int .i64 e8, .int .i64 e9, .string s0, .string s1] 82 := by rw [hw0]; exact Blk.new _ _ _
  rw [← hw0]
  clear hw0
  have c3 : w0.cell? ⟨w.heap.size, 3, none⟩ = some (.int .i64 e3) := hblk.cell (i := 3) rfl
  have c4 : w0.cell? ⟨w.heap.size, 4, none⟩ = some (.int .i64 e4) := hblk.cell (i := 4) rfl
  have c5 : w0.cell? ⟨w.heap.size, 5, none⟩ = some (.int .i64 e5) := hblk.cell (i := 5) rfl
  have c6 : w0.cell? ⟨w.heap.size, 6, none⟩ = some (.int .i64 e6) := hblk.cell (i := 6) rfl
  have zz := hblk.lt
  clear hblk k2 k3 h1 h2 h3 h4 q1 q2 q3 q4 r1 r2
  go_quiet ((go_at_call 66; exact quiet_call (round_any _ _ _ (by omega))))
  clear a1 a2 a3 a4 a5 b1 b2 b3 b4 b5
  rw [HU.out, HV.out]
  go_wp2_with fail
  go_ret
  refine ⟨rfl, below_drewN hbel _⟩
theorem inside_any (e : Nat → Int) (s0 s1 : ByteArray) (p : Int × Int) (w : World) (hb : boxS e) :
    Calls Tryd.prog 56 #[.agg #[.int .i64 (e 0), .int .i64 (e 1), .int .i64 (e 2), .int .i64 (e 3), .int .i64 (e 4), .int .i64 (e 5), .int .i64 (e 6), .int .i64 (e 7), .int .i64 (e 8), .int .i64 (e 9), .string s0, .string s1], .int .i64 p.1, .int .i64 p.2] w
      fun e' w' => e' = .returned (.bool (insB e p)) ∧ Below w.heap.size w w' := by
  unfold boxS at hb
  obtain ⟨r1, r2, r3, r4, _⟩ := hb
  by_cases h : boxB e p.1 p.2
  · by_cases ho : ovalB e
    · rw [insB_oval h ho]
      unfold boxB at h
      unfold ovalB at ho
      rw [ho.1]
      exact inside_oval _ _ _ _ _ _ _ _ _ _ _ _ _ w r1 r2 ⟨ho.2.1, r3.2⟩ ⟨ho.2.2, r4.2⟩ h.1.1 h.1.2 h.2.1 h.2.2
    · rw [insB_box h ho]
      unfold boxB at h
      unfold ovalB at ho
      exact inside_box _ _ _ _ _ _ _ _ _ _ _ _ _ _ w r1 r2 r3 r4 h.1.1 h.1.2 h.2.1 h.2.2 (by omega)
  · rw [insB_out h]
    unfold boxB at h
    exact inside_out _ _ _ _ _ _ _ _ _ _ _ _ _ _ w r1 r2 r3 r4 (by omega)
end Go.Proofs.YtnigebnibikolaaDoor.ShT
