
/-
  turned, TurnPoint, middle.
-/
import Derived.Test.YtabnohphgegflaaDoorShSine
import Derived.StillTailTactics
import Derived.Test.YtabnohphgegflaaDoorBlk
import Derived.Laws.Rows
namespace Go.Proofs.YtabnohphgegflaaDoor.ShT
open Go.RowKit Go.Law Go.Law.Sh
set_option linter.unusedVariables false
set_option linter.unusedSimpArgs false
set_option maxRecDepth 100000
set_option maxHeartbeats 1000000 in
theorem turned_any (x y cx cy t : Int) (w : World) (ht : -50000 ≤ t ∧ t ≤ 50000) (ha : Arr w 1) :
    Calls Tryd.prog 56 #[.int .i64 x, .int .i64 y, .int .i64 cx, .int .i64 cy, .int .i64 t] w fun e w' => e = .returned (.tuple #[.int .i64 (turnX x y cx cy t), .int .i64 (turnY x y cx cy t)]) ∧ Below w.heap.size w w' := by
  have HA := Lib.hid ha
  obtain ⟨X, hX⟩ : ∃ X, X = turnX x y cx cy t := ⟨_, rfl⟩
  obtain ⟨Y, hY⟩ : ∃ Y, Y = turnY x y cx cy t := ⟨_, rfl⟩
  rw [← hX, ← hY]
  have HX := Lib.hid hX
  have HY := Lib.hid hY
  clear hX hY ha
  go_enter Tryd.func56, Tryd.ntmps56
  go_wp2_with fail
  refine (sine_any _ _ (by omega) HA.out).mono ?_
  rintro e w1 ⟨rfl, hb1⟩
  go_wp2_with fail
  refine (sine_any _ _ (by omega) (HA.out.below (Nat.le_refl _) hb1)).mono ?_
  rintro e w2 ⟨rfl, hb2⟩
  go_wp2_with fail
  refine (round_any _ _ _ (by omega)).mono ?_
  rintro e w3 ⟨rfl, rfl⟩
  go_wp2_with fail
  refine (round_any _ _ _ (by omega)).mono ?_
  rintro e w3 ⟨rfl, rfl⟩
  go_wp2_with fail
  go_ret2
  exact ⟨by rw [HX.out, HY.out]; rfl, hb1.trans (hb2.mono hb1.size)⟩
theorem still_of {P : Program} {f : FuncId} {args : Array Value} {w : World} {v : Value} (h : Calls P f args w fun e w' => e = .returned v ∧ w = w') : Calls P f args w fun e w'' => e = .returned v ∧ w'' = w :=
  h.mono fun e w'' ⟨h1, h2⟩ => ⟨h1, h2.symm⟩
set_option maxHeartbeats 1000000 in
theorem turnPoint_any (x y cx cy t : Int) (w : World) (ht : -50000 ≤ t ∧ t ≤ 50000) (ha : Arr w 6) :
    Calls Tryd.prog 78 #[.agg #[.int .i64 x, .int .i64 y], .agg #[.int .i64 cx, .int .i64 cy], .int .i64 t] w fun e w' => e = .returned (.agg #[.int .i64 (turnX x y cx cy t), .int .i64 (turnY x y cx cy t)]) ∧ Below w.heap.size w w' := by
  have HA := Lib.hid ha
  obtain ⟨X, hX⟩ : ∃ X, X = turnX x y cx cy t := ⟨_, rfl⟩
  obtain ⟨Y, hY⟩ : ∃ Y, Y = turnY x y cx cy t := ⟨_, rfl⟩
  rw [← hX, ← hY]
  have HX := Lib.hid hX
  have HY := Lib.hid hY
  clear hX hY ha
  go_enter Tryd.func78, Tryd.ntmps78
  go_wp2_with fail
  obtain ⟨w0, hw0⟩ : ∃ w0, w0 = ((w.alloc (Obj.cells #[Value.int IntKind.i64 x, Value.int IntKind.i64 y] 87)).alloc (Obj.cells #[Value.int IntKind.i64 cx, Value.int IntKind.i64 cy] 87)).alloc (Obj.cells #[Value.int IntKind.i64 0, Value.int IntKind.i64 0] 87) := ⟨_, rfl⟩
  have b0 : Blk w0 w.heap.size #[.int .i64 x, .int .i64 y] 87 := by rw [hw0]; exact ((Blk.new _ _ _).alloc _).alloc _
  have b1 : Blk w0 (w.heap.size + 1) #[.int .i64 cx, .int .i64 cy] 87 := by
    have := (Blk.new (w.alloc (Obj.cells #[Value.int IntKind.i64 x, Value.int IntKind.i64 y] 87)) #[.int .i64 cx, .int .i64 cy] 87).alloc (Obj.cells #[Value.int IntKind.i64 0, Value.int IntKind.i64 0] 87)
    rw [World.size_alloc] at this
    rw [hw0]; exact this
  have b2 : Blk w0 (w.heap.size + 1 + 1) #[.int .i64 0, .int .i64 0] 87 := by
    have := Blk.new ((w.alloc (Obj.cells #[Value.int IntKind.i64 x, Value.int IntKind.i64 y] 87)).alloc (Obj.cells #[Value.int IntKind.i64 cx, Value.int IntKind.i64 cy] 87)) #[.int .i64 0, .int .i64 0] 87
    rw [World.size_alloc, World.size_alloc] at this
    rw [hw0]; exact this
  have hbw : Below w.heap.size w w0 := by rw [hw0]; exact (((Below.refl _ _).alloc (Nat.le_refl _) _).alloc (by simp) _).alloc (by simp; omega) _
  have hs0 : w0.heap.size = w.heap.size + 1 + 1 + 1 := by rw [hw0]; simp
  rw [← hw0]
  clear hw0
  refine (sineR_any _ _ (by omega) (HA.out.below (Nat.le_refl _) hbw)).mono ?_
  rintro e w1 ⟨rfl, hb1⟩
  go_wp2_with fail
  refine (sineR_any _ _ (by omega) ((HA.out.below (Nat.le_refl _) hbw).below (Nat.le_refl _) hb1)).mono ?_
  rintro e w2 ⟨rfl, hb2⟩
  have hb := hb1.trans (hb2.mono hb1.size)
  have hs2 := hb.size
  have b0 := b0.below hb (by omega)
  have b1 := b1.below hb (by omega)
  have b2 := b2.below hb (by omega)
  have hbel : Below w.heap.size w w2 := hbw.trans (hb.mono hbw.size)
  clear hb1 hb2 hb hbw
  have z0 : w.heap.size < w2.heap.size := by omega
  have z1 : w.heap.size + 1 < w2.heap.size := by omega
  have z2 : w.heap.size + 1 + 1 < w2.heap.size := by omega
  have c0 : w2.cell? ⟨w.heap.size, 0, none⟩ = some (.int .i64 x) := b0.cell (i := 0) rfl
  have c1 : w2.cell? ⟨w.heap.size, 1, none⟩ = some (.int .i64 y) := b0.cell (i := 1) rfl
  have c2 : w2.cell? ⟨w.heap.size + 1, 0, none⟩ = some (.int .i64 cx) := b1.cell (i := 0) rfl
  have c3 : w2.cell? ⟨w.heap.size + 1, 1, none⟩ = some (.int .i64 cy) := b1.cell (i := 1) rfl
  clear b0 b1
  clear hs0 hs2
  go_wp2_with fail
  go_quiet (fail)
  obtain ⟨w3, hw3⟩ : ∃ w3, w3 = w2.drewN nq := ⟨_, rfl⟩
  rw [← hw3]
  have B2 : Blk w3 (w.heap.size + 1 + 1) #[.int .i64 0, .int .i64 0] 87 := by rw [hw3]; exact b2.drewN _
  have hbel3 : Below w.heap.size w w3 := by rw [hw3]; exact below_drewN hbel _
  have Z0 : w.heap.size < w3.heap.size := by rw [hw3]; exact z0
  have Z1 : w.heap.size + 1 < w3.heap.size := by rw [hw3]; exact z1
  have Z2 : w.heap.size + 1 + 1 < w3.heap.size := by rw [hw3]; exact z2
  have d2 : w3.cell? ⟨w.heap.size + 1, 0, none⟩ = some (.int .i64 cx) := by rw [hw3]; exact c2
  have d3 : w3.cell? ⟨w.heap.size + 1, 1, none⟩ = some (.int .i64 cy) := by rw [hw3]; exact c3
  clear hw3 c0 c1 c2 c3 z0 z1 z2 b2 hbel
  go_wp2_with fail
  have HN := Lib.hid (fun a w => still_of (near_any a 131072 w (by omega)))
  refine wp_region_still_tail 25 (by kernel_rfl) (by kernel_rfl) ?_
  simp only [List.take_succ_cons, List.take_zero, List.drop_succ_cons, List.drop_zero]
  repeat still_step
  (refine wpStill_step (fun K hK => ?_); go_simp; with_reducible refine ⟨_, HN.out _ _, hK _ ?_⟩; clear hK K)
  repeat still_step
  (refine wpStill_step (fun K hK => ?_); go_simp; with_reducible refine ⟨_, HN.out _ _, hK _ ?_⟩; clear hK K)
  repeat still_step
  try refine wpStill_nil ?_
  change wpList _ _ _ _ _ w3.drew
  obtain ⟨we, hwe⟩ : ∃ we, we = w3.drew := ⟨_, rfl⟩
  rw [← hwe]
  have B3 : Blk we (w.heap.size + 1 + 1) #[.int .i64 0, .int .i64 0] 87 := by rw [hwe]; exact B2.drew
  have hbel4 : Below w.heap.size w we := by rw [hwe]; exact Below.drew hbel3
  have y2 : w.heap.size + 1 + 1 < we.heap.size := B3.lt
  have fz0 := B3.frozen 0
  have fz1 := B3.frozen 1
  have l0 : we.cell? ⟨w.heap.size + 1 + 1, 0, none⟩ = some (.int .i64 0) := B3.cell (i := 0) rfl
  have l1 : we.cell? ⟨w.heap.size + 1 + 1, 1, none⟩ = some (.int .i64 0) := B3.cell (i := 1) rfl
  clear hwe B2 hbel3 Z0 Z1 Z2 d2 d3
  go_wp2_with fail
  have EX : rnd (wrap64 (wrap64 (wrap64 (65536 * cx) + wrap64 (wrap64 (wrap64 (2 * x) - cx) * sin (t + 900))) - wrap64 (wrap64 (wrap64 (2 * y) - cy) * sin t))) 131072 = X := by
    rw [HX.out]; unfold turnX; rw [Int.mul_comm 65536 cx]
  have EY : rnd (wrap64 (wrap64 (wrap64 (65536 * cy) + wrap64 (wrap64 (wrap64 (2 * x) - cx) * sin t)) + wrap64 (wrap64 (wrap64 (2 * y) - cy) * sin (t + 900)))) 131072 = Y := by
    rw [HY.out]; unfold turnY; rw [Int.mul_comm 65536 cy]
  simp only [IntWalk.i64_left, EX, EY]
  have B4 := (B3.set 0 (.int .i64 X)).set 1 (.int .i64 Y)
  simp only [List.setIfInBounds_toArray, List.set_cons_zero, List.set_cons_succ] at B4
  (try simp only [Exit.inBlock, Exit.then])
  refine bodyPost_ret (v := .agg #[.int .i64 X, .int .i64 Y]) ?rc rfl ?_
  case rc => exact results_cell_row rfl _ _ (w.heap.size + 1 + 1) 87 _ (0, 0) _ rfl B4 Tryd.underlying87 rfl (by kernel_rfl)
  refine ⟨rfl, ?_⟩
  repeat' (with_reducible first | exact Below.refl _ _ | assumption | refine Below.setCell ?_ ?_ _ | refine Below.alloc ?_ ?_ _ | refine below_drewN ?_ _ | refine Below.drew ?_)
  all_goals first | omega | (simp; done) | (simp; omega)
set_option maxHeartbeats 1000000 in
theorem middle_any (z0 z1 z2 z3 z4 z5 z6 z7 z8 z9 : Int) (s1 s2 : Value) (w : World) :
    Calls Tryd.prog 79 #[.agg #[.int .i64 z0, .int .i64 z1, .int .i64 z2, .int .i64 z3, .int .i64 z4, .int .i64 z5, .int .i64 z6, .int .i64 z7, .int .i64 z8, .int .i64 z9, s1, s2]] w fun e w' => e = .returned (.agg #[.int .i64 (wrap64 (wrap64 (2 * z3) + z5)), .int .i64 (wrap64 (wrap64 (2 * z4) + z6))]) ∧ Below w.heap.size w w' := by
  go_enter Tryd.func79, Tryd.ntmps79
  go_wp2_with fail
  have B4 := Blk.new (w.alloc (Obj.cells #[.int .i64 z0, .int .i64 z1, .int .i64 z2, .int .i64 z3, .int .i64 z4, .int .i64 z5, .int .i64 z6, .int .i64 z7, .int .i64 z8, .int .i64 z9, s1, s2] 30)) #[.int .i64 (wrap64 (wrap64 (2 * z3) + z5)), .int .i64 (wrap64 (wrap64 (2 * z4) + z6))] 87
  simp only [World.size_alloc] at B4
  (try simp only [Exit.inBlock, Exit.then])
  refine bodyPost_ret (v := .agg #[.int .i64 (wrap64 (wrap64 (2 * z3) + z5)), .int .i64 (wrap64 (wrap64 (2 * z4) + z6))]) ?rc rfl ?_
  case rc => exact results_cell_row rfl _ _ (w.heap.size + 1) 87 _ (0, 0) _ rfl B4 Tryd.underlying87 rfl (by kernel_rfl)
  refine ⟨rfl, ?_⟩
  repeat' (with_reducible first | exact Below.refl _ _ | assumption | refine Below.setCell ?_ ?_ _ | refine Below.alloc ?_ ?_ _ | refine below_drewN ?_ _ | refine Below.drew ?_)
  all_goals first | omega | (simp; done) | (simp; omega)
end Go.Proofs.YtabnohphgegflaaDoor.ShT
