

/-
  TablesCuts: the law's walk.
-/
import Derived.Test.YtabnohphgegflaaTbCuts
import Derived.Test.YtabnohphgegflaaTbErr
import Derived.Test.YtabnohphgegflaaTbCut
import Derived.Test.YtabnohphgegflaaTbTwo
import Derived.Test.YtabnohphgegflaaSameInts
import Derived.Deep.CutRange
namespace Go.Proofs.Ytabnohphgegflaa.TB
open Go.RowKit Go.Law Go.Law.Tb Ref
set_option linter.unusedVariables false
set_option linter.unusedSimpArgs false
theorem b_no {b : Bool} (h : ¬ b = true) : b = false := by simpa using h
def TrueB (w : World) (e : Ending) (w' : World) : Prop := e = .returned (.bool true) ∧ Below w.heap.size w w'
theorem two_cells (w : World) (g : Nat) (hb : Blk w g #[.int .i64 0, .int .i64 0, .int .i64 1, .int .i64 1, .slice none 0 0, .int .i64 0, .int .i64 0, .int .i64 0, .int .i64 0, .int .i64 1, .int .i64 0, .int .i64 1, .int .i64 1, .slice none 0 0, .int .i64 0, .int .i64 0, .int .i64 0, .int .i64 0, .int .i64 2, .int .i64 0, .int .i64 1, .int .i64 1, .slice none 0 0, .int .i64 0, .int .i64 0, .int .i64 0, .int .i64 0] 44) (c : Nat) : TabOk w (twoT (some ⟨g, 0, none⟩) c) := by
  refine ⟨fun _ => ⟨g, 0, rfl, fun i hi j hj => ?_⟩, fun i hi => ⟨fun h => absurd h (by show ¬ 0 < 0; omega), fun k hk => absurd hk (by show ¬ k < 0; omega)⟩⟩
  have hi3 : i < 3 := hi
  refine hb.cell ?_
  obtain rfl | rfl | rfl : i = 0 ∨ i = 1 ∨ i = 2 := by omega
  all_goals
    obtain rfl | rfl | rfl | rfl | rfl | rfl | rfl | rfl | rfl : j = 0 ∨ j = 1 ∨ j = 2 ∨ j = 3 ∨ j = 4 ∨ j = 5 ∨ j = 6 ∨ j = 7 ∨ j = 8 := by omega
    all_goals rfl
set_option maxRecDepth 100000
set_option maxHeartbeats 8000000 in
theorem cutsLaw_any (t : TabD) (w : World) (hc : TabOk w t) (hcap : TabCap t) : Calls Try.prog 4 #[.agg t.cells.toArray] w (TrueB w) := by
  obtain ⟨T0, hT⟩ : ∃ T, T = t := ⟨_, rfl⟩
  have HTT := Lib.hid hT
  rw [← hT] at hc hcap
  have HC := Lib.hid hc
  have HCP := Lib.hid hcap
  clear hc hT hcap
  obtain ⟨rows, cols, tn, ta, tc, tcell, width, head, align, tnode⟩ := t
  unfold TabD.cells
  go_enter Try.func4, Try.ntmps4
  go_upto_region 2 with fail
  obtain ⟨w1, hw1⟩ : ∃ w1, w1 = ((w.alloc (.cells #[.int .i64 rows, .int .i64 cols, .slice ta tn tc, .int .i64 width, .int .i64 head, .int .i64 align, .int .i64 tnode] 41)).alloc (.cells #[.int .i64 0, .int .i64 0, .int .i64 1, .int .i64 1, .slice none 0 0, .int .i64 0, .int .i64 0, .int .i64 0, .int .i64 0, .int .i64 1, .int .i64 0, .int .i64 1, .int .i64 1, .slice none 0 0, .int .i64 0, .int .i64 0, .int .i64 0, .int .i64 0, .int .i64 2, .int .i64 0, .int .i64 1, .int .i64 1, .slice none 0 0, .int .i64 0, .int .i64 0, .int .i64 0, .int .i64 0] 44)).alloc (.cells #[.int .i64 3, .int .i64 1, .slice (some ⟨w.heap.size + 1, 0, none⟩) 3 3, .int .i64 0, .int .i64 1, .int .i64 0, .int .i64 0] 41) := ⟨_, rfl⟩
  have HB1 := Lib.hid (show Below w.heap.size w w1 from by rw [hw1]; exact (((Below.refl _ _).alloc (Nat.le_refl _) _).alloc (by simp) _).alloc (by simp; omega) _)
  have HKT := Lib.hid (show Blk w1 w.heap.size #[.int .i64 rows, .int .i64 cols, .slice ta tn tc, .int .i64 width, .int .i64 head, .int .i64 align, .int .i64 tnode] 41 from by rw [hw1]; exact ((Blk.new w _ _).alloc _).alloc _)
  have HKW := Lib.hid (show TabOk w1 (twoT (some ⟨w.heap.size + 1, 0, none⟩) 3) from by
    rw [hw1]
    refine two_cells _ _ ?_ _
    have := Blk.new (w.alloc (.cells #[.int .i64 rows, .int .i64 cols, .slice ta tn tc, .int .i64 width, .int .i64 head, .int .i64 align, .int .i64 tnode] 41)) #[.int .i64 0, .int .i64 0, .int .i64 1, .int .i64 1, .slice none 0 0, .int .i64 0, .int .i64 0, .int .i64 0, .int .i64 0, .int .i64 1, .int .i64 0, .int .i64 1, .int .i64 1, .slice none 0 0, .int .i64 0, .int .i64 0, .int .i64 0, .int .i64 0, .int .i64 2, .int .i64 0, .int .i64 1, .int .i64 1, .slice none 0 0, .int .i64 0, .int .i64 0, .int .i64 0, .int .i64 0] 44
    rw [World.size_alloc] at this
    exact this.alloc _)
  obtain ⟨kv, hkv⟩ : ∃ kv, kv = w.heap.size + 1 + 1 := ⟨_, rfl⟩
  have HKV := Lib.hid (show Blk w1 kv #[.int .i64 3, .int .i64 1, .slice (some ⟨w.heap.size + 1, 0, none⟩) 3 3, .int .i64 0, .int .i64 1, .int .i64 0, .int .i64 0] 41 from by
    have := Blk.new ((w.alloc (.cells #[.int .i64 rows, .int .i64 cols, .slice ta tn tc, .int .i64 width, .int .i64 head, .int .i64 align, .int .i64 tnode] 41)).alloc (.cells #[.int .i64 0, .int .i64 0, .int .i64 1, .int .i64 1, .slice none 0 0, .int .i64 0, .int .i64 0, .int .i64 0, .int .i64 0, .int .i64 1, .int .i64 0, .int .i64 1, .int .i64 1, .slice none 0 0, .int .i64 0, .int .i64 0, .int .i64 0, .int .i64 0, .int .i64 2, .int .i64 0, .int .i64 1, .int .i64 1, .slice none 0 0, .int .i64 0, .int .i64 0, .int .i64 0, .int .i64 0] 44)) #[.int .i64 3, .int .i64 1, .slice (some ⟨w.heap.size + 1, 0, none⟩) 3 3, .int .i64 0, .int .i64 1, .int .i64 0, .int .i64 0] 41
    rw [World.size_alloc, World.size_alloc, ← hw1, ← hkv] at this
    exact this)
  rw [← hw1, ← hkv]
  clear hw1 hkv
  obtain ⟨ka, hka⟩ : ∃ ka : Addr, ka = ⟨w.heap.size + 1, 0, none⟩ := ⟨_, rfl⟩
  rw [← hka] at HKW HKV ⊢
  clear hka
  have z0 : w1.cell? ⟨kv, 0, none⟩ = some (.int .i64 3) := HKV.out.cell (i := 0) rfl
  have z1 : w1.cell? ⟨kv, 1, none⟩ = some (.int .i64 1) := HKV.out.cell (i := 1) rfl
  have z2 : w1.cell? ⟨kv, 2, none⟩ = some (.slice (some ka) 3 3) := HKV.out.cell (i := 2) rfl
  have z3 : w1.cell? ⟨kv, 3, none⟩ = some (.int .i64 0) := HKV.out.cell (i := 3) rfl
  have z4 : w1.cell? ⟨kv, 4, none⟩ = some (.int .i64 1) := HKV.out.cell (i := 4) rfl
  have z5 : w1.cell? ⟨kv, 5, none⟩ = some (.int .i64 0) := HKV.out.cell (i := 5) rfl
  have z6 : w1.cell? ⟨kv, 6, none⟩ = some (.int .i64 0) := HKV.out.cell (i := 6) rfl
  go_wp2_with fail
  refine (cuts_ok (twoT (some ka) 3) w1 HKW.out (two_tab _ _)).mono ?_
  rintro e w2 ⟨v, rfl, hrow, hb2⟩
  rw [show ((twoT (some ka) 3).rows + 1).toNat = 4 from rfl, two_cut] at hrow
  obtain ⟨va, vc, hv, _, _, hints⟩ := RowL.ints (L := [2]) hrow rfl
  subst hv
  have HIN := Lib.hid hints
  have HB2 := Lib.hid hb2
  clear hrow hints hb2 z0 z1 z2 z3 z4 z5 z6
  go_wp2_with fail
  refine (same_any 1 1 (fun i => [(2 : Int)].getD i 0) (fun _ => 2) va (some ⟨w2.heap.size, 0, none⟩) vc 1 _ (HIN.out.below (Nat.le_refl _) ((Below.refl _ _).alloc (Nat.le_refl _) _)) (fun _ => ⟨w2.heap.size, 0, rfl, fun i hi => ?_⟩) (by omega) (by omega)).mono ?_
  case refine_1 =>
    obtain rfl : i = 0 := by omega
    exact (Blk.new w2 _ _).cell (i := 0) rfl
  rintro e w3 ⟨rfl, hb3⟩
  rw [show sameB 1 1 (fun i => [(2 : Int)].getD i 0) (fun _ => 2) = true from rfl]
  have HB3 := Lib.hid (((Below.refl w2.heap.size w2).alloc (Nat.le_refl _) (.cells #[.int .i64 2] 3)).trans (hb3.mono (by simp)))
  have HB13 := Lib.hid (HB2.out.trans (HB3.out.mono HB2.out.size))
  have HV3 := Lib.hid (HKV.out.below HB13.out HKV.out.lt)
  clear hb3 HKV
  have z0 : w3.cell? ⟨kv, 0, none⟩ = some (.int .i64 3) := HV3.out.cell (i := 0) rfl
  have z1 : w3.cell? ⟨kv, 1, none⟩ = some (.int .i64 1) := HV3.out.cell (i := 1) rfl
  have z2 : w3.cell? ⟨kv, 2, none⟩ = some (.slice (some ka) 3 3) := HV3.out.cell (i := 2) rfl
  have z3 : w3.cell? ⟨kv, 3, none⟩ = some (.int .i64 0) := HV3.out.cell (i := 3) rfl
  have z4 : w3.cell? ⟨kv, 4, none⟩ = some (.int .i64 1) := HV3.out.cell (i := 4) rfl
  have z5 : w3.cell? ⟨kv, 5, none⟩ = some (.int .i64 0) := HV3.out.cell (i := 5) rfl
  have z6 : w3.cell? ⟨kv, 6, none⟩ = some (.int .i64 0) := HV3.out.cell (i := 6) rfl
  go_wp2_with fail
  refine (head_any (twoT (some ka) 3) w3 (HKW.out.below (Nat.le_refl _) HB13.out) (two_tab _ _)).mono ?_
  rintro e w4 ⟨rfl, hb4⟩
  rw [two_head]
  have HB4 := Lib.hid (HB1.out.trans ((HB13.out.trans (hb4.mono HB13.out.size)).mono HB1.out.size))
  have HT4 := Lib.hid (HKT.out.below (HB13.out.trans (hb4.mono HB13.out.size)) HKT.out.lt)
  clear hb4 z0 z1 z2 z3 z4 z5 z6 HB1 HB13 HB2 HB3 HV3 HKT HKW HIN
  have y0 : w4.cell? ⟨w.heap.size, 0, none⟩ = some (.int .i64 rows) := HT4.out.cell (i := 0) rfl
  have y1 : w4.cell? ⟨w.heap.size, 1, none⟩ = some (.int .i64 cols) := HT4.out.cell (i := 1) rfl
  have y2 : w4.cell? ⟨w.heap.size, 2, none⟩ = some (.slice ta tn tc) := HT4.out.cell (i := 2) rfl
  have y3 : w4.cell? ⟨w.heap.size, 3, none⟩ = some (.int .i64 width) := HT4.out.cell (i := 3) rfl
  have y4 : w4.cell? ⟨w.heap.size, 4, none⟩ = some (.int .i64 head) := HT4.out.cell (i := 4) rfl
  have y5 : w4.cell? ⟨w.heap.size, 5, none⟩ = some (.int .i64 align) := HT4.out.cell (i := 5) rfl
  have y6 : w4.cell? ⟨w.heap.size, 6, none⟩ = some (.int .i64 tnode) := HT4.out.cell (i := 6) rfl
  go_wp2_with fail
  refine (cutTable_any ⟨rows, cols, tn, ta, tc, tcell, width, head, align, tnode⟩ w w4 (by rw [← HTT.out]; exact HC.out) HB4.out (by rw [← HTT.out]; exact HCP.out)).mono ?_
  rintro e w5 ⟨T, rfl, hok, hn12, hcap, hb5⟩
  obtain ⟨TC, hTC⟩ : ∃ TC, TC = T := ⟨_, rfl⟩
  have HTC := Lib.hid hTC
  rw [← hTC] at hok hcap
  have HOK := Lib.hid hok
  have HCAP := Lib.hid hcap
  have HB5 := Lib.hid hb5
  clear hok hn12 hcap hb5 hTC y0 y1 y2 y3 y4 y5 y6
  obtain ⟨R, C, m, a, cc, cell, Wi, H, A, N⟩ := T
  unfold TabD.cells
  have HT5 := Lib.hid (HT4.out.below HB5.out HT4.out.lt)
  have y0 : w5.cell? ⟨w.heap.size, 0, none⟩ = some (.int .i64 rows) := HT5.out.cell (i := 0) rfl
  have y1 : w5.cell? ⟨w.heap.size, 1, none⟩ = some (.int .i64 cols) := HT5.out.cell (i := 1) rfl
  have y2 : w5.cell? ⟨w.heap.size, 2, none⟩ = some (.slice ta tn tc) := HT5.out.cell (i := 2) rfl
  have y3 : w5.cell? ⟨w.heap.size, 3, none⟩ = some (.int .i64 width) := HT5.out.cell (i := 3) rfl
  have y4 : w5.cell? ⟨w.heap.size, 4, none⟩ = some (.int .i64 head) := HT5.out.cell (i := 4) rfl
  have y5 : w5.cell? ⟨w.heap.size, 5, none⟩ = some (.int .i64 align) := HT5.out.cell (i := 5) rfl
  have y6 : w5.cell? ⟨w.heap.size, 6, none⟩ = some (.int .i64 tnode) := HT5.out.cell (i := 6) rfl
  have fy := HT5.out.frozen
  have zy := HT5.out.lt
  go_upto_region 6 with fail
  obtain ⟨w6, hw6⟩ : ∃ w6, w6 = ((((((w5.setCell ⟨w.heap.size, 0, none⟩ (.int .i64 R)).setCell ⟨w.heap.size, 1, none⟩ (.int .i64 C)).setCell ⟨w.heap.size, 2, none⟩ (.slice a m cc)).setCell ⟨w.heap.size, 3, none⟩ (.int .i64 Wi)).setCell ⟨w.heap.size, 4, none⟩ (.int .i64 H)).setCell ⟨w.heap.size, 5, none⟩ (.int .i64 A)).setCell ⟨w.heap.size, 6, none⟩ (.int .i64 N) := ⟨_, rfl⟩
  have hT6 := (((((((HT5.out.set 0 (.int .i64 R)).set 1 (.int .i64 C)).set 2 (.slice a m cc)).set 3 (.int .i64 Wi)).set 4 (.int .i64 H)).set 5 (.int .i64 A)).set 6 (.int .i64 N))
  simp only [List.setIfInBounds_toArray, List.set_cons_zero, List.set_cons_succ] at hT6
  rw [← hw6] at hT6
  have ho := ((((((((Aside.refl _ _ _ : Only w.heap.size w5 w5).setR 0 (.int .i64 R)).setR 1 (.int .i64 C)).setR 2 (.slice a m cc)).setR 3 (.int .i64 Wi)).setR 4 (.int .i64 H)).setR 5 (.int .i64 A)).setR 6 (.int .i64 N))
  rw [← hw6] at ho
  have HB45 := Lib.hid (HB4.out.trans (HB5.out.mono HB4.out.size))
  have HB6 := Lib.hid (show Below w.heap.size w w6 from HB45.out.trans (Only.to_below ho HB45.out.size (Nat.le_refl _)))
  have HT6 := Lib.hid hT6
  have hz4 := HT4.out.lt
  have HOK6 := Lib.hid (show TabOk w6 TC from HOK.out w6 (fun k h1 h2 => Aside.block ho k h2 (by omega) (by simp [Value.ownBlock])) HB6.out)
  rw [← hw6]
  clear hw6 hT6 ho y0 y1 y2 y3 y4 y5 y6 fy zy hz4 HT4 HT5 HB4 HB45 HB5 HOK
  have y0 : w6.cell? ⟨w.heap.size, 0, none⟩ = some (.int .i64 R) := HT6.out.cell (i := 0) rfl
  have y1 : w6.cell? ⟨w.heap.size, 1, none⟩ = some (.int .i64 C) := HT6.out.cell (i := 1) rfl
  have y2 : w6.cell? ⟨w.heap.size, 2, none⟩ = some (.slice a m cc) := HT6.out.cell (i := 2) rfl
  have y3 : w6.cell? ⟨w.heap.size, 3, none⟩ = some (.int .i64 Wi) := HT6.out.cell (i := 3) rfl
  have y4 : w6.cell? ⟨w.heap.size, 4, none⟩ = some (.int .i64 H) := HT6.out.cell (i := 4) rfl
  have y5 : w6.cell? ⟨w.heap.size, 5, none⟩ = some (.int .i64 A) := HT6.out.cell (i := 5) rfl
  have y6 : w6.cell? ⟨w.heap.size, 6, none⟩ = some (.int .i64 N) := HT6.out.cell (i := 6) rfl
  by_cases hE : tabE TC = 0
  case neg =>
    obtain ⟨V, hV⟩ : ∃ V, V = tabE TC := ⟨_, rfl⟩
    have HV := Lib.hid hV
    have HNE := Lib.hid hE
    have g : (V != 0) = true := by rw [hV]; simpa using hE
    clear hV hE
    go_wp2_with fail
    refine (cuts_bad ⟨R, C, m, a, cc, cell, Wi, H, A, N⟩ w6 (by rw [← HTC.out]; exact HOK6.out) (by rw [← HTC.out]; exact HNE.out)).mono ?_
    rintro e w7 ⟨rfl, hb7⟩
    rw [← HTC.out, ← HV.out]
    have HB7 := Lib.hid hb7
    have HT7 := Lib.hid (HT6.out.below hb7 HT6.out.lt)
    clear hb7 y0 y1 y2 y3 y4 y5 y6
    have y0 : w7.cell? ⟨w.heap.size, 0, none⟩ = some (.int .i64 R) := (HT7).out.cell (i := 0) rfl
    have y1 : w7.cell? ⟨w.heap.size, 1, none⟩ = some (.int .i64 C) := (HT7).out.cell (i := 1) rfl
    have y2 : w7.cell? ⟨w.heap.size, 2, none⟩ = some (.slice a m cc) := (HT7).out.cell (i := 2) rfl
    have y3 : w7.cell? ⟨w.heap.size, 3, none⟩ = some (.int .i64 Wi) := (HT7).out.cell (i := 3) rfl
    have y4 : w7.cell? ⟨w.heap.size, 4, none⟩ = some (.int .i64 H) := (HT7).out.cell (i := 4) rfl
    have y5 : w7.cell? ⟨w.heap.size, 5, none⟩ = some (.int .i64 A) := (HT7).out.cell (i := 5) rfl
    have y6 : w7.cell? ⟨w.heap.size, 6, none⟩ = some (.int .i64 N) := (HT7).out.cell (i := 6) rfl
    go_wp2_with fail
    refine (tableError_any ⟨R, C, m, a, cc, cell, Wi, H, A, N⟩ w7 (by rw [← HTC.out]; exact HOK6.out.below (Nat.le_refl _) HB7.out) (by rw [← HTC.out]; exact HCAP.out)).mono ?_
    rintro e w8 ⟨rfl, hb8⟩
    rw [← HTC.out, ← HV.out]
    have HB8 := Lib.hid (HB6.out.trans ((HB7.out.trans (hb8.mono HB7.out.size)).mono HB6.out.size))
    have g2 : (V == V) = true := by simp
    clear hb8 y0 y1 y2 y3 y4 y5 y6
    go_wp2_with fail
    go_ret
    exact ⟨rfl, HB8.out⟩
  have H0 := Lib.hid hE
  clear hE
  go_wp2_with fail
  refine (cuts_ok ⟨R, C, m, a, cc, cell, Wi, H, A, N⟩ w6 (by rw [← HTC.out]; exact HOK6.out) (by rw [← HTC.out]; exact H0.out)).mono ?_
  rintro e w7 ⟨v7, rfl, hrow7, hb7⟩
  rw [← HTC.out] at hrow7
  obtain ⟨L7, hL7⟩ : ∃ L7, L7 = cutL TC (TC.rows + 1).toNat := ⟨_, rfl⟩
  rw [← hL7] at hrow7
  have hn7 := cutL_len TC (TC.rows + 1).toNat
  rw [← hL7] at hn7
  have HL7 := Lib.hid hL7
  obtain ⟨a7, c7, hv7, _, _, hints7⟩ := RowL.ints (L := L7) hrow7 rfl
  obtain ⟨n7, hn7e⟩ : ∃ n7, n7 = L7.length := ⟨_, rfl⟩
  rw [← hn7e] at hv7 hints7 hn7
  subst hv7
  have HI7 := Lib.hid hints7
  have HN7 := Lib.hid hn7e
  have HNL7 := Lib.hid hn7
  clear hL7 hn7 hints7 hn7e
  have HB7 := Lib.hid hb7
  have HT7 := Lib.hid (HT6.out.below hb7 HT6.out.lt)
  clear hb7 hrow7 y0 y1 y2 y3 y4 y5 y6
  have y0 : w7.cell? ⟨w.heap.size, 0, none⟩ = some (.int .i64 R) := (HT7).out.cell (i := 0) rfl
  have y1 : w7.cell? ⟨w.heap.size, 1, none⟩ = some (.int .i64 C) := (HT7).out.cell (i := 1) rfl
  have y2 : w7.cell? ⟨w.heap.size, 2, none⟩ = some (.slice a m cc) := (HT7).out.cell (i := 2) rfl
  have y3 : w7.cell? ⟨w.heap.size, 3, none⟩ = some (.int .i64 Wi) := (HT7).out.cell (i := 3) rfl
  have y4 : w7.cell? ⟨w.heap.size, 4, none⟩ = some (.int .i64 H) := (HT7).out.cell (i := 4) rfl
  have y5 : w7.cell? ⟨w.heap.size, 5, none⟩ = some (.int .i64 A) := (HT7).out.cell (i := 5) rfl
  have y6 : w7.cell? ⟨w.heap.size, 6, none⟩ = some (.int .i64 N) := (HT7).out.cell (i := 6) rfl
  go_wp2_with fail
  refine (tableError_any ⟨R, C, m, a, cc, cell, Wi, H, A, N⟩ w7 (by rw [← HTC.out]; exact HOK6.out.below (Nat.le_refl _) HB7.out) (by rw [← HTC.out]; exact HCAP.out)).mono ?_
  rintro e w8 ⟨rfl, hb8⟩
  rw [← HTC.out, H0.out]
  have HB8 := Lib.hid hb8
  have HT8 := Lib.hid (HT7.out.below hb8 HT7.out.lt)
  clear hb8 y0 y1 y2 y3 y4 y5 y6
  have HTR := Lib.hid (show (TC.rows = R ∧ TC.cols = C ∧ TC.head = H) ∧ TC.n = m ∧ TC.cell = cell by rw [HTC.out]; exact ⟨⟨rfl, rfl, rfl⟩, rfl, rfl⟩)
  have hin := tab_in H0.out
  rw [HTR.out.1.1, HTR.out.1.2.1, HTR.out.1.2.2] at hin
  have hn4 := (tabE_zero H0.out).2.1
  rw [HTR.out.2.1] at hn4
  have hn7 := HNL7.out
  rw [HTR.out.1.1] at hn7
  obtain ⟨⟨b1, b2⟩, ⟨b3, b4⟩, b5, b6⟩ := hin
  obtain ⟨hn, hhn⟩ : ∃ hn : Nat, H = (hn : Int) := ⟨H.toNat, by omega⟩
  subst hhn
  have HI := Lib.hid (info_parts (show (Try.prog.info? 3).map (fun i => (i.zero, i.size, i.bytes)) = some (some (.int .i64 0), 1, 8) by kernel_rfl))
  have HB68 := Lib.hid (HB7.out.trans (HB8.out.mono HB7.out.size))
  have y4 : w8.cell? ⟨w.heap.size, 4, none⟩ = some (.int .i64 hn) := HT8.out.cell (i := 4) rfl
  have hz8 := HT8.out.lt
  go_wp2_with fail
  go_loopw [9, 10, 11] (fun wv hv rv wx => ∃ r : Nat, rv = .int .i64 r ∧ hn ≤ r ∧ (r : Int) ≤ R ∧ hv = .int .i64 (hdL TC r) ∧ RowL wx w8.heap.size 3 1 wv (cutL TC r).length ((cutL TC r).map (Value.int .i64)) ∧ Below w8.heap.size w8 wx) (fun _ _ rv _ => (R - intOf rv).toNat)
  case atStart =>
    have e1 : cutL TC hn = [] := cutL_low hn (by rw [HTR.out.1.2.2]; omega)
    have e2 : hdL TC hn = (hn : Int) := by have := hdL_start TC; rw [HTR.out.1.2.2] at this; exact this
    exact ⟨hn, rfl, Nat.le_refl _, b6, by rw [e2], by rw [e1]; exact RowL.nil _ _ _ _, Below.refl _ _⟩
  case round =>
    clear y4
    obtain ⟨r, rfl, hr1, hr2, rfl, hrow, hbel⟩ := hrel
    obtain ⟨wo, rfl⟩ : ∃ wo : World, wo = wr := ⟨_, rfl⟩
    have HRW := Lib.hid hrow
    have HBE := Lib.hid hbel
    have HTO := Lib.hid (HT8.out.below hbel HT8.out.lt)
    have HB6O := Lib.hid (HB68.out.trans (hbel.mono HB68.out.size))
    have hszo := hbel.size
    obtain ⟨va, vc, hv, hvc1, hvc2⟩ := RowL.slice hrow
    subst hv
    have hln := cutL_len TC r
    obtain ⟨nl, hnl⟩ : ∃ nl, nl = (cutL TC r).length := ⟨_, rfl⟩
    rw [← hnl] at hln hvc1 ⊢
    have HNL := Lib.hid hnl
    have hhb := hdL_bd (t := TC) (by rw [HTR.out.1.2.2]; omega) r
    rw [HTR.out.1.2.2] at hhb
    obtain ⟨HD, hHD⟩ : ∃ HD, HD = hdL TC r := ⟨_, rfl⟩
    rw [← hHD] at hhb ⊢
    have HHD := Lib.hid hHD
    clear hrow hbel hnl hHD
    have y0 : wo.cell? ⟨w.heap.size, 0, none⟩ = some (.int .i64 R) := HTO.out.cell (i := 0) rfl
    have y2 : wo.cell? ⟨w.heap.size, 2, none⟩ = some (.slice a m cc) := HTO.out.cell (i := 2) rfl
    by_cases hrr : (r : Int) < R
    · go_wp2_with fail
      go_loopw [12, 70] (fun fv jv wx => ∃ j : Nat, jv = .int .i64 j ∧ j ≤ m ∧ fv = .bool (freB TC j r) ∧ Below wo.heap.size wo wx) (fun _ jv _ => m - (intOf jv).toNat)
      case atStart => exact ⟨0, rfl, by omega, by rw [← freB_zero], Below.refl _ _⟩
      case round =>
        clear y0 y2
        obtain ⟨j, rfl, hj, rfl, hbj⟩ := hrel
        obtain ⟨FB, hFB⟩ : ∃ FB, FB = freB TC j r := ⟨_, rfl⟩
        rw [← hFB]
        have HFB := Lib.hid hFB
        have HBJ := Lib.hid hbj
        have HB6J := Lib.hid (HB6O.out.trans (hbj.mono HB6O.out.size))
        have hszj := hbj.size
        clear hFB hbj
        by_cases hjm : j < m
        · have hjm2 : (j : Int) < (m : Int) := by omega
          have hcs := HOK6.out.1.below (Nat.le_refl _) HB6J.out
          rw [HTC.out] at hcs
          obtain ⟨b, off, hba, hcellG⟩ := hcs (by show 0 < m; omega)
          have hcell := hcellG j hjm
          obtain ⟨x, hx⟩ : ∃ x, x = TC.cell j := ⟨_, rfl⟩
          have HX := Lib.hid hx
          simp only at hcell hba
          rw [show cell j = x by rw [hx, HTC.out]] at hcell
          clear hcellG hcs hx
          obtain ⟨row, col, ch, cw, np, ap, cp, par, pad, mn, pref, cnode⟩ := x
          have d0 : wr.cell? ⟨b, off + j * 9, none⟩ = some (.int .i64 row) := hcell 0 (by omega)
          have d1 : wr.cell? ⟨b, off + j * 9 + 1, none⟩ = some (.int .i64 col) := hcell 1 (by omega)
          have d2 : wr.cell? ⟨b, off + j * 9 + 2, none⟩ = some (.int .i64 ch) := hcell 2 (by omega)
          have d3 : wr.cell? ⟨b, off + j * 9 + 3, none⟩ = some (.int .i64 cw) := hcell 3 (by omega)
          have d4 : wr.cell? ⟨b, off + j * 9 + 4, none⟩ = some (.slice ap np cp) := hcell 4 (by omega)
          have d5 : wr.cell? ⟨b, off + j * 9 + 5, none⟩ = some (.int .i64 pad) := hcell 5 (by omega)
          have d6 : wr.cell? ⟨b, off + j * 9 + 6, none⟩ = some (.int .i64 mn) := hcell 6 (by omega)
          have d7 : wr.cell? ⟨b, off + j * 9 + 7, none⟩ = some (.int .i64 pref) := hcell 7 (by omega)
          have d8 : wr.cell? ⟨b, off + j * 9 + 8, none⟩ = some (.int .i64 cnode) := hcell 8 (by omega)
          have zb := lt_of_cell d0
          simp only at zb
          clear hcell
          subst hba
          have hcc := tab_cell H0.out (i := j) (by rw [HTR.out.2.1]; exact hjm)
          rw [HTR.out.1.1, HTR.out.1.2.1, ← HX.out] at hcc
          simp only at hcc
          obtain ⟨⟨q1, q2, q3⟩, _⟩ := hcc
          cases FB
          · have HFN := Lib.hid (freB_no HFB.out.symm)
            go_wp2_with fail
            go_roundw
            case rel => exact ⟨j + 1, by go_num, by omega, by rw [HFN.out], HBJ.out.alloc (by omega) _⟩
            case measure => simp [intOf]; omega
          · by_cases o1 : row < (r : Int)
            · by_cases o2 : (r : Int) < row + ch
              · have HFN := Lib.hid (show freB TC (j + 1) r = false from freB_over (by rw [← HX.out]; exact ⟨o1, o2⟩))
                go_wp2_with fail
                go_roundw
                case rel => exact ⟨j + 1, by go_num, by omega, by rw [HFN.out], HBJ.out.alloc (by omega) _⟩
                case measure => simp [intOf]; omega
              · have HFN := Lib.hid (show freB TC (j + 1) r = true from freB_yes HFB.out.symm (by rw [← HX.out]; exact fun h => o2 h.2))
                go_wp2_with fail
                go_roundw
                case rel => exact ⟨j + 1, by go_num, by omega, by rw [HFN.out], HBJ.out.alloc (by omega) _⟩
                case measure => simp [intOf]; omega
            · have HFN := Lib.hid (show freB TC (j + 1) r = true from freB_yes HFB.out.symm (by rw [← HX.out]; exact fun h => o1 h.1))
              go_wp2_with fail
              go_roundw
              case rel => exact ⟨j + 1, by go_num, by omega, by rw [HFN.out], HBJ.out.alloc (by omega) _⟩
              case measure => simp [intOf]; omega
        · obtain rfl : m = j := by omega
          have hnn : ¬ (m : Int) < (m : Int) := by omega
          have HTJ := Lib.hid (HTO.out.below HBJ.out HTO.out.lt)
          have y4 : wr.cell? ⟨w.heap.size, 4, none⟩ = some (.int .i64 hn) := HTJ.out.cell (i := 4) rfl
          have HBEJ := Lib.hid (HBE.out.trans (HBJ.out.mono hszo))
          have HRWJ := Lib.hid (show RowL wr w8.heap.size 3 1 (.slice va nl vc) nl ((cutL TC r).map (Value.int .i64)) from by have := HRW.out.below HBJ.out (Nat.le_refl _); rw [← HNL.out] at this; exact this)
          have HCB := Lib.hid (show cutB TC r = true ↔ (hn < r ∧ FB = true) from by
            rw [cutB_free, HTR.out.1.2.2, HTR.out.1.1, HTR.out.2.1, ← HFB.out]
            constructor
            · rintro ⟨⟨h1, h2⟩, h3⟩; exact ⟨by omega, h3⟩
            · rintro ⟨h1, h2⟩; exact ⟨⟨by omega, hrr⟩, h2⟩)
          by_cases hr : hn < r
          · have HDN := Lib.hid (show hdL TC ((r + 1 : Nat) : Int) = HD from by rw [HHD.out, show ((r + 1 : Nat) : Int) = (r : Int) + 1 by omega, hdL_next (by rw [HTR.out.1.2.2]; omega)])
            have f3 : ((r : Int) == (hn : Int)) = false := by simp; omega
            cases FB
            · have HL := Lib.hid (cutL_no (t := TC) (r := r) (b_no (fun hb => by have := (HCB.out.1 hb).2; cases this)))
              go_wp2_with fail
              go_roundw
              case rel => exact ⟨r + 1, by go_num, by omega, by omega, by rw [HDN.out], by rw [HL.out, ← HNL.out]; exact HRWJ.out, HBEJ.out⟩
              case measure => simp [intOf]; omega
            · have HL := Lib.hid (cutL_yes (t := TC) (r := r) (HCB.out.2 ⟨hr, rfl⟩))
              obtain ⟨ii, hii, hz0, hz1, hz2⟩ := HI.out
              have hown := HRWJ.out
              go_upto_region 22 with fail
              go_wp2_with (at_builtin; refine wpList_append_own _ rfl _ _ 45 rfl (w8.heap.size) 3 ii (.int .i64 0) 1 8 Try.underlying45 hii hz0 hz1 hz2 rfl (by decide) _ _ _ rfl (RowL.alloc hown _) ⟨wr.heap.size, 0, none⟩ 1 1 [.int .i64 r] rfl rfl ?k1 ?k2 ?k3 ?k4 ?k5 ?_)
              try (case k1 =>
                intro j u hj
                match j, hj with
                | 0, hj => (simp at hj; subst hj; simp [Addr.add]))
              try (case k2 => first | rfl | (intro u hu; simp at hu; subst hu; rfl))
              try (case k3 => unfold maxLen; omega)
              try (case k4 => omega)
              try (case k5 => (try simp); (try omega))
              intro v9 w9 hown9 hgrow _
              have HB9 := Lib.hid (Below.grown (B := w8.heap.size) (a := w8) (HBEJ.out.alloc HBEJ.out.size _) hgrow (by have := HBEJ.out.size; simp; omega) (fun k hk => RowL.ge hown k hk))
              have HT9 := Lib.hid (HT8.out.below HB9.out hz8)
              have y49 : w9.cell? ⟨w.heap.size, 4, none⟩ = some (.int .i64 hn) := HT9.out.cell (i := 4) rfl
              have HR9 := Lib.hid (show RowL w9 w8.heap.size 3 1 v9 (cutL TC (r + 1)).length ((cutL TC (r + 1)).map (Value.int .i64)) from by
                rw [HL.out, List.map_append, List.length_append, ← HNL.out]; exact hown9)
              clear hown hown9 hgrow hii hz0 hz1 hz2 y4
              go_wp2_with fail
              go_roundw
              case rel => exact ⟨r + 1, by go_num, by omega, by omega, by rw [HDN.out], HR9.out, HB9.out⟩
              case measure => simp [intOf]; omega
          · obtain rfl : hn = r := by omega
            have HL := Lib.hid (cutL_no (t := TC) (r := hn) (b_no (fun hb => by have := (HCB.out.1 hb).1; omega)))
            have f3 : ((hn : Int) == (hn : Int)) = true := by simp
            cases FB
            · have HDN := Lib.hid (show hdL TC ((hn + 1 : Nat) : Int) = 0 from by
                have := hdL_zero (t := TC) (by rw [HTR.out.2.1, HTR.out.1.2.2]; exact HFB.out.symm)
                rw [HTR.out.1.2.2] at this
                exact this)
              go_wp2_with fail
              go_roundw
              case rel => exact ⟨hn + 1, by go_num, by omega, by omega, by rw [HDN.out], by rw [HL.out, ← HNL.out]; exact HRWJ.out, HBEJ.out⟩
              case measure => simp [intOf]; omega
            · have HDN := Lib.hid (show hdL TC ((hn + 1 : Nat) : Int) = HD from by
                have h1 : freB TC TC.n TC.head = true := by rw [HTR.out.2.1, HTR.out.1.2.2]; exact HFB.out.symm
                rw [HHD.out, hdL_same h1, hdL_same h1])
              go_wp2_with fail
              go_roundw
              case rel => exact ⟨hn + 1, by go_num, by omega, by omega, by rw [HDN.out], by rw [HL.out, ← HNL.out]; exact HRWJ.out, HBEJ.out⟩
              case measure => simp [intOf]; omega
    · have hrR : (r : Int) = R := by omega
      have HHE := Lib.hid (show (if HD = R then 0 else HD) = headE TC from by
        have := head_same H0.out
        rw [HTR.out.1.1, ← hrR, ← HHD.out] at this
        rw [← hrR]; exact this)
      have HLE := Lib.hid (show L7 = cutL TC r from by
        rw [HL7.out, HTR.out.1.1, show (R + 1).toNat = r + 1 by omega]
        refine cutL_no ?_
        cases hb : cutB TC r
        · rfl
        · have := (cutB_free.1 hb).1; rw [HTR.out.1.1] at this; omega)
      have hI7 := HI7.out.below (Nat.le_refl _) (HB8.out.trans (HBE.out.mono HB8.out.size))
      obtain ⟨va', vc', hve, _, _, hintsw⟩ := RowL.ints (L := cutL TC r) HRW.out rfl
      rw [← HNL.out] at hve hintsw
      cases hve
      have HIW := Lib.hid hintsw
      have HI7O := Lib.hid hI7
      have HSM := Lib.hid (show sameB n7 nl (fun i => L7.getD i 0) (fun i => (cutL TC r).getD i 0) = true from by
        rw [sameB_true]
        exact ⟨by rw [HN7.out, HNL.out, HLE.out], fun i hi => by rw [HLE.out]⟩)
      clear hI7 hintsw hrR
      by_cases hdR : HD = R
      · have HFI := Lib.hid (show headE TC = 0 from by rw [← HHE.out, if_pos hdR])
        have f5 : (HD == R) = true := by simpa using hdR
        clear hdR
        go_wp2_with fail
        refine (same_any n7 nl (fun i => L7.getD i 0) (fun i => (cutL TC r).getD i 0) a7 va c7 vc _ HI7O.out HIW.out (by omega) (by omega)).mono ?_
        rintro e w9 ⟨rfl, hb9⟩
        rw [HSM.out]
        have HB9 := Lib.hid hb9
        have HT9 := Lib.hid (HTO.out.below hb9 HTO.out.lt)
        clear hb9 y0 y2
        have y0 : w9.cell? ⟨w.heap.size, 0, none⟩ = some (.int .i64 R) := HT9.out.cell (i := 0) rfl
        have y1 : w9.cell? ⟨w.heap.size, 1, none⟩ = some (.int .i64 C) := HT9.out.cell (i := 1) rfl
        have y2 : w9.cell? ⟨w.heap.size, 2, none⟩ = some (.slice a m cc) := HT9.out.cell (i := 2) rfl
        have y3 : w9.cell? ⟨w.heap.size, 3, none⟩ = some (.int .i64 Wi) := HT9.out.cell (i := 3) rfl
        have y4 : w9.cell? ⟨w.heap.size, 4, none⟩ = some (.int .i64 hn) := HT9.out.cell (i := 4) rfl
        have y5 : w9.cell? ⟨w.heap.size, 5, none⟩ = some (.int .i64 A) := HT9.out.cell (i := 5) rfl
        have y6 : w9.cell? ⟨w.heap.size, 6, none⟩ = some (.int .i64 N) := HT9.out.cell (i := 6) rfl
        have HB69 := Lib.hid (HB68.out.trans ((HBE.out.trans (HB9.out.mono HBE.out.size)).mono HB68.out.size))
        go_wp2_with fail
        refine (head_any ⟨R, C, m, a, cc, cell, Wi, hn, A, N⟩ w9 (by rw [← HTC.out]; exact HOK6.out.below (Nat.le_refl _) HB69.out) (by rw [← HTC.out]; exact H0.out)).mono ?_
        rintro e w10 ⟨rfl, hb10⟩
        rw [← HTC.out, HFI.out]
        have HB10 := Lib.hid (HB6.out.trans ((HB69.out.trans (hb10.mono HB69.out.size)).mono HB6.out.size))
        clear hb10 y0 y1 y2 y3 y4 y5 y6
        go_wp2_with fail
        go_ret
        exact ⟨by first | rfl | simp, HB10.out⟩
      · have HFI := Lib.hid (show headE TC = HD from by rw [← HHE.out, if_neg hdR])
        have f5 : (HD == R) = false := by simpa using hdR
        clear hdR
        go_wp2_with fail
        refine (same_any n7 nl (fun i => L7.getD i 0) (fun i => (cutL TC r).getD i 0) a7 va c7 vc _ HI7O.out HIW.out (by omega) (by omega)).mono ?_
        rintro e w9 ⟨rfl, hb9⟩
        rw [HSM.out]
        have HB9 := Lib.hid hb9
        have HT9 := Lib.hid (HTO.out.below hb9 HTO.out.lt)
        clear hb9 y0 y2
        have y0 : w9.cell? ⟨w.heap.size, 0, none⟩ = some (.int .i64 R) := HT9.out.cell (i := 0) rfl
        have y1 : w9.cell? ⟨w.heap.size, 1, none⟩ = some (.int .i64 C) := HT9.out.cell (i := 1) rfl
        have y2 : w9.cell? ⟨w.heap.size, 2, none⟩ = some (.slice a m cc) := HT9.out.cell (i := 2) rfl
        have y3 : w9.cell? ⟨w.heap.size, 3, none⟩ = some (.int .i64 Wi) := HT9.out.cell (i := 3) rfl
        have y4 : w9.cell? ⟨w.heap.size, 4, none⟩ = some (.int .i64 hn) := HT9.out.cell (i := 4) rfl
        have y5 : w9.cell? ⟨w.heap.size, 5, none⟩ = some (.int .i64 A) := HT9.out.cell (i := 5) rfl
        have y6 : w9.cell? ⟨w.heap.size, 6, none⟩ = some (.int .i64 N) := HT9.out.cell (i := 6) rfl
        have HB69 := Lib.hid (HB68.out.trans ((HBE.out.trans (HB9.out.mono HBE.out.size)).mono HB68.out.size))
        go_wp2_with fail
        refine (head_any ⟨R, C, m, a, cc, cell, Wi, hn, A, N⟩ w9 (by rw [← HTC.out]; exact HOK6.out.below (Nat.le_refl _) HB69.out) (by rw [← HTC.out]; exact H0.out)).mono ?_
        rintro e w10 ⟨rfl, hb10⟩
        rw [← HTC.out, HFI.out]
        have HB10 := Lib.hid (HB6.out.trans ((HB69.out.trans (hb10.mono HB69.out.size)).mono HB6.out.size))
        clear hb10 y0 y1 y2 y3 y4 y5 y6
        go_wp2_with fail
        go_ret
        exact ⟨by first | rfl | simp, HB10.out⟩
end Go.Proofs.Ytabnohphgegflaa.TB
