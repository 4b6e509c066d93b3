

/-
  frame, extent: the program's.
-/
import Derived.Test.YtabnohphgegflaaDoorSaPlain
import Derived.Test.YtabnohphgegflaaDoorShTurn
import Derived.Test.YtabnohphgegflaaDoorBlk
namespace Go.Proofs.YtabnohphgegflaaDoor.ShT
open Go.RowKit Go.Law Go.Law.Sh
set_option linter.unusedVariables false
set_option linter.unusedSimpArgs false
set_option maxRecDepth 100000
attribute [local go_sem] idx0 idx1 idx2 idx3
theorem Blk.cast {w : World} {g : Nat} {a b : Array Value} {T : TypeId} (h : Blk w g a T) (e : a = b) : Blk w g b T := e ▸ h
set_option maxHeartbeats 4000000 in
theorem frame_any (k : Nat) (E : Nat → Nat → Int) (N : Nat → Nat → ByteArray) (w : World) (hbx : boxS (E k)) (ht : Arr w 1) :
    Calls Tryd.prog 39 #[.agg #[.int .i64 (E k 0), .int .i64 (E k 1), .int .i64 (E k 2), .int .i64 (E k 3), .int .i64 (E k 4), .int .i64 (E k 5), .int .i64 (E k 6), .int .i64 (E k 7), .int .i64 (E k 8), .int .i64 (E k 9), .string (N k 0), .string (N k 1)]] w fun e w' => e = .returned (.agg (frA (E k))) ∧ Below w.heap.size w w' := by
  have HT := Lib.hid ht
  unfold boxS at hbx
  obtain ⟨⟨r1, r2⟩, ⟨r3, r4⟩, ⟨r5, r6⟩, ⟨r7, r8⟩, ⟨r9, r10⟩⟩ := hbx
  obtain ⟨X, hX⟩ : ∃ P, P = tcX (E k) := ⟨_, rfl⟩
  obtain ⟨Y, hY⟩ : ∃ P, P = tcY (E k) := ⟨_, rfl⟩
  have HX := Lib.hid hX
  have HY := Lib.hid hY
  have HF := Lib.hid (show frA (E k) = frC X Y 4 by rw [hX, hY]; rfl)
  rw [HF.out]
  clear ht hX hY
  have hmax : ∀ x y : Int, (if x < y then y else x) = max x y := fun x y => by omega
  have hmin : ∀ x y : Int, (if y < x then y else x) = min x y := fun x y => by omega
  obtain ⟨e0, he0⟩ : ∃ e, e = E k 0 := ⟨_, rfl⟩
  obtain ⟨e1, he1⟩ : ∃ e, e = E k 1 := ⟨_, rfl⟩
  obtain ⟨e2, he2⟩ : ∃ e, e = E k 2 := ⟨_, rfl⟩
  obtain ⟨e3, he3⟩ : ∃ e, e = E k 3 := ⟨_, rfl⟩
  obtain ⟨e4, he4⟩ : ∃ e, e = E k 4 := ⟨_, rfl⟩
  obtain ⟨e5, he5⟩ : ∃ e, e = E k 5 := ⟨_, rfl⟩
  obtain ⟨e6, he6⟩ : ∃ e, e = E k 6 := ⟨_, rfl⟩
  obtain ⟨e7, he7⟩ : ∃ e, e = E k 7 := ⟨_, rfl⟩
  obtain ⟨e8, he8⟩ : ∃ e, e = E k 8 := ⟨_, rfl⟩
  obtain ⟨e9, he9⟩ : ∃ e, e = E k 9 := ⟨_, rfl⟩
  obtain ⟨n0, hn0⟩ : ∃ e, e = N k 0 := ⟨_, rfl⟩
  obtain ⟨n1, hn1⟩ : ∃ e, e = N k 1 := ⟨_, rfl⟩
  rw [← he0, ← he1, ← he2, ← he3, ← he4, ← he5, ← he6, ← he7, ← he8, ← he9, ← hn0, ← hn1]
  have HE0 := Lib.hid he0
  have HE1 := Lib.hid he1
  have HE2 := Lib.hid he2
  have HE3 := Lib.hid he3
  have HE4 := Lib.hid he4
  have HE5 := Lib.hid he5
  have HE6 := Lib.hid he6
  have HE7 := Lib.hid he7
  have HE8 := Lib.hid he8
  have HE9 := Lib.hid he9
  have HN0 := Lib.hid hn0
  have HN1 := Lib.hid hn1
  clear he0 he1 he2 he3 he4 he5 he6 he7 he8 he9 hn0 hn1
  rw [← HE3.out] at r1 r2
  rw [← HE4.out] at r3 r4
  rw [← HE5.out] at r5 r6
  rw [← HE6.out] at r7 r8
  rw [← HE7.out] at r9 r10
  go_enter Tryd.func39, Tryd.ntmps39
  go_wp2_with fail
  obtain ⟨w0, hw0⟩ : ∃ w0, w0 = ((w.alloc (Obj.cells #[.int .i64 e0, .int .i64 e1, .int .i64 e2, .int .i64 e3, .int .i64 e4, .int .i64 e5, .int .i64 e6, .int .i64 e7, .int .i64 e8, .int .i64 e9, .string n0, .string n1] 30)).alloc (Obj.cells #[.int .i64 0, .int .i64 0, .int .i64 0, .int .i64 0] 64)).alloc (Obj.cells #[.int .i64 0, .int .i64 0, .int .i64 0, .int .i64 0] 64) := ⟨_, rfl⟩
  rw [← hw0]
  have b0 : Blk w0 w.heap.size #[.int .i64 e0, .int .i64 e1, .int .i64 e2, .int .i64 e3, .int .i64 e4, .int .i64 e5, .int .i64 e6, .int .i64 e7, .int .i64 e8, .int .i64 e9, .string n0, .string n1] 30 := by rw [hw0]; exact ((Blk.new _ _ _).alloc _).alloc _
  have b1 : Blk w0 (w.heap.size + 1) #[.int .i64 0, .int .i64 0, .int .i64 0, .int .i64 0] 64 := by
    have := (Blk.new (w.alloc (Obj.cells #[.int .i64 e0, .int .i64 e1, .int .i64 e2, .int .i64 e3, .int .i64 e4, .int .i64 e5, .int .i64 e6, .int .i64 e7, .int .i64 e8, .int .i64 e9, .string n0, .string n1] 30)) #[.int .i64 0, .int .i64 0, .int .i64 0, .int .i64 0] 64).alloc (Obj.cells #[.int .i64 0, .int .i64 0, .int .i64 0, .int .i64 0] 64)
    rw [World.size_alloc] at this
    rw [hw0]; exact this
  have b2 : Blk w0 (w.heap.size + 1 + 1) #[.int .i64 0, .int .i64 0, .int .i64 0, .int .i64 0] 64 := by
    have := Blk.new ((w.alloc (Obj.cells #[.int .i64 e0, .int .i64 e1, .int .i64 e2, .int .i64 e3, .int .i64 e4, .int .i64 e5, .int .i64 e6, .int .i64 e7, .int .i64 e8, .int .i64 e9, .string n0, .string n1] 30)).alloc (Obj.cells #[.int .i64 0, .int .i64 0, .int .i64 0, .int .i64 0] 64)) #[.int .i64 0, .int .i64 0, .int .i64 0, .int .i64 0] 64
    rw [World.size_alloc, World.size_alloc] at this
    rw [hw0]; exact this
  have hbw : Below w.heap.size w w0 := by rw [hw0]; exact (((Below.refl _ _).alloc (Nat.le_refl _) _).alloc (by simp) _).alloc (by simp; omega) _
  have HB0 := Lib.hid b0
  have HB1 := Lib.hid b1
  have HB2 := Lib.hid b2
  have HBW := Lib.hid hbw
  clear hw0 b0 b1 b2 hbw
  go_loopw [41] (fun ix wr => ∃ i : Nat, ix = .int .i64 i ∧ i ≤ 4 ∧ Blk wr w.heap.size #[.int .i64 e0, .int .i64 e1, .int .i64 e2, .int .i64 e3, .int .i64 e4, .int .i64 e5, .int .i64 e6, .int .i64 e7, .int .i64 e8, .int .i64 e9, .string n0, .string n1] 30 ∧ Blk wr (w.heap.size + 1) #[.int .i64 0, .int .i64 0, .int .i64 0, .int .i64 0] 64 ∧ Blk wr (w.heap.size + 1 + 1) (frC X Y i) 64 ∧ Below w.heap.size w wr) (fun ix _ => 4 - (intOf ix).toNat)
  case atStart => exact ⟨0, rfl, by omega, HB0.out, HB1.out, HB2.out, HBW.out⟩
  case round =>
    obtain ⟨i, rfl, hi, h0, h1, h2, hbel⟩ := hrel
    have H0 := Lib.hid h0
    have H1 := Lib.hid h1
    have H2 := Lib.hid h2
    have y0 := h0.lt
    have y1 := h1.lt
    have y2 := h2.lt
    have l3 : wr.cell? ⟨w.heap.size, 3, none⟩ = some (.int .i64 e3) := h0.cell (i := 3) rfl
    have l4 : wr.cell? ⟨w.heap.size, 4, none⟩ = some (.int .i64 e4) := h0.cell (i := 4) rfl
    have l5 : wr.cell? ⟨w.heap.size, 5, none⟩ = some (.int .i64 e5) := h0.cell (i := 5) rfl
    have l6 : wr.cell? ⟨w.heap.size, 6, none⟩ = some (.int .i64 e6) := h0.cell (i := 6) rfl
    have l7 : wr.cell? ⟨w.heap.size, 7, none⟩ = some (.int .i64 e7) := h0.cell (i := 7) rfl
    clear h0 h1 h2 HB0 HB1 HB2 HBW
    have hsz := hbel.size
    by_cases hi4 : i < 4
    · obtain rfl | rfl | rfl | rfl : i = 0 ∨ i = 1 ∨ i = 2 ∨ i = 3 := by omega
      · go_wp2_with fail
        have ha1 := hbel.alloc hsz (Obj.cells #[.int .i64 (e3), .int .i64 (e4)] 41)
        refine (turned_any _ _ _ _ _ _ (by omega) (HT.out.below (Nat.le_refl _) ha1)).mono ?_
        rintro e w1 ⟨rfl, hb1⟩
        obtain ⟨x, hX⟩ : ∃ X, X = turnX (e3) (e4) (2 * e3 + e5) (2 * e4 + e6) e7 := ⟨_, rfl⟩
        obtain ⟨y, hY⟩ : ∃ Y, Y = turnY (e3) (e4) (2 * e3 + e5) (2 * e4 + e6) e7 := ⟨_, rfl⟩
        rw [← hX, ← hY]
        have HXI := Lib.hid (show x = X 0 by rw [HX.out, hX, HE3.out, HE4.out, HE5.out, HE6.out, HE7.out]; rfl)
        have HYI := Lib.hid (show y = Y 0 by rw [HY.out, hY, HE3.out, HE4.out, HE5.out, HE6.out, HE7.out]; rfl)
        clear hX hY
        have hbel1 := ha1.trans (hb1.mono (by simp; omega))
        have K0 := Lib.hid ((H0.out.alloc (Obj.cells #[.int .i64 (e3), .int .i64 (e4)] 41)).below hb1 (by simp; omega))
        have K1 := Lib.hid ((H1.out.alloc (Obj.cells #[.int .i64 (e3), .int .i64 (e4)] 41)).below hb1 (by simp; omega))
        have K2 := Lib.hid ((H2.out.alloc (Obj.cells #[.int .i64 (e3), .int .i64 (e4)] 41)).below hb1 (by simp; omega))
        have HB1 := Lib.hid hbel1
        clear hb1 ha1 l3 l4 l5 l6 l7 y0 y1 y2 hsz hbel
        have zk2 := K2.out.lt
        obtain ⟨g, hg⟩ : ∃ g, g = w.heap.size + 1 + 1 := ⟨_, rfl⟩
        have HG := Lib.hid hg
        rw [← hg] at K2 zk2 ⊢
        clear hg
        have o0 : w1.cell? ⟨g, 0, none⟩ = some (.int .i64 (0)) := K2.out.cell (i := 0) rfl
        have o1 : w1.cell? ⟨g, 1, none⟩ = some (.int .i64 (0)) := K2.out.cell (i := 1) rfl
        have o2 : w1.cell? ⟨g, 2, none⟩ = some (.int .i64 (0)) := K2.out.cell (i := 2) rfl
        have o3 : w1.cell? ⟨g, 3, none⟩ = some (.int .i64 (0)) := K2.out.cell (i := 3) rfl
        have fz := K2.out.frozen
        go_wp2_with fail
        have hg := HG.out
        subst hg
        go_roundw
        case rel =>
          refine ⟨1, rfl, by omega, ?_, ?_, ?_, ?_⟩
          · (repeat' with_reducible first | exact K0.out | refine Blk.other ?_ ?_ _) <;> first | (simp; done) | (simp; omega)
          · (repeat' with_reducible first | exact K1.out | refine Blk.other ?_ ?_ _) <;> first | (simp; done) | (simp; omega)
          · refine Blk.cast ((((((((K2.out.set 0 _).set 1 _).set 2 _).set 3 _).set 0 _).set 1 _).set 2 _).set 3 _) ?_
            have hx := HXI.out
            have hy := HYI.out
            simp [frC, mnF, mxF, ← hx, ← hy]
          · have hbel := HB1.out
            repeat' (with_reducible first | exact Below.refl _ _ | assumption | refine Below.setCell ?_ ?_ _ | refine Below.alloc ?_ ?_ _ | refine below_drewN ?_ _ | refine Below.drew ?_)
            all_goals first | omega | (simp; done) | (simp; omega)
        case measure => simp [intOf]
      · go_wp2_with fail
        have ha1 := hbel.alloc hsz (Obj.cells #[.int .i64 (e3 + e5), .int .i64 (e4)] 41)
        refine (turned_any _ _ _ _ _ _ (by omega) (HT.out.below (Nat.le_refl _) ha1)).mono ?_
        rintro e w1 ⟨rfl, hb1⟩
        obtain ⟨x, hX⟩ : ∃ X, X = turnX (e3 + e5) (e4) (2 * e3 + e5) (2 * e4 + e6) e7 := ⟨_, rfl⟩
        obtain ⟨y, hY⟩ : ∃ Y, Y = turnY (e3 + e5) (e4) (2 * e3 + e5) (2 * e4 + e6) e7 := ⟨_, rfl⟩
        rw [← hX, ← hY]
        have HXI := Lib.hid (show x = X 1 by rw [HX.out, hX, HE3.out, HE4.out, HE5.out, HE6.out, HE7.out]; rfl)
        have HYI := Lib.hid (show y = Y 1 by rw [HY.out, hY, HE3.out, HE4.out, HE5.out, HE6.out, HE7.out]; rfl)
        clear hX hY
        have hbel1 := ha1.trans (hb1.mono (by simp; omega))
        have K0 := Lib.hid ((H0.out.alloc (Obj.cells #[.int .i64 (e3 + e5), .int .i64 (e4)] 41)).below hb1 (by simp; omega))
        have K1 := Lib.hid ((H1.out.alloc (Obj.cells #[.int .i64 (e3 + e5), .int .i64 (e4)] 41)).below hb1 (by simp; omega))
        have K2 := Lib.hid ((H2.out.alloc (Obj.cells #[.int .i64 (e3 + e5), .int .i64 (e4)] 41)).below hb1 (by simp; omega))
        have HB1 := Lib.hid hbel1
        clear hb1 ha1 l3 l4 l5 l6 l7 y0 y1 y2 hsz hbel
        have zk2 := K2.out.lt
        obtain ⟨g, hg⟩ : ∃ g, g = w.heap.size + 1 + 1 := ⟨_, rfl⟩
        have HG := Lib.hid hg
        rw [← hg] at K2 zk2 ⊢
        clear hg
        have o0 : w1.cell? ⟨g, 0, none⟩ = some (.int .i64 (mnF X 0)) := K2.out.cell (i := 0) rfl
        have o1 : w1.cell? ⟨g, 1, none⟩ = some (.int .i64 (mnF Y 0)) := K2.out.cell (i := 1) rfl
        have o2 : w1.cell? ⟨g, 2, none⟩ = some (.int .i64 (mxF X 0)) := K2.out.cell (i := 2) rfl
        have o3 : w1.cell? ⟨g, 3, none⟩ = some (.int .i64 (mxF Y 0)) := K2.out.cell (i := 3) rfl
        have fz := K2.out.frozen
        go_wp2_with fail
        have hg := HG.out
        subst hg
        go_roundw
        case rel =>
          refine ⟨2, rfl, by omega, ?_, ?_, ?_, ?_⟩
          · (repeat' with_reducible first | exact K0.out | refine Blk.other ?_ ?_ _) <;> first | (simp; done) | (simp; omega)
          · (repeat' with_reducible first | exact K1.out | refine Blk.other ?_ ?_ _) <;> first | (simp; done) | (simp; omega)
          · refine Blk.cast ((((K2.out.set 0 _).set 1 _).set 2 _).set 3 _) ?_
            have hx := HXI.out
            have hy := HYI.out
            simp [frC, mnF, mxF, ← hx, ← hy]
          · have hbel := HB1.out
            repeat' (with_reducible first | exact Below.refl _ _ | assumption | refine Below.setCell ?_ ?_ _ | refine Below.alloc ?_ ?_ _ | refine below_drewN ?_ _ | refine Below.drew ?_)
            all_goals first | omega | (simp; done) | (simp; omega)
        case measure => simp [intOf]
      · go_wp2_with fail
        have ha1 := hbel.alloc hsz (Obj.cells #[.int .i64 (e3 + e5), .int .i64 (e4 + e6)] 41)
        refine (turned_any _ _ _ _ _ _ (by omega) (HT.out.below (Nat.le_refl _) ha1)).mono ?_
        rintro e w1 ⟨rfl, hb1⟩
        obtain ⟨x, hX⟩ : ∃ X, X = turnX (e3 + e5) (e4 + e6) (2 * e3 + e5) (2 * e4 + e6) e7 := ⟨_, rfl⟩
        obtain ⟨y, hY⟩ : ∃ Y, Y = turnY (e3 + e5) (e4 + e6) (2 * e3 + e5) (2 * e4 + e6) e7 := ⟨_, rfl⟩
        rw [← hX, ← hY]
        have HXI := Lib.hid (show x = X 2 by rw [HX.out, hX, HE3.out, HE4.out, HE5.out, HE6.out, HE7.out]; rfl)
        have HYI := Lib.hid (show y = Y 2 by rw [HY.out, hY, HE3.out, HE4.out, HE5.out, HE6.out, HE7.out]; rfl)
        clear hX hY
        have hbel1 := ha1.trans (hb1.mono (by simp; omega))
        have K0 := Lib.hid ((H0.out.alloc (Obj.cells #[.int .i64 (e3 + e5), .int .i64 (e4 + e6)] 41)).below hb1 (by simp; omega))
        have K1 := Lib.hid ((H1.out.alloc (Obj.cells #[.int .i64 (e3 + e5), .int .i64 (e4 + e6)] 41)).below hb1 (by simp; omega))
        have K2 := Lib.hid ((H2.out.alloc (Obj.cells #[.int .i64 (e3 + e5), .int .i64 (e4 + e6)] 41)).below hb1 (by simp; omega))
        have HB1 := Lib.hid hbel1
        clear hb1 ha1 l3 l4 l5 l6 l7 y0 y1 y2 hsz hbel
        have zk2 := K2.out.lt
        obtain ⟨g, hg⟩ : ∃ g, g = w.heap.size + 1 + 1 := ⟨_, rfl⟩
        have HG := Lib.hid hg
        rw [← hg] at K2 zk2 ⊢
        clear hg
        have o0 : w1.cell? ⟨g, 0, none⟩ = some (.int .i64 (mnF X 1)) := K2.out.cell (i := 0) rfl
        have o1 : w1.cell? ⟨g, 1, none⟩ = some (.int .i64 (mnF Y 1)) := K2.out.cell (i := 1) rfl
        have o2 : w1.cell? ⟨g, 2, none⟩ = some (.int .i64 (mxF X 1)) := K2.out.cell (i := 2) rfl
        have o3 : w1.cell? ⟨g, 3, none⟩ = some (.int .i64 (mxF Y 1)) := K2.out.cell (i := 3) rfl
        have fz := K2.out.frozen
        go_wp2_with fail
        have hg := HG.out
        subst hg
        go_roundw
        case rel =>
          refine ⟨3, rfl, by omega, ?_, ?_, ?_, ?_⟩
          · (repeat' with_reducible first | exact K0.out | refine Blk.other ?_ ?_ _) <;> first | (simp; done) | (simp; omega)
          · (repeat' with_reducible first | exact K1.out | refine Blk.other ?_ ?_ _) <;> first | (simp; done) | (simp; omega)
          · refine Blk.cast ((((K2.out.set 0 _).set 1 _).set 2 _).set 3 _) ?_
            have hx := HXI.out
            have hy := HYI.out
            simp [frC, mnF, mxF, ← hx, ← hy]
          · have hbel := HB1.out
            repeat' (with_reducible first | exact Below.refl _ _ | assumption | refine Below.setCell ?_ ?_ _ | refine Below.alloc ?_ ?_ _ | refine below_drewN ?_ _ | refine Below.drew ?_)
            all_goals first | omega | (simp; done) | (simp; omega)
        case measure => simp [intOf]
      · go_wp2_with fail
        have ha1 := hbel.alloc hsz (Obj.cells #[.int .i64 (e3), .int .i64 (e4 + e6)] 41)
        refine (turned_any _ _ _ _ _ _ (by omega) (HT.out.below (Nat.le_refl _) ha1)).mono ?_
        rintro e w1 ⟨rfl, hb1⟩
        obtain ⟨x, hX⟩ : ∃ X, X = turnX (e3) (e4 + e6) (2 * e3 + e5) (2 * e4 + e6) e7 := ⟨_, rfl⟩
        obtain ⟨y, hY⟩ : ∃ Y, Y = turnY (e3) (e4 + e6) (2 * e3 + e5) (2 * e4 + e6) e7 := ⟨_, rfl⟩
        rw [← hX, ← hY]
        have HXI := Lib.hid (show x = X 3 by rw [HX.out, hX, HE3.out, HE4.out, HE5.out, HE6.out, HE7.out]; rfl)
        have HYI := Lib.hid (show y = Y 3 by rw [HY.out, hY, HE3.out, HE4.out, HE5.out, HE6.out, HE7.out]; rfl)
        clear hX hY
        have hbel1 := ha1.trans (hb1.mono (by simp; omega))
        have K0 := Lib.hid ((H0.out.alloc (Obj.cells #[.int .i64 (e3), .int .i64 (e4 + e6)] 41)).below hb1 (by simp; omega))
        have K1 := Lib.hid ((H1.out.alloc (Obj.cells #[.int .i64 (e3), .int .i64 (e4 + e6)] 41)).below hb1 (by simp; omega))
        have K2 := Lib.hid ((H2.out.alloc (Obj.cells #[.int .i64 (e3), .int .i64 (e4 + e6)] 41)).below hb1 (by simp; omega))
        have HB1 := Lib.hid hbel1
        clear hb1 ha1 l3 l4 l5 l6 l7 y0 y1 y2 hsz hbel
        have zk2 := K2.out.lt
        obtain ⟨g, hg⟩ : ∃ g, g = w.heap.size + 1 + 1 := ⟨_, rfl⟩
        have HG := Lib.hid hg
        rw [← hg] at K2 zk2 ⊢
        clear hg
        have o0 : w1.cell? ⟨g, 0, none⟩ = some (.int .i64 (mnF X 2)) := K2.out.cell (i := 0) rfl
        have o1 : w1.cell? ⟨g, 1, none⟩ = some (.int .i64 (mnF Y 2)) := K2.out.cell (i := 1) rfl
        have o2 : w1.cell? ⟨g, 2, none⟩ = some (.int .i64 (mxF X 2)) := K2.out.cell (i := 2) rfl
        have o3 : w1.cell? ⟨g, 3, none⟩ = some (.int .i64 (mxF Y 2)) := K2.out.cell (i := 3) rfl
        have fz := K2.out.frozen
        go_wp2_with fail
        have hg := HG.out
        subst hg
        go_roundw
        case rel =>
          refine ⟨4, rfl, by omega, ?_, ?_, ?_, ?_⟩
          · (repeat' with_reducible first | exact K0.out | refine Blk.other ?_ ?_ _) <;> first | (simp; done) | (simp; omega)
          · (repeat' with_reducible first | exact K1.out | refine Blk.other ?_ ?_ _) <;> first | (simp; done) | (simp; omega)
          · refine Blk.cast ((((K2.out.set 0 _).set 1 _).set 2 _).set 3 _) ?_
            have hx := HXI.out
            have hy := HYI.out
            simp [frC, mnF, mxF, ← hx, ← hy]
          · have hbel := HB1.out
            repeat' (with_reducible first | exact Below.refl _ _ | assumption | refine Below.setCell ?_ ?_ _ | refine Below.alloc ?_ ?_ _ | refine below_drewN ?_ _ | refine Below.drew ?_)
            all_goals first | omega | (simp; done) | (simp; omega)
        case measure => simp [intOf]
    · obtain rfl : i = 4 := by omega
      have q0 : wr.cell? ⟨w.heap.size + 1 + 1, 0, none⟩ = some (.int .i64 (mnF X 3)) := H2.out.cell (i := 0) rfl
      have q1 : wr.cell? ⟨w.heap.size + 1 + 1, 1, none⟩ = some (.int .i64 (mnF Y 3)) := H2.out.cell (i := 1) rfl
      have q2 : wr.cell? ⟨w.heap.size + 1 + 1, 2, none⟩ = some (.int .i64 (mxF X 3)) := H2.out.cell (i := 2) rfl
      have q3 : wr.cell? ⟨w.heap.size + 1 + 1, 3, none⟩ = some (.int .i64 (mxF Y 3)) := H2.out.cell (i := 3) rfl
      have o0 : wr.cell? ⟨w.heap.size + 1, 0, none⟩ = some (.int .i64 0) := H1.out.cell (i := 0) rfl
      have o1 : wr.cell? ⟨w.heap.size + 1, 1, none⟩ = some (.int .i64 0) := H1.out.cell (i := 1) rfl
      have o2 : wr.cell? ⟨w.heap.size + 1, 2, none⟩ = some (.int .i64 0) := H1.out.cell (i := 2) rfl
      have o3 : wr.cell? ⟨w.heap.size + 1, 3, none⟩ = some (.int .i64 0) := H1.out.cell (i := 3) rfl
      have fz := H1.out.frozen
      clear l3 l4 l5 l6 l7
      have knew := (((H1.out.set 0 (.int .i64 (mnF X 3))).set 1 (.int .i64 (mnF Y 3))).set 2 (.int .i64 (mxF X 3))).set 3 (.int .i64 (mxF Y 3))
      simp only [List.setIfInBounds_toArray, List.set_cons_zero, List.set_cons_succ] at knew
      have KN := Lib.hid knew
      clear knew
      go_wp2_with fail
      (try simp only [Exit.inBlock, Exit.then])
      refine bodyPost_ret (v := .agg (frC X Y 4)) ?rc rfl ?_
      case rc => exact results_cell_row rfl _ _ (w.heap.size + 1) 64 _ (0, 0) _ rfl KN.out Tryd.underlying64 rfl (by kernel_rfl)
      refine ⟨rfl, ?_⟩
      repeat' (with_reducible first | exact Below.refl _ _ | assumption | refine Below.setCell ?_ ?_ _ | refine Below.alloc ?_ ?_ _ | refine below_drewN ?_ _ | refine Below.drew ?_)
      all_goals first | omega | (simp; done) | (simp; omega)
set_option maxHeartbeats 1000000 in
theorem extent_any (k : Nat) (E : Nat → Nat → Int) (N : Nat → Nat → ByteArray) (ax : Int) (w : World) (hbx : boxS (E k)) (ht : Arr w 1) :
    Calls Tryd.prog 19 #[.agg #[.int .i64 (E k 0), .int .i64 (E k 1), .int .i64 (E k 2), .int .i64 (E k 3), .int .i64 (E k 4), .int .i64 (E k 5), .int .i64 (E k 6), .int .i64 (E k 7), .int .i64 (E k 8), .int .i64 (E k 9), .string (N k 0), .string (N k 1)], .int .i64 ax] w fun e w' => e = .returned (.tuple #[.int .i64 (extA (E k) ax), .int .i64 (extB (E k) ax)]) ∧ Below w.heap.size w w' := by
  have HT := Lib.hid ht
  have HBX := Lib.hid hbx
  have HA := Lib.hid (show extA (E k) ax = if ax = 0 then mnF (tcX (E k)) 3 else mnF (tcY (E k)) 3 from rfl)
  have HB := Lib.hid (show extB (E k) ax = if ax = 0 then mxF (tcX (E k)) 3 else mxF (tcY (E k)) 3 from rfl)
  rw [HA.out, HB.out]
  have HFR := Lib.hid (show frA (E k) = #[.int .i64 (mnF (tcX (E k)) 3), .int .i64 (mnF (tcY (E k)) 3), .int .i64 (mxF (tcX (E k)) 3), .int .i64 (mxF (tcY (E k)) 3)] from rfl)
  obtain ⟨x0, hx0⟩ : ∃ x, x = mnF (tcX (E k)) 3 := ⟨_, rfl⟩
  obtain ⟨y0, hy0⟩ : ∃ x, x = mnF (tcY (E k)) 3 := ⟨_, rfl⟩
  obtain ⟨x1, hx1⟩ : ∃ x, x = mxF (tcX (E k)) 3 := ⟨_, rfl⟩
  obtain ⟨y1, hy1⟩ : ∃ x, x = mxF (tcY (E k)) 3 := ⟨_, rfl⟩
  rw [← hx0, ← hy0, ← hx1, ← hy1] at HFR
  rw [← hx0, ← hy0, ← hx1, ← hy1]
  clear hbx ht hx0 hy0 hx1 hy1 HA HB
  by_cases h0 : ax = 0
  · subst h0
    go_enter Tryd.func19, Tryd.ntmps19
    go_wp2_with fail
    refine (frame_any k E N _ HBX.out (HT.out.below (Nat.le_refl _) ((Below.refl _ _).alloc (Nat.le_refl _) _))).mono ?_
    rintro e w1 ⟨rfl, hb1⟩
    rw [HFR.out]
    have hs1 := hb1.size
    simp only [World.size_alloc] at hs1
    have HB1 := Lib.hid (((Below.refl w.heap.size w).alloc (Nat.le_refl _) _).trans (hb1.mono (by simp)))
    clear hb1
    go_wp2_with fail
    go_quiet (fail)
    go_wp2_with fail
    go_ret2
    refine ⟨rfl, ?_⟩
    have hb := HB1.out
    repeat' (with_reducible first | exact Below.refl _ _ | assumption | refine Below.setCell ?_ ?_ _ | refine Below.alloc ?_ ?_ _ | refine below_drewN ?_ _ | refine Below.drew ?_)
    all_goals first | omega | (simp; done) | (simp; omega)
  · have f0 : (ax == 0) = false := by simpa using h0
    go_enter Tryd.func19, Tryd.ntmps19
    go_wp2_with fail
    refine (frame_any k E N _ HBX.out (HT.out.below (Nat.le_refl _) ((Below.refl _ _).alloc (Nat.le_refl _) _))).mono ?_
    rintro e w1 ⟨rfl, hb1⟩
    rw [HFR.out]
    have hs1 := hb1.size
    simp only [World.size_alloc] at hs1
    have HB1 := Lib.hid (((Below.refl w.heap.size w).alloc (Nat.le_refl _) _).trans (hb1.mono (by simp)))
    clear hb1
    go_wp2_with fail
    go_quiet (fail)
    go_wp2_with fail
    go_ret2
    refine ⟨rfl, ?_⟩
    have hb := HB1.out
    repeat' (with_reducible first | exact Below.refl _ _ | assumption | refine Below.setCell ?_ ?_ _ | refine Below.alloc ?_ ?_ _ | refine below_drewN ?_ _ | refine Below.drew ?_)
    all_goals first | omega | (simp; done) | (simp; omega)
end Go.Proofs.YtabnohphgegflaaDoor.ShT
