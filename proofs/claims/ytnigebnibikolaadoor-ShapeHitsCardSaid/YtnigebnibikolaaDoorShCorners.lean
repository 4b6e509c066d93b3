

/-
  corners.
-/
import Derived.Test.YtnigebnibikolaaDoorShOut
namespace Go.Law.Sh
open Go.RowKit
def cornX (e : Nat → Int) : Nat → Int
  | 0 => e 3
  | 1 => e 3 + e 5
  | 2 => e 3 + e 5
  | _ => e 3
def cornY (e : Nat → Int) : Nat → Int
  | 0 => e 4
  | 1 => e 4
  | 2 => e 4 + e 6
  | _ => e 4 + e 6
/-- a corner of a shape in the drawing -/
def cornP (n : Nat) (E : Nat → Nat → Int) (k i : Nat) : Int × Int :=
  outP n E n (E k 1) (turnX (cornX (E k) i) (cornY (E k) i) (2 * E k 3 + E k 5) (2 * E k 4 + E k 6) (E k 7)) (turnY (cornX (E k) i) (cornY (E k) i) (2 * E k 3 + E k 5) (2 * E k 4 + E k 6) (E k 7))
/-- the corners that are there after i steps -/
def cornC (P : Nat → Int × Int) (i : Nat) : Array Value :=
  #[.int .i64 (if 0 < i then (P 0).1 else 0), .int .i64 (if 0 < i then (P 0).2 else 0), .int .i64 (if 1 < i then (P 1).1 else 0), .int .i64 (if 1 < i then (P 1).2 else 0), .int .i64 (if 2 < i then (P 2).1 else 0), .int .i64 (if 2 < i then (P 2).2 else 0), .int .i64 (if 3 < i then (P 3).1 else 0), .int .i64 (if 3 < i then (P 3).2 else 0)]
end Go.Law.Sh
namespace Go.Proofs.YtnigebnibikolaaDoor.ShT
open Go.RowKit Go.Law Go.Law.Sh
set_option linter.unusedVariables false
set_option linter.unusedSimpArgs false
set_option maxRecDepth 100000
theorem idx (cs : Array Value) (i : Nat) (hi : i < 4) (w : World) : (Instr.index 97 (.agg cs) (.int .i64 i)).run Tryd.prog w = .ok (.agg (cs.extract (i * 2) (i * 2 + 2))) w := by
  have h : (0 : Int) ≤ (i : Int) ∧ (i : Int) < ((4 : Nat) : Int) := by omega
  have e1 : (Instr.index 97 (.agg cs) (.int .i64 i)).run Tryd.prog w = (part 96 cs (i * 2)).run Tryd.prog w := by
    simp [Instr.index, run_underlying Tryd.underlying97, asIntOf, h, go_sem]
    intro h4; omega
  rw [e1]
  simp [part, isAgg, run_underlying Tryd.underlying96, go_sem]
theorem idx0 (v0 v1 v2 v3 v4 v5 v6 v7 : Value) (w : World) : (Instr.index 97 (.agg #[v0, v1, v2, v3, v4, v5, v6, v7]) (.int .i64 0)).run Tryd.prog w = .ok (.agg #[v0, v1]) w := by
  have h := idx #[v0, v1, v2, v3, v4, v5, v6, v7] 0 (by omega) w
  exact h
attribute [local go_sem] idx0
theorem idx1 (v0 v1 v2 v3 v4 v5 v6 v7 : Value) (w : World) : (Instr.index 97 (.agg #[v0, v1, v2, v3, v4, v5, v6, v7]) (.int .i64 1)).run Tryd.prog w = .ok (.agg #[v2, v3]) w := by
  have h := idx #[v0, v1, v2, v3, v4, v5, v6, v7] 1 (by omega) w
  exact h
attribute [local go_sem] idx1
theorem idx2 (v0 v1 v2 v3 v4 v5 v6 v7 : Value) (w : World) : (Instr.index 97 (.agg #[v0, v1, v2, v3, v4, v5, v6, v7]) (.int .i64 2)).run Tryd.prog w = .ok (.agg #[v4, v5]) w := by
  have h := idx #[v0, v1, v2, v3, v4, v5, v6, v7] 2 (by omega) w
  exact h
attribute [local go_sem] idx2
theorem idx3 (v0 v1 v2 v3 v4 v5 v6 v7 : Value) (w : World) : (Instr.index 97 (.agg #[v0, v1, v2, v3, v4, v5, v6, v7]) (.int .i64 3)).run Tryd.prog w = .ok (.agg #[v6, v7]) w := by
  have h := idx #[v0, v1, v2, v3, v4, v5, v6, v7] 3 (by omega) w
  exact h
attribute [local go_sem] idx3
set_option maxHeartbeats 4000000 in
theorem corners_any (n k : Nat) (E : Nat → Nat → Int) (N : Nat → Nat → ByteArray) (a : Option Addr) (c : Nat) (w : World) (ha : ShF w a n E N) (hn : n ≤ 1000) (hk : k < n) (hall : ∀ j, j < n → Right E j) (ht : Arr w 3) :
    Calls Tryd.prog 51 #[.slice a n c, .agg #[.int .i64 (E k 0), .int .i64 (E k 1), .int .i64 (E k 2), .int .i64 (E k 3), .int .i64 (E k 4), .int .i64 (E k 5), .int .i64 (E k 6), .int .i64 (E k 7), .int .i64 (E k 8), .int .i64 (E k 9), .string (N k 0), .string (N k 1)]] w fun e w' => e = .returned (.agg (cornC (cornP n E k) 4)) ∧ Below w.heap.size w w' := by
  have HA := Lib.hid ha
  have HT := Lib.hid ht
  have HALL := Lib.hid hall
  have HNX := Lib.hid (Par.next hall hk)
  have hbx := (hall k hk).2.2.1
  unfold boxS at hbx
  obtain ⟨⟨r1, r2⟩, ⟨r3, r4⟩, ⟨r5, r6⟩, ⟨r7, r8⟩, ⟨r9, r10⟩⟩ := hbx
  obtain ⟨P, hP⟩ : ∃ P, P = cornP n E k := ⟨_, rfl⟩
  rw [← hP]
  have HP := Lib.hid hP
  clear ha ht hall hP
  obtain ⟨e0, he0⟩ : ∃ e, e = E k 0 := ⟨_, rfl⟩
  obtain ⟨e1, he1⟩ : ∃ e, e = E k 1 := ⟨_, rfl⟩
  obtain ⟨e2, he2⟩ : ∃ e, e = E k 2 := ⟨_, rfl⟩
  obtain ⟨e3, he3⟩ : ∃ e, e = E k 3 := ⟨_, rfl⟩
  obtain ⟨e4, he4⟩ : ∃ e, e = E k 4 := ⟨_, rfl⟩
  obtain ⟨e5, he5⟩ : ∃ e, e = E k 5 := ⟨_, rfl⟩
  obtain ⟨e6, he6⟩ : ∃ e, e = E k 6 := ⟨_, rfl⟩
  obtain ⟨e7, he7⟩ : ∃ e, e = E k 7 := ⟨_, rfl⟩
  obtain ⟨e8, he8⟩ : ∃ e, e = E k 8 := ⟨_, rfl⟩
  obtain ⟨e9, he9⟩ : ∃ e, e = E k 9 := ⟨_, rfl⟩
  obtain ⟨n0, hn0⟩ : ∃ e, e = N k 0 := ⟨_, rfl⟩
  obtain ⟨n1, hn1⟩ : ∃ e, e = N k 1 := ⟨_, rfl⟩
  rw [← he0, ← he1, ← he2, ← he3, ← he4, ← he5, ← he6, ← he7, ← he8, ← he9, ← hn0, ← hn1]
  have HE0 := Lib.hid he0
  have HE1 := Lib.hid he1
  have HE2 := Lib.hid he2
  have HE3 := Lib.hid he3
  have HE4 := Lib.hid he4
  have HE5 := Lib.hid he5
  have HE6 := Lib.hid he6
  have HE7 := Lib.hid he7
  have HE8 := Lib.hid he8
  have HE9 := Lib.hid he9
  clear he0 he1 he2 he3 he4 he5 he6 he7 he8 he9 hn0 hn1
  rw [← HE3.out] at r1 r2
  rw [← HE4.out] at r3 r4
  rw [← HE5.out] at r5 r6
  rw [← HE6.out] at r7 r8
  rw [← HE7.out] at r9 r10
  go_enter Tryd.func51, Tryd.ntmps51
  go_wp2_with fail
  obtain ⟨w0, hw0⟩ : ∃ w0, w0 = ((w.alloc (Obj.cells #[.int .i64 e0, .int .i64 e1, .int .i64 e2, .int .i64 e3, .int .i64 e4, .int .i64 e5, .int .i64 e6, .int .i64 e7, .int .i64 e8, .int .i64 e9, .string n0, .string n1] 82)).alloc (Obj.cells #[.int .i64 0, .int .i64 0, .int .i64 0, .int .i64 0, .int .i64 0, .int .i64 0, .int .i64 0, .int .i64 0] 83)).alloc (Obj.cells #[.int .i64 0, .int .i64 0, .int .i64 0, .int .i64 0, .int .i64 0, .int .i64 0, .int .i64 0, .int .i64 0] 83) := ⟨_, rfl⟩
  have b0 : Blk w0 w.heap.size #[.int .i64 e0, .int .i64 e1, .int .i64 e2, .int .i64 e3, .int .i64 e4, .int .i64 e5, .int .i64 e6, .int .i64 e7, .int .i64 e8, .int .i64 e9, .string n0, .string n1] 82 := by rw [hw0]; exact ((Blk.new _ _ _).alloc _).alloc _
  have b1 : Blk w0 (w.heap.size + 1) #[.int .i64 0, .int .i64 0, .int .i64 0, .int .i64 0, .int .i64 0, .int .i64 0, .int .i64 0, .int .i64 0] 83 := by
    have := (Blk.new (w.alloc (Obj.cells #[.int .i64 e0, .int .i64 e1, .int .i64 e2, .int .i64 e3, .int .i64 e4, .int .i64 e5, .int .i64 e6, .int .i64 e7, .int .i64 e8, .int .i64 e9, .string n0, .string n1] 82)) #[.int .i64 0, .int .i64 0, .int .i64 0, .int .i64 0, .int .i64 0, .int .i64 0, .int .i64 0, .int .i64 0] 83).alloc (Obj.cells #[.int .i64 0, .int .i64 0, .int .i64 0, .int .i64 0, .int .i64 0, .int .i64 0, .int .i64 0, .int .i64 0] 83)
    rw [World.size_alloc] at this
    rw [hw0]; exact this
  have b2 : Blk w0 (w.heap.size + 1 + 1) #[.int .i64 0, .int .i64 0, .int .i64 0, .int .i64 0, .int .i64 0, .int .i64 0, .int .i64 0, .int .i64 0] 83 := by
    have := Blk.new ((w.alloc (Obj.cells #[.int .i64 e0, .int .i64 e1, .int .i64 e2, .int .i64 e3, .int .i64 e4, .int .i64 e5, .int .i64 e6, .int .i64 e7, .int .i64 e8, .int .i64 e9, .string n0, .string n1] 82)).alloc (Obj.cells #[.int .i64 0, .int .i64 0, .int .i64 0, .int .i64 0, .int .i64 0, .int .i64 0, .int .i64 0, .int .i64 0] 83)) #[.int .i64 0, .int .i64 0, .int .i64 0, .int .i64 0, .int .i64 0, .int .i64 0, .int .i64 0, .int .i64 0] 83
    rw [World.size_alloc, World.size_alloc] at this
    rw [hw0]; exact this
  have hbw : Below w.heap.size w w0 := by rw [hw0]; exact (((Below.refl _ _).alloc (Nat.le_refl _) _).alloc (by simp) _).alloc (by simp; omega) _
  rw [← hw0]
  have HB0 := Lib.hid b0
  have HB1 := Lib.hid b1
  have HB2 := Lib.hid b2
  have HBW := Lib.hid hbw
  clear hw0 b0 b1 b2 hbw
  go_loopw [43] (fun ix wr => ∃ i : Nat, ix = .int .i64 i ∧ i ≤ 4 ∧ Blk wr w.heap.size #[.int .i64 e0, .int .i64 e1, .int .i64 e2, .int .i64 e3, .int .i64 e4, .int .i64 e5, .int .i64 e6, .int .i64 e7, .int .i64 e8, .int .i64 e9, .string n0, .string n1] 82 ∧ Blk wr (w.heap.size + 1) #[.int .i64 0, .int .i64 0, .int .i64 0, .int .i64 0, .int .i64 0, .int .i64 0, .int .i64 0, .int .i64 0] 83 ∧ Blk wr (w.heap.size + 1 + 1) (cornC P i) 83 ∧ Below w.heap.size w wr) (fun ix _ => 4 - (intOf ix).toNat)
  case atStart => exact ⟨0, rfl, by omega, HB0.out, HB1.out, HB2.out, HBW.out⟩
  case round =>
    obtain ⟨i, rfl, hi, h0, h1, h2, hbel⟩ := hrel
    have H0 := Lib.hid h0
    have H1 := Lib.hid h1
    have H2 := Lib.hid h2
    have y0 := h0.lt
    have y1 := h1.lt
    have y2 := h2.lt
    have l1 : wr.cell? ⟨w.heap.size, 1, none⟩ = some (.int .i64 e1) := h0.cell (i := 1) rfl
    have l3 : wr.cell? ⟨w.heap.size, 3, none⟩ = some (.int .i64 e3) := h0.cell (i := 3) rfl
    have l4 : wr.cell? ⟨w.heap.size, 4, none⟩ = some (.int .i64 e4) := h0.cell (i := 4) rfl
    have l5 : wr.cell? ⟨w.heap.size, 5, none⟩ = some (.int .i64 e5) := h0.cell (i := 5) rfl
    have l6 : wr.cell? ⟨w.heap.size, 6, none⟩ = some (.int .i64 e6) := h0.cell (i := 6) rfl
    have l7 : wr.cell? ⟨w.heap.size, 7, none⟩ = some (.int .i64 e7) := h0.cell (i := 7) rfl
    clear h0 h1 h2 HB0 HB1 HB2 HBW
    have hsz := hbel.size
    by_cases hi4 : i < 4
    · obtain rfl | rfl | rfl | rfl : i = 0 ∨ i = 1 ∨ i = 2 ∨ i = 3 := by omega
      · go_wp2_with fail
        have ha1 := hbel.alloc hsz (Obj.cells #[.int .i64 (e3), .int .i64 (e4)] 96)
        refine (turned_any _ _ _ _ _ _ (by omega) (HT.out.below (Nat.le_refl _) ha1)).mono ?_
        rintro e w1 ⟨rfl, hb1⟩
        obtain ⟨X, hX⟩ : ∃ X, X = turnX (e3) (e4) (2 * e3 + e5) (2 * e4 + e6) e7 := ⟨_, rfl⟩
        obtain ⟨Y, hY⟩ : ∃ Y, Y = turnY (e3) (e4) (2 * e3 + e5) (2 * e4 + e6) e7 := ⟨_, rfl⟩
        rw [← hX, ← hY]
        have HPI := Lib.hid (show P 0 = outP n E n e1 X Y by rw [HP.out, hX, hY, HE1.out, HE3.out, HE4.out, HE5.out, HE6.out, HE7.out]; rfl)
        clear hX hY
        have hbel1 := ha1.trans (hb1.mono (by simp; omega))
        have k0 := (H0.out.alloc (Obj.cells #[.int .i64 (e3), .int .i64 (e4)] 96)).below hb1 (by simp; omega)
        have k1 := (H1.out.alloc (Obj.cells #[.int .i64 (e3), .int .i64 (e4)] 96)).below hb1 (by simp; omega)
        have k2 := (H2.out.alloc (Obj.cells #[.int .i64 (e3), .int .i64 (e4)] 96)).below hb1 (by simp; omega)
        have K0 := Lib.hid k0
        have K1 := Lib.hid k1
        have K2 := Lib.hid k2
        have x1 : w1.cell? ⟨w.heap.size, 1, none⟩ = some (.int .i64 e1) := k0.cell (i := 1) rfl
        have zk0 := k0.lt
        clear k0 k1 k2 hb1
        go_wp2_with fail
        refine (out_any n E N e1 X Y a c w1 (HA.out.below (Nat.le_refl _) hbel1) hn HALL.out (by rw [HE1.out]; exact HNX.out.1) (HT.out.below (Nat.le_refl _) hbel1) n (by rw [HE1.out]; exact Nat.le_trans HNX.out.2 (Nat.le_of_lt hk))).mono ?_
        rintro e w2 ⟨rfl, hb2⟩
        rw [← HPI.out]
        have hbel2 := hbel1.trans (hb2.mono hbel1.size)
        have k0 := K0.out.below hb2 K0.out.lt
        have k1 := K1.out.below hb2 K1.out.lt
        have k2 := K2.out.below hb2 K2.out.lt
        have o0 : w2.cell? ⟨w.heap.size + 1 + 1, 0, none⟩ = some (.int .i64 0) := k2.cell (i := 0) rfl
        have o1 : w2.cell? ⟨w.heap.size + 1 + 1, 1, none⟩ = some (.int .i64 0) := k2.cell (i := 1) rfl
        have fz := k2.frozen
        have zk2 := k2.lt
        have knew := (k2.set 0 (.int .i64 (P 0).1)).set 1 (.int .i64 (P 0).2)
        have M0 := Lib.hid k0
        have M1 := Lib.hid k1
        have M2 := Lib.hid knew
        clear k0 k1 k2 knew
        go_wp2_with fail
        go_roundw
        case rel =>
          refine ⟨1, rfl, by omega, (M0.out.other (by simp; omega) _).other (by simp; omega) _, (M1.out.other (by simp) _).other (by simp) _, ?_, ?_⟩
          · simpa [cornC] using M2.out
          · repeat' (with_reducible first | exact Below.refl _ _ | assumption | refine Below.setCell ?_ ?_ _ | refine Below.alloc ?_ ?_ _ | refine below_drewN ?_ _ | refine Below.drew ?_)
            all_goals first | omega | (simp; done) | (simp; omega)
        case measure => simp [intOf]
      · go_wp2_with fail
        have ha1 := hbel.alloc hsz (Obj.cells #[.int .i64 (e3 + e5), .int .i64 (e4)] 96)
        refine (turned_any _ _ _ _ _ _ (by omega) (HT.out.below (Nat.le_refl _) ha1)).mono ?_
        rintro e w1 ⟨rfl, hb1⟩
        obtain ⟨X, hX⟩ : ∃ X, X = turnX (e3 + e5) (e4) (2 * e3 + e5) (2 * e4 + e6) e7 := ⟨_, rfl⟩
        obtain ⟨Y, hY⟩ : ∃ Y, Y = turnY (e3 + e5) (e4) (2 * e3 + e5) (2 * e4 + e6) e7 := ⟨_, rfl⟩
        rw [← hX, ← hY]
        have HPI := Lib.hid (show P 1 = outP n E n e1 X Y by rw [HP.out, hX, hY, HE1.out, HE3.out, HE4.out, HE5.out, HE6.out, HE7.out]; rfl)
        clear hX hY
        have hbel1 := ha1.trans (hb1.mono (by simp; omega))
        have k0 := (H0.out.alloc (Obj.cells #[.int .i64 (e3 + e5), .int .i64 (e4)] 96)).below hb1 (by simp; omega)
        have k1 := (H1.out.alloc (Obj.cells #[.int .i64 (e3 + e5), .int .i64 (e4)] 96)).below hb1 (by simp; omega)
        have k2 := (H2.out.alloc (Obj.cells #[.int .i64 (e3 + e5), .int .i64 (e4)] 96)).below hb1 (by simp; omega)
        have K0 := Lib.hid k0
        have K1 := Lib.hid k1
        have K2 := Lib.hid k2
        have x1 : w1.cell? ⟨w.heap.size, 1, none⟩ = some (.int .i64 e1) := k0.cell (i := 1) rfl
        have zk0 := k0.lt
        clear k0 k1 k2 hb1
        go_wp2_with fail
        refine (out_any n E N e1 X Y a c w1 (HA.out.below (Nat.le_refl _) hbel1) hn HALL.out (by rw [HE1.out]; exact HNX.out.1) (HT.out.below (Nat.le_refl _) hbel1) n (by rw [HE1.out]; exact Nat.le_trans HNX.out.2 (Nat.le_of_lt hk))).mono ?_
        rintro e w2 ⟨rfl, hb2⟩
        rw [← HPI.out]
        have hbel2 := hbel1.trans (hb2.mono hbel1.size)
        have k0 := K0.out.below hb2 K0.out.lt
        have k1 := K1.out.below hb2 K1.out.lt
        have k2 := K2.out.below hb2 K2.out.lt
        have o0 : w2.cell? ⟨w.heap.size + 1 + 1, 2, none⟩ = some (.int .i64 0) := k2.cell (i := 2) rfl
        have o1 : w2.cell? ⟨w.heap.size + 1 + 1, 3, none⟩ = some (.int .i64 0) := k2.cell (i := 3) rfl
        have fz := k2.frozen
        have zk2 := k2.lt
        have knew := (k2.set 2 (.int .i64 (P 1).1)).set 3 (.int .i64 (P 1).2)
        have M0 := Lib.hid k0
        have M1 := Lib.hid k1
        have M2 := Lib.hid knew
        clear k0 k1 k2 knew
        go_wp2_with fail
        go_roundw
        case rel =>
          refine ⟨2, rfl, by omega, (M0.out.other (by simp; omega) _).other (by simp; omega) _, (M1.out.other (by simp) _).other (by simp) _, ?_, ?_⟩
          · simpa [cornC] using M2.out
          · repeat' (with_reducible first | exact Below.refl _ _ | assumption | refine Below.setCell ?_ ?_ _ | refine Below.alloc ?_ ?_ _ | refine below_drewN ?_ _ | refine Below.drew ?_)
            all_goals first | omega | (simp; done) | (simp; omega)
        case measure => simp [intOf]
      · go_wp2_with fail
        have ha1 := hbel.alloc hsz (Obj.cells #[.int .i64 (e3 + e5), .int .i64 (e4 + e6)] 96)
        refine (turned_any _ _ _ _ _ _ (by omega) (HT.out.below (Nat.le_refl _) ha1)).mono ?_
        rintro e w1 ⟨rfl, hb1⟩
        obtain ⟨X, hX⟩ : ∃ X, X = turnX (e3 + e5) (e4 + e6) (2 * e3 + e5) (2 * e4 + e6) e7 := ⟨_, rfl⟩
        obtain ⟨Y, hY⟩ : ∃ Y, Y = turnY (e3 + e5) (e4 + e6) (2 * e3 + e5) (2 * e4 + e6) e7 := ⟨_, rfl⟩
        rw [← hX, ← hY]
        have HPI := Lib.hid (show P 2 = outP n E n e1 X Y by rw [HP.out, hX, hY, HE1.out, HE3.out, HE4.out, HE5.out, HE6.out, HE7.out]; rfl)
        clear hX hY
        have hbel1 := ha1.trans (hb1.mono (by simp; omega))
        have k0 := (H0.out.alloc (Obj.cells #[.int .i64 (e3 + e5), .int .i64 (e4 + e6)] 96)).below hb1 (by simp; omega)
        have k1 := (H1.out.alloc (Obj.cells #[.int .i64 (e3 + e5), .int .i64 (e4 + e6)] 96)).below hb1 (by simp; omega)
        have k2 := (H2.out.alloc (Obj.cells #[.int .i64 (e3 + e5), .int .i64 (e4 + e6)] 96)).below hb1 (by simp; omega)
        have K0 := Lib.hid k0
        have K1 := Lib.hid k1
        have K2 := Lib.hid k2
        have x1 : w1.cell? ⟨w.heap.size, 1, none⟩ = some (.int .i64 e1) := k0.cell (i := 1) rfl
        have zk0 := k0.lt
        clear k0 k1 k2 hb1
        go_wp2_with fail
        refine (out_any n E N e1 X Y a c w1 (HA.out.below (Nat.le_refl _) hbel1) hn HALL.out (by rw [HE1.out]; exact HNX.out.1) (HT.out.below (Nat.le_refl _) hbel1) n (by rw [HE1.out]; exact Nat.le_trans HNX.out.2 (Nat.le_of_lt hk))).mono ?_
        rintro e w2 ⟨rfl, hb2⟩
        rw [← HPI.out]
        have hbel2 := hbel1.trans (hb2.mono hbel1.size)
        have k0 := K0.out.below hb2 K0.out.lt
        have k1 := K1.out.below hb2 K1.out.lt
        have k2 := K2.out.below hb2 K2.out.lt
        have o0 : w2.cell? ⟨w.heap.size + 1 + 1, 4, none⟩ = some (.int .i64 0) := k2.cell (i := 4) rfl
        have o1 : w2.cell? ⟨w.heap.size + 1 + 1, 5, none⟩ = some (.int .i64 0) := k2.cell (i := 5) rfl
        have fz := k2.frozen
        have zk2 := k2.lt
        have knew := (k2.set 4 (.int .i64 (P 2).1)).set 5 (.int .i64 (P 2).2)
        have M0 := Lib.hid k0
        have M1 := Lib.hid k1
        have M2 := Lib.hid knew
        clear k0 k1 k2 knew
        go_wp2_with fail
        go_roundw
        case rel =>
          refine ⟨3, rfl, by omega, (M0.out.other (by simp; omega) _).other (by simp; omega) _, (M1.out.other (by simp) _).other (by simp) _, ?_, ?_⟩
          · simpa [cornC] using M2.out
          · repeat' (with_reducible first | exact Below.refl _ _ | assumption | refine Below.setCell ?_ ?_ _ | refine Below.alloc ?_ ?_ _ | refine below_drewN ?_ _ | refine Below.drew ?_)
            all_goals first | omega | (simp; done) | (simp; omega)
        case measure => simp [intOf]
      · go_wp2_with fail
        have ha1 := hbel.alloc hsz (Obj.cells #[.int .i64 (e3), .int .i64 (e4 + e6)] 96)
        refine (turned_any _ _ _ _ _ _ (by omega) (HT.out.below (Nat.le_refl _) ha1)).mono ?_
        rintro e w1 ⟨rfl, hb1⟩
        obtain ⟨X, hX⟩ : ∃ X, X = turnX (e3) (e4 + e6) (2 * e3 + e5) (2 * e4 + e6) e7 := ⟨_, rfl⟩
        obtain ⟨Y, hY⟩ : ∃ Y, Y = turnY (e3) (e4 + e6) (2 * e3 + e5) (2 * e4 + e6) e7 := ⟨_, rfl⟩
        rw [← hX, ← hY]
        have HPI := Lib.hid (show P 3 = outP n E n e1 X Y by rw [HP.out, hX, hY, HE1.out, HE3.out, HE4.out, HE5.out, HE6.out, HE7.out]; rfl)
        clear hX hY
        have hbel1 := ha1.trans (hb1.mono (by simp; omega))
        have k0 := (H0.out.alloc (Obj.cells #[.int .i64 (e3), .int .i64 (e4 + e6)] 96)).below hb1 (by simp; omega)
        have k1 := (H1.out.alloc (Obj.cells #[.int .i64 (e3), .int .i64 (e4 + e6)] 96)).below hb1 (by simp; omega)
        have k2 := (H2.out.alloc (Obj.cells #[.int .i64 (e3), .int .i64 (e4 + e6)] 96)).below hb1 (by simp; omega)
        have K0 := Lib.hid k0
        have K1 := Lib.hid k1
        have K2 := Lib.hid k2
        have x1 : w1.cell? ⟨w.heap.size, 1, none⟩ = some (.int .i64 e1) := k0.cell (i := 1) rfl
        have zk0 := k0.lt
        clear k0 k1 k2 hb1
        go_wp2_with fail
        refine (out_any n E N e1 X Y a c w1 (HA.out.below (Nat.le_refl _) hbel1) hn HALL.out (by rw [HE1.out]; exact HNX.out.1) (HT.out.below (Nat.le_refl _) hbel1) n (by rw [HE1.out]; exact Nat.le_trans HNX.out.2 (Nat.le_of_lt hk))).mono ?_
        rintro e w2 ⟨rfl, hb2⟩
        rw [← HPI.out]
        have hbel2 := hbel1.trans (hb2.mono hbel1.size)
        have k0 := K0.out.below hb2 K0.out.lt
        have k1 := K1.out.below hb2 K1.out.lt
        have k2 := K2.out.below hb2 K2.out.lt
        have o0 : w2.cell? ⟨w.heap.size + 1 + 1, 6, none⟩ = some (.int .i64 0) := k2.cell (i := 6) rfl
        have o1 : w2.cell? ⟨w.heap.size + 1 + 1, 7, none⟩ = some (.int .i64 0) := k2.cell (i := 7) rfl
        have fz := k2.frozen
        have zk2 := k2.lt
        have knew := (k2.set 6 (.int .i64 (P 3).1)).set 7 (.int .i64 (P 3).2)
        have M0 := Lib.hid k0
        have M1 := Lib.hid k1
        have M2 := Lib.hid knew
        clear k0 k1 k2 knew
        go_wp2_with fail
        go_roundw
        case rel =>
          refine ⟨4, rfl, by omega, (M0.out.other (by simp; omega) _).other (by simp; omega) _, (M1.out.other (by simp) _).other (by simp) _, ?_, ?_⟩
          · simpa [cornC] using M2.out
          · repeat' (with_reducible first | exact Below.refl _ _ | assumption | refine Below.setCell ?_ ?_ _ | refine Below.alloc ?_ ?_ _ | refine below_drewN ?_ _ | refine Below.drew ?_)
            all_goals first | omega | (simp; done) | (simp; omega)
        case measure => simp [intOf]
    · obtain rfl : i = 4 := by omega
      have q0 : wr.cell? ⟨w.heap.size + 1 + 1, 0, none⟩ = some (.int .i64 (P 0).1) := H2.out.cell (i := 0) rfl
      have q1 : wr.cell? ⟨w.heap.size + 1 + 1, 1, none⟩ = some (.int .i64 (P 0).2) := H2.out.cell (i := 1) rfl
      have q2 : wr.cell? ⟨w.heap.size + 1 + 1, 2, none⟩ = some (.int .i64 (P 1).1) := H2.out.cell (i := 2) rfl
      have q3 : wr.cell? ⟨w.heap.size + 1 + 1, 3, none⟩ = some (.int .i64 (P 1).2) := H2.out.cell (i := 3) rfl
      have q4 : wr.cell? ⟨w.heap.size + 1 + 1, 4, none⟩ = some (.int .i64 (P 2).1) := H2.out.cell (i := 4) rfl
      have q5 : wr.cell? ⟨w.heap.size + 1 + 1, 5, none⟩ = some (.int .i64 (P 2).2) := H2.out.cell (i := 5) rfl
      have q6 : wr.cell? ⟨w.heap.size + 1 + 1, 6, none⟩ = some (.int .i64 (P 3).1) := H2.out.cell (i := 6) rfl
      have q7 : wr.cell? ⟨w.heap.size + 1 + 1, 7, none⟩ = some (.int .i64 (P 3).2) := H2.out.cell (i := 7) rfl
      have o0 : wr.cell? ⟨w.heap.size + 1, 0, none⟩ = some (.int .i64 0) := H1.out.cell (i := 0) rfl
      have o1 : wr.cell? ⟨w.heap.size + 1, 1, none⟩ = some (.int .i64 0) := H1.out.cell (i := 1) rfl
      have o2 : wr.cell? ⟨w.heap.size + 1, 2, none⟩ = some (.int .i64 0) := H1.out.cell (i := 2) rfl
      have o3 : wr.cell? ⟨w.heap.size + 1, 3, none⟩ = some (.int .i64 0) := H1.out.cell (i := 3) rfl
      have o4 : wr.cell? ⟨w.heap.size + 1, 4, none⟩ = some (.int .i64 0) := H1.out.cell (i := 4) rfl
      have o5 : wr.cell? ⟨w.heap.size + 1, 5, none⟩ = some (.int .i64 0) := H1.out.cell (i := 5) rfl
      have o6 : wr.cell? ⟨w.heap.size + 1, 6, none⟩ = some (.int .i64 0) := H1.out.cell (i := 6) rfl
      have o7 : wr.cell? ⟨w.heap.size + 1, 7, none⟩ = some (.int .i64 0) := H1.out.cell (i := 7) rfl
      have fz := H1.out.frozen
      clear l1 l3 l4 l5 l6 l7
      have knew := ((((((((H1.out.set 0 (.int .i64 (P 0).1)).set 1 (.int .i64 (P 0).2)).set 2 (.int .i64 (P 1).1)).set 3 (.int .i64 (P 1).2)).set 4 (.int .i64 (P 2).1)).set 5 (.int .i64 (P 2).2)).set 6 (.int .i64 (P 3).1)).set 7 (.int .i64 (P 3).2))
      simp only [List.setIfInBounds_toArray, List.set_cons_zero, List.set_cons_succ] at knew
      have KN := Lib.hid knew
      clear knew
      go_wp2_with fail
      (try simp only [Exit.inBlock, Exit.then])
      refine bodyPost_ret (v := .agg (cornC P 4)) ?rc rfl ?_
      case rc => exact results_cell_row rfl _ _ (w.heap.size + 1) 83 _ (0, 0) _ rfl KN.out Tryd.underlying83 rfl (by kernel_rfl)
      refine ⟨rfl, ?_⟩
      repeat' (with_reducible first | exact Below.refl _ _ | assumption | refine Below.setCell ?_ ?_ _ | refine Below.alloc ?_ ?_ _ | refine below_drewN ?_ _ | refine Below.drew ?_)
      all_goals first | omega | (simp; done) | (simp; omega)
end Go.Proofs.YtnigebnibikolaaDoor.ShT
