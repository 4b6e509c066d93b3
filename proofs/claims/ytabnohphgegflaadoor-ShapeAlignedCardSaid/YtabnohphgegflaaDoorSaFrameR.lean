

/-
  FrameOf, ends: the reference's.
-/
import Derived.Test.YtabnohphgegflaaDoorSaPlain
import Derived.Test.YtabnohphgegflaaDoorShOf
import Derived.Test.YtabnohphgegflaaDoorParts
namespace Go.Law.Sh
open Go.RowKit
/-- a shape alone, in no group -/
def aloE (e : Nat → Int) : Nat → Nat → Int := fun _ j => if j = 1 then 0 else e j
theorem alo_right {E : Nat → Nat → Int} {k : Nat} (h : Right E k) : ∀ j, j < 1 → Right (aloE (E k)) j := by
  intro j hj
  obtain rfl : j = 0 := by omega
  obtain ⟨h1, h2, h3, h4, _, _⟩ := h
  refine ⟨h1, ⟨h2.1, ⟨Int.le_refl _, by show (0 : Int) ≤ _; omega⟩, h2.2.2⟩, h3, h4, ?_, ?_⟩
  · rw [findV_none (fun j hj => by omega)]; decide
  · exact parE_zero _ _ _
theorem alo_corn (e : Nat → Int) : cornP 1 (aloE e) 0 = fun i => (tcX e i, tcY e i) := by
  funext i
  unfold cornP
  rw [show aloE e 0 1 = 0 from rfl, outP_zero]
  unfold tcX tcY
  have hx : cornX (aloE e 0) i = cornX e i := by unfold cornX; split <;> rfl
  have hy : cornY (aloE e 0) i = cornY e i := by unfold cornY; split <;> rfl
  rw [hx, hy]
  rfl
def pmF (f : Nat → Int) : Nat → Int
  | 0 => 0
  | i + 1 => mnF f i
def pxF (f : Nat → Int) : Nat → Int
  | 0 => 0
  | i + 1 => mxF f i
end Go.Law.Sh
namespace Go.Proofs.YtabnohphgegflaaDoor.ShT
open Go.RowKit Go.Law Go.Law.Sh
set_option linter.unusedVariables false
set_option linter.unusedSimpArgs false
set_option maxRecDepth 100000
def FS (w wx : World) (kr kf g : Nat) (X Y : Nat → Int) (a b c d : Int) : Prop :=
  (Blk wx kr #[.int .i64 0, .int .i64 0, .int .i64 0, .int .i64 0] 64 ∧ Blk wx kf #[.int .i64 a, .int .i64 b, .int .i64 c, .int .i64 d] 64) ∧ OwnP wx 87 g 4 (fun i => (X i, Y i)) ∧ Below w.heap.size w wx
/-- a store to a field of the frame -/
theorem FS.set {w wx : World} {kr kf g : Nat} {X Y : Nat → Int} {a b c d : Int} (h : FS w wx kr kf g X Y a b c d) (hk : w.heap.size ≤ kr ∧ kr < kf) (hg : kf < g) (v : Int) :
    FS w (wx.setCell ⟨kf, 0, none⟩ (.int .i64 v)) kr kf g X Y v b c d ∧ FS w (wx.setCell ⟨kf, 1, none⟩ (.int .i64 v)) kr kf g X Y a v c d ∧
    FS w (wx.setCell ⟨kf, 2, none⟩ (.int .i64 v)) kr kf g X Y a b v d ∧ FS w (wx.setCell ⟨kf, 3, none⟩ (.int .i64 v)) kr kf g X Y a b c v := by
  obtain ⟨⟨h1, h2⟩, h3, h4⟩ := h
  refine ⟨⟨⟨h1.other (by simp; omega) _, h2.set 0 _⟩, OwnF.other h3 (by simp; omega) _, h4.setCell (by simp; omega) _⟩, ⟨⟨h1.other (by simp; omega) _, h2.set 1 _⟩, OwnF.other h3 (by simp; omega) _, h4.setCell (by simp; omega) _⟩,
    ⟨⟨h1.other (by simp; omega) _, h2.set 2 _⟩, OwnF.other h3 (by simp; omega) _, h4.setCell (by simp; omega) _⟩, ⟨⟨h1.other (by simp; omega) _, h2.set 3 _⟩, OwnF.other h3 (by simp; omega) _, h4.setCell (by simp; omega) _⟩⟩
set_option maxHeartbeats 4000000 in
theorem frameOf_any (k : Nat) (E : Nat → Nat → Int) (N : Nat → Nat → ByteArray) (w : World) (hr : Right E k) (ht : Arr w 6) :
    Calls Tryd.prog 42 #[.agg #[.int .i64 (E k 0), .int .i64 (E k 1), .int .i64 (E k 2), .int .i64 (E k 3), .int .i64 (E k 4), .int .i64 (E k 5), .int .i64 (E k 6), .int .i64 (E k 7), .int .i64 (E k 8), .int .i64 (E k 9), .string (N k 0), .string (N k 1)]] w fun e w' => e = .returned (.agg (frA (E k))) ∧ Below w.heap.size w w' := by
  have HT := Lib.hid ht
  have HR := Lib.hid (alo_right hr)
  have HCO := Lib.hid (alo_corn (E k))
  obtain ⟨X, hX⟩ : ∃ P, P = tcX (E k) := ⟨_, rfl⟩
  obtain ⟨Y, hY⟩ : ∃ P, P = tcY (E k) := ⟨_, rfl⟩
  have HF := Lib.hid (show frA (E k) = frC X Y 4 by rw [hX, hY]; rfl)
  rw [HF.out]
  rw [← hX, ← hY] at HCO
  clear ht hr hX hY
  obtain ⟨e0, he0⟩ : ∃ e, e = E k 0 := ⟨_, rfl⟩
  obtain ⟨e1, he1⟩ : ∃ e, e = E k 1 := ⟨_, rfl⟩
  obtain ⟨e2, he2⟩ : ∃ e, e = E k 2 := ⟨_, rfl⟩
  obtain ⟨e3, he3⟩ : ∃ e, e = E k 3 := ⟨_, rfl⟩
  obtain ⟨e4, he4⟩ : ∃ e, e = E k 4 := ⟨_, rfl⟩
  obtain ⟨e5, he5⟩ : ∃ e, e = E k 5 := ⟨_, rfl⟩
  obtain ⟨e6, he6⟩ : ∃ e, e = E k 6 := ⟨_, rfl⟩
  obtain ⟨e7, he7⟩ : ∃ e, e = E k 7 := ⟨_, rfl⟩
  obtain ⟨e8, he8⟩ : ∃ e, e = E k 8 := ⟨_, rfl⟩
  obtain ⟨e9, he9⟩ : ∃ e, e = E k 9 := ⟨_, rfl⟩
  obtain ⟨n0, hn0⟩ : ∃ e, e = N k 0 := ⟨_, rfl⟩
  obtain ⟨n1, hn1⟩ : ∃ e, e = N k 1 := ⟨_, rfl⟩
  rw [← he0, ← he1, ← he2, ← he3, ← he4, ← he5, ← he6, ← he7, ← he8, ← he9, ← hn0, ← hn1]
  have HE0 := Lib.hid he0
  have HE1 := Lib.hid he1
  have HE2 := Lib.hid he2
  have HE3 := Lib.hid he3
  have HE4 := Lib.hid he4
  have HE5 := Lib.hid he5
  have HE6 := Lib.hid he6
  have HE7 := Lib.hid he7
  have HE8 := Lib.hid he8
  have HE9 := Lib.hid he9
  have HN0 := Lib.hid hn0
  have HN1 := Lib.hid hn1
  clear he0 he1 he2 he3 he4 he5 he6 he7 he8 he9 hn0 hn1
  go_enter Tryd.func42, Tryd.ntmps42
  go_wp2_with fail
  obtain ⟨w0, hw0⟩ : ∃ w0, w0 = ((((w.alloc (Obj.cells #[.int .i64 e0, .int .i64 e1, .int .i64 e2, .int .i64 e3, .int .i64 e4, .int .i64 e5, .int .i64 e6, .int .i64 e7, .int .i64 e8, .int .i64 e9, .string n0, .string n1] 30)).alloc (Obj.cells #[.int .i64 0, .int .i64 0, .int .i64 0, .int .i64 0] 64)).alloc (Obj.cells #[.int .i64 e0, .int .i64 0, .int .i64 e2, .int .i64 e3, .int .i64 e4, .int .i64 e5, .int .i64 e6, .int .i64 e7, .int .i64 e8, .int .i64 e9, .string n0, .string n1] 30)).alloc (Obj.cells #[.int .i64 0, .int .i64 0, .int .i64 0, .int .i64 0] 64)).alloc (Obj.cells #[.int .i64 e0, .int .i64 0, .int .i64 e2, .int .i64 e3, .int .i64 e4, .int .i64 e5, .int .i64 e6, .int .i64 e7, .int .i64 e8, .int .i64 e9, .string n0, .string n1] 30) := ⟨_, rfl⟩
  rw [← hw0]
  obtain ⟨kr, hkr⟩ : ∃ k, k = w.heap.size + 1 := ⟨_, rfl⟩
  obtain ⟨kf, hkf⟩ : ∃ k, k = w.heap.size + 1 + 1 + 1 := ⟨_, rfl⟩
  obtain ⟨ks, hks⟩ : ∃ k, k = w.heap.size + 1 + 1 + 1 + 1 := ⟨_, rfl⟩
  rw [← hks, ← hkf, ← hkr]
  have b1 : Blk w0 kr #[.int .i64 0, .int .i64 0, .int .i64 0, .int .i64 0] 64 := by
    have := (((Blk.new (w.alloc (Obj.cells #[.int .i64 e0, .int .i64 e1, .int .i64 e2, .int .i64 e3, .int .i64 e4, .int .i64 e5, .int .i64 e6, .int .i64 e7, .int .i64 e8, .int .i64 e9, .string n0, .string n1] 30)) #[.int .i64 0, .int .i64 0, .int .i64 0, .int .i64 0] 64).alloc (Obj.cells #[.int .i64 e0, .int .i64 0, .int .i64 e2, .int .i64 e3, .int .i64 e4, .int .i64 e5, .int .i64 e6, .int .i64 e7, .int .i64 e8, .int .i64 e9, .string n0, .string n1] 30)).alloc (Obj.cells #[.int .i64 0, .int .i64 0, .int .i64 0, .int .i64 0] 64)).alloc (Obj.cells #[.int .i64 e0, .int .i64 0, .int .i64 e2, .int .i64 e3, .int .i64 e4, .int .i64 e5, .int .i64 e6, .int .i64 e7, .int .i64 e8, .int .i64 e9, .string n0, .string n1] 30)
    rw [World.size_alloc] at this
    rw [hw0, hkr]; exact this
  have b2 : Blk w0 kf #[.int .i64 0, .int .i64 0, .int .i64 0, .int .i64 0] 64 := by
    have := (Blk.new (((w.alloc (Obj.cells #[.int .i64 e0, .int .i64 e1, .int .i64 e2, .int .i64 e3, .int .i64 e4, .int .i64 e5, .int .i64 e6, .int .i64 e7, .int .i64 e8, .int .i64 e9, .string n0, .string n1] 30)).alloc (Obj.cells #[.int .i64 0, .int .i64 0, .int .i64 0, .int .i64 0] 64)).alloc (Obj.cells #[.int .i64 e0, .int .i64 0, .int .i64 e2, .int .i64 e3, .int .i64 e4, .int .i64 e5, .int .i64 e6, .int .i64 e7, .int .i64 e8, .int .i64 e9, .string n0, .string n1] 30)) #[.int .i64 0, .int .i64 0, .int .i64 0, .int .i64 0] 64).alloc (Obj.cells #[.int .i64 e0, .int .i64 0, .int .i64 e2, .int .i64 e3, .int .i64 e4, .int .i64 e5, .int .i64 e6, .int .i64 e7, .int .i64 e8, .int .i64 e9, .string n0, .string n1] 30)
    rw [World.size_alloc, World.size_alloc, World.size_alloc] at this
    rw [hw0, hkf]; exact this
  have b3 : Blk w0 ks #[.int .i64 e0, .int .i64 0, .int .i64 e2, .int .i64 e3, .int .i64 e4, .int .i64 e5, .int .i64 e6, .int .i64 e7, .int .i64 e8, .int .i64 e9, .string n0, .string n1] 30 := by
    have := Blk.new ((((w.alloc (Obj.cells #[.int .i64 e0, .int .i64 e1, .int .i64 e2, .int .i64 e3, .int .i64 e4, .int .i64 e5, .int .i64 e6, .int .i64 e7, .int .i64 e8, .int .i64 e9, .string n0, .string n1] 30)).alloc (Obj.cells #[.int .i64 0, .int .i64 0, .int .i64 0, .int .i64 0] 64)).alloc (Obj.cells #[.int .i64 e0, .int .i64 0, .int .i64 e2, .int .i64 e3, .int .i64 e4, .int .i64 e5, .int .i64 e6, .int .i64 e7, .int .i64 e8, .int .i64 e9, .string n0, .string n1] 30)).alloc (Obj.cells #[.int .i64 0, .int .i64 0, .int .i64 0, .int .i64 0] 64)) #[.int .i64 e0, .int .i64 0, .int .i64 e2, .int .i64 e3, .int .i64 e4, .int .i64 e5, .int .i64 e6, .int .i64 e7, .int .i64 e8, .int .i64 e9, .string n0, .string n1] 30
    rw [World.size_alloc, World.size_alloc, World.size_alloc, World.size_alloc] at this
    rw [hw0, hks]; exact this
  have HBW := Lib.hid (show Below w.heap.size w w0 by rw [hw0]; exact (((((Below.refl _ _).alloc (Nat.le_refl _) _).alloc (by simp) _).alloc (by simp; omega) _).alloc (by simp; omega) _).alloc (by simp; omega) _)
  have HK := Lib.hid (show w.heap.size ≤ kr ∧ kr < kf ∧ kf < ks ∧ ks < w0.heap.size from ⟨by omega, by omega, by omega, b3.lt⟩)
  have HB1 := Lib.hid b1
  have HB2 := Lib.hid b2
  have HSF := Lib.hid (show ShF w0 (some ⟨ks, 0, none⟩) 1 (aloE (E k)) (fun _ j => N k j) from by
    intro _
    refine ⟨ks, 0, rfl, fun i hi => ?_⟩
    obtain rfl : i = 0 := by omega
    refine ⟨fun j hj => ?_, ?_, ?_⟩
    · have hv : aloE (E k) 0 j = [e0, 0, e2, e3, e4, e5, e6, e7, e8, e9].getD j 0 := by
        rw [HE0.out, HE2.out, HE3.out, HE4.out, HE5.out, HE6.out, HE7.out, HE8.out, HE9.out]
        obtain rfl | rfl | rfl | rfl | rfl | rfl | rfl | rfl | rfl | rfl : j = 0 ∨ j = 1 ∨ j = 2 ∨ j = 3 ∨ j = 4 ∨ j = 5 ∨ j = 6 ∨ j = 7 ∨ j = 8 ∨ j = 9 := by omega
        all_goals rfl
      rw [hv]
      obtain rfl | rfl | rfl | rfl | rfl | rfl | rfl | rfl | rfl | rfl : j = 0 ∨ j = 1 ∨ j = 2 ∨ j = 3 ∨ j = 4 ∨ j = 5 ∨ j = 6 ∨ j = 7 ∨ j = 8 ∨ j = 9 := by omega
      all_goals exact b3.cell rfl
    · show _ = some (Value.string (N k 0)); rw [← HN0.out]; exact b3.cell (i := 10) rfl
    · show _ = some (Value.string (N k 1)); rw [← HN1.out]; exact b3.cell (i := 11) rfl)
  clear hw0 hkr hkf hks b1 b2 b3
  refine (cornersOf_any 1 0 (aloE (E k)) (fun _ j => N k j) _ 1 w0 HSF.out (by omega) (by omega) HR.out (HT.out.below (Nat.le_refl _) HBW.out)).mono ?_
  rintro e w1 ⟨g, rfl, hP, hgs, hb1⟩
  rw [HCO.out] at hP
  have HP := Lib.hid hP
  have B1 := Lib.hid (HB1.out.below hb1 (by have := HK.out; omega))
  have B2 := Lib.hid (HB2.out.below hb1 (by have := HK.out; omega))
  have BW := Lib.hid (HBW.out.trans (hb1.mono HBW.out.size))
  have HKG := Lib.hid (show kf < g by have := HK.out; omega)
  clear hb1 hP HB1 HB2 HBW HSF hgs HR HCO
  have HFS := Lib.hid (show FS w w1 kr kf g X Y (pmF X 0) (pmF Y 0) (pxF X 0) (pxF Y 0) from ⟨⟨B1.out, B2.out⟩, HP.out, BW.out⟩)
  have HK2 := Lib.hid (show w.heap.size ≤ kr ∧ kr < kf from ⟨HK.out.1, HK.out.2.1⟩)
  clear B1 B2 HP BW HK
  go_wp2_with fail
  go_loopw [14] (fun ix wr => ∃ i : Nat, ix = .int .i64 i ∧ i ≤ 4 ∧ FS w wr kr kf g X Y (pmF X i) (pmF Y i) (pxF X i) (pxF Y i)) (fun ix _ => 4 - (intOf ix).toNat)
  case atStart => exact ⟨0, rfl, by omega, HFS.out⟩
  case round =>
    clear HFS
    obtain ⟨i, rfl, hi, hfs⟩ := hrel
    have HF0 := Lib.hid hfs
    obtain ⟨⟨h1, h2⟩, h3, h4⟩ := hfs
    by_cases hi4 : i < 4
    · have hi42 : (i : Int) < 4 := by omega
      have px : wr.cell? ⟨g, i * 2, none⟩ = some (.int .i64 (X i)) := OwnP.fst h3 hi4
      have py : wr.cell? ⟨g, i * 2 + 1, none⟩ = some (.int .i64 (Y i)) := OwnP.snd h3 hi4
      have zg := OwnF.lt h3
      clear h1 h2 h3 h4
      obtain ⟨x, hx⟩ : ∃ x, x = X i := ⟨_, rfl⟩
      obtain ⟨y, hy⟩ : ∃ x, x = Y i := ⟨_, rfl⟩
      have HXI := Lib.hid hx
      have HYI := Lib.hid hy
      rw [← hx] at px
      rw [← hy] at py
      clear hx hy
      go_upto_region 7 with fail
      obtain ⟨wp, hwp⟩ : ∃ v, v = wr.alloc (Obj.cells #[.int .i64 x, .int .i64 y] 87) := ⟨_, rfl⟩
      obtain ⟨kp, hkp⟩ : ∃ v, v = wr.heap.size := ⟨_, rfl⟩
      have HPP := Lib.hid (show Blk wp kp #[.int .i64 x, .int .i64 y] 87 by rw [hwp, hkp]; exact Blk.new _ _ _)
      have HFP := Lib.hid (show FS w wp kr kf g X Y (pmF X i) (pmF Y i) (pxF X i) (pxF Y i) by
        obtain ⟨⟨h1, h2⟩, h3, h4⟩ := HF0.out
        rw [hwp]
        exact ⟨⟨h1.alloc _, h2.alloc _⟩, OwnF.alloc h3 _, h4.alloc h4.size _⟩)
      have HKP := Lib.hid (show g < kp by omega)
      rw [← hwp, ← hkp]
      clear hwp hkp px py zg HF0
      by_cases hi0 : i = 0
      · subst hi0
        have c0 : (wp).cell? ⟨kf, 0, none⟩ = some (.int .i64 (0)) := (HFP).out.1.2.cell (i := 0) rfl
        have c1 : (wp).cell? ⟨kf, 1, none⟩ = some (.int .i64 (0)) := (HFP).out.1.2.cell (i := 1) rfl
        have c2 : (wp).cell? ⟨kf, 2, none⟩ = some (.int .i64 (0)) := (HFP).out.1.2.cell (i := 2) rfl
        have c3 : (wp).cell? ⟨kf, 3, none⟩ = some (.int .i64 (0)) := (HFP).out.1.2.cell (i := 3) rfl
        have q0 : (wp).cell? ⟨kp, 0, none⟩ = some (.int .i64 x) := (HPP).out.cell (i := 0) rfl
        have q1 : (wp).cell? ⟨kp, 1, none⟩ = some (.int .i64 y) := (HPP).out.cell (i := 1) rfl
        have fz := (HFP).out.1.2.frozen
        have hgk := HKG.out
        have hgp := HKP.out
        go_wp2_with fail
        go_roundw
        case rel =>
          have k1 := (HFP.out.set HK2.out HKG.out x).1
          have k2 := (k1.set HK2.out HKG.out y).2.1
          have k3 := (k2.set HK2.out HKG.out x).2.2.1
          have k4 := (k3.set HK2.out HKG.out y).2.2.2
          refine ⟨1, rfl, by omega, ?_⟩
          show FS w _ kr kf g X Y (X 0) (Y 0) (X 0) (Y 0)
          rw [← HXI.out, ← HYI.out]
          exact k4
        case measure => simp [intOf]
      · obtain ⟨j, hj⟩ : ∃ j, i = j + 1 := ⟨i - 1, by omega⟩
        have f0 : ((i : Int) == 0) = false := by simp; omega
        have HJ := Lib.hid hj
        obtain ⟨a, ha⟩ : ∃ x, x = mnF X j := ⟨_, rfl⟩
        obtain ⟨b, hb⟩ : ∃ x, x = mnF Y j := ⟨_, rfl⟩
        obtain ⟨c, hc⟩ : ∃ x, x = mxF X j := ⟨_, rfl⟩
        obtain ⟨d, hd⟩ : ∃ x, x = mxF Y j := ⟨_, rfl⟩
        have HF1 := Lib.hid (show FS w wp kr kf g X Y a b c d by rw [ha, hb, hc, hd]; have h := HFP.out; rw [hj] at h; exact h)
        have HA := Lib.hid (show (mnF X (j + 1) = min a x ∧ mnF Y (j + 1) = min b y) ∧ (mxF X (j + 1) = max c x ∧ mxF Y (j + 1) = max d y) by
          rw [ha, hb, hc, hd, HXI.out, HYI.out, hj]
          exact ⟨⟨rfl, rfl⟩, ⟨rfl, rfl⟩⟩)
        have hgk := HKG.out
        have hgp := HKP.out
        clear ha hb hc hd HFP hi0 hj
        have c0 : (wp).cell? ⟨kf, 0, none⟩ = some (.int .i64 (a)) := (HF1).out.1.2.cell (i := 0) rfl
        have c1 : (wp).cell? ⟨kf, 1, none⟩ = some (.int .i64 (b)) := (HF1).out.1.2.cell (i := 1) rfl
        have c2 : (wp).cell? ⟨kf, 2, none⟩ = some (.int .i64 (c)) := (HF1).out.1.2.cell (i := 2) rfl
        have c3 : (wp).cell? ⟨kf, 3, none⟩ = some (.int .i64 (d)) := (HF1).out.1.2.cell (i := 3) rfl
        have q0 : (wp).cell? ⟨kp, 0, none⟩ = some (.int .i64 x) := (HPP).out.cell (i := 0) rfl
        have q1 : (wp).cell? ⟨kp, 1, none⟩ = some (.int .i64 y) := (HPP).out.cell (i := 1) rfl
        have fz := (HF1).out.1.2.frozen
        go_upto_if 27 with fail
        go_cut [] from 19 to 30 (fun wx => FS w wx kr kf g X Y (min a x) (b) (c) (d) ∧ Blk wx kp #[.int .i64 x, .int .i64 y] 87)
        case first =>
          obtain ⟨B, hB⟩ : ∃ B, B = decide (x < a) := ⟨_, rfl⟩
          rw [← hB]
          have HBB := Lib.hid hB
          clear hB
          cases B
          · have HC := Lib.hid (show min a x = a by have := of_decide_eq_false HBB.out.symm; omega)
            go_wp2_with fail
            go_meet
            exact ⟨by rw [HC.out]; exact (HF1).out, (HPP).out⟩
          · have HC := Lib.hid (show min a x = x by have := of_decide_eq_true HBB.out.symm; omega)
            go_wp2_with fail
            go_meet
            exact ⟨by rw [HC.out]; exact ((HF1).out.set HK2.out HKG.out x).1, (HPP).out.other (by have := HKG.out; have := HKP.out; simp; omega) _⟩
        case rest =>
        obtain ⟨hf, hp⟩ := hcut
        obtain ⟨w2, rfl⟩ : ∃ v : World, v = wc := ⟨_, rfl⟩
        have HF2 := Lib.hid hf
        have HP2 := Lib.hid hp
        clear hf hp c0 c1 c2 c3 q0 q1 fz
        have c0 : (w2).cell? ⟨kf, 0, none⟩ = some (.int .i64 (min a x)) := (HF2).out.1.2.cell (i := 0) rfl
        have c1 : (w2).cell? ⟨kf, 1, none⟩ = some (.int .i64 (b)) := (HF2).out.1.2.cell (i := 1) rfl
        have c2 : (w2).cell? ⟨kf, 2, none⟩ = some (.int .i64 (c)) := (HF2).out.1.2.cell (i := 2) rfl
        have c3 : (w2).cell? ⟨kf, 3, none⟩ = some (.int .i64 (d)) := (HF2).out.1.2.cell (i := 3) rfl
        have q0 : (w2).cell? ⟨kp, 0, none⟩ = some (.int .i64 x) := (HP2).out.cell (i := 0) rfl
        have q1 : (w2).cell? ⟨kp, 1, none⟩ = some (.int .i64 y) := (HP2).out.cell (i := 1) rfl
        have fz := (HF2).out.1.2.frozen
        go_upto_if 39 with fail
        go_cut [] from 31 to 42 (fun wx => FS w wx kr kf g X Y (min a x) (min b y) (c) (d) ∧ Blk wx kp #[.int .i64 x, .int .i64 y] 87)
        case first =>
          obtain ⟨B, hB⟩ : ∃ B, B = decide (y < b) := ⟨_, rfl⟩
          rw [← hB]
          have HBB := Lib.hid hB
          clear hB
          cases B
          · have HC := Lib.hid (show min b y = b by have := of_decide_eq_false HBB.out.symm; omega)
            go_wp2_with fail
            go_meet
            exact ⟨by rw [HC.out]; exact (HF2).out, (HP2).out⟩
          · have HC := Lib.hid (show min b y = y by have := of_decide_eq_true HBB.out.symm; omega)
            go_wp2_with fail
            go_meet
            exact ⟨by rw [HC.out]; exact ((HF2).out.set HK2.out HKG.out y).2.1, (HP2).out.other (by have := HKG.out; have := HKP.out; simp; omega) _⟩
        case rest =>
        obtain ⟨hf, hp⟩ := hcut
        obtain ⟨w3, rfl⟩ : ∃ v : World, v = wc := ⟨_, rfl⟩
        have HF3 := Lib.hid hf
        have HP3 := Lib.hid hp
        clear hf hp c0 c1 c2 c3 q0 q1 fz
        have c0 : (w3).cell? ⟨kf, 0, none⟩ = some (.int .i64 (min a x)) := (HF3).out.1.2.cell (i := 0) rfl
        have c1 : (w3).cell? ⟨kf, 1, none⟩ = some (.int .i64 (min b y)) := (HF3).out.1.2.cell (i := 1) rfl
        have c2 : (w3).cell? ⟨kf, 2, none⟩ = some (.int .i64 (c)) := (HF3).out.1.2.cell (i := 2) rfl
        have c3 : (w3).cell? ⟨kf, 3, none⟩ = some (.int .i64 (d)) := (HF3).out.1.2.cell (i := 3) rfl
        have q0 : (w3).cell? ⟨kp, 0, none⟩ = some (.int .i64 x) := (HP3).out.cell (i := 0) rfl
        have q1 : (w3).cell? ⟨kp, 1, none⟩ = some (.int .i64 y) := (HP3).out.cell (i := 1) rfl
        have fz := (HF3).out.1.2.frozen
        go_upto_if 51 with fail
        go_cut [] from 43 to 54 (fun wx => FS w wx kr kf g X Y (min a x) (min b y) (max c x) (d) ∧ Blk wx kp #[.int .i64 x, .int .i64 y] 87)
        case first =>
          obtain ⟨B, hB⟩ : ∃ B, B = decide (c < x) := ⟨_, rfl⟩
          rw [← hB]
          have HBB := Lib.hid hB
          clear hB
          cases B
          · have HC := Lib.hid (show max c x = c by have := of_decide_eq_false HBB.out.symm; omega)
            go_wp2_with fail
            go_meet
            exact ⟨by rw [HC.out]; exact (HF3).out, (HP3).out⟩
          · have HC := Lib.hid (show max c x = x by have := of_decide_eq_true HBB.out.symm; omega)
            go_wp2_with fail
            go_meet
            exact ⟨by rw [HC.out]; exact ((HF3).out.set HK2.out HKG.out x).2.2.1, (HP3).out.other (by have := HKG.out; have := HKP.out; simp; omega) _⟩
        case rest =>
        obtain ⟨hf, hp⟩ := hcut
        obtain ⟨w4, rfl⟩ : ∃ v : World, v = wc := ⟨_, rfl⟩
        have HF4 := Lib.hid hf
        have HP4 := Lib.hid hp
        clear hf hp c0 c1 c2 c3 q0 q1 fz
        have c0 : (w4).cell? ⟨kf, 0, none⟩ = some (.int .i64 (min a x)) := (HF4).out.1.2.cell (i := 0) rfl
        have c1 : (w4).cell? ⟨kf, 1, none⟩ = some (.int .i64 (min b y)) := (HF4).out.1.2.cell (i := 1) rfl
        have c2 : (w4).cell? ⟨kf, 2, none⟩ = some (.int .i64 (max c x)) := (HF4).out.1.2.cell (i := 2) rfl
        have c3 : (w4).cell? ⟨kf, 3, none⟩ = some (.int .i64 (d)) := (HF4).out.1.2.cell (i := 3) rfl
        have q0 : (w4).cell? ⟨kp, 0, none⟩ = some (.int .i64 x) := (HP4).out.cell (i := 0) rfl
        have q1 : (w4).cell? ⟨kp, 1, none⟩ = some (.int .i64 y) := (HP4).out.cell (i := 1) rfl
        have fz := (HF4).out.1.2.frozen
        go_upto_if 63 with fail
        obtain ⟨B, hB⟩ : ∃ B, B = decide (d < y) := ⟨_, rfl⟩
        rw [← hB]
        have HBB := Lib.hid hB
        clear hB
        cases B
        · have HC := Lib.hid (show max d y = d by have := of_decide_eq_false HBB.out.symm; omega)
          go_wp2_with fail
          go_roundw
          case rel =>
            have hj := HJ.out
            refine ⟨i + 1, by go_num, by omega, ?_⟩
            rw [hj]
            show FS w _ kr kf g X Y (mnF X (j + 1)) (mnF Y (j + 1)) (mxF X (j + 1)) (mxF Y (j + 1))
            rw [HA.out.1.1, HA.out.1.2, HA.out.2.1, HA.out.2.2, HC.out]
            exact HF4.out
          case measure => simp [intOf]; omega
        · have HC := Lib.hid (show max d y = y by have := of_decide_eq_true HBB.out.symm; omega)
          go_wp2_with fail
          go_roundw
          case rel =>
            have hj := HJ.out
            refine ⟨i + 1, by go_num, by omega, ?_⟩
            rw [hj]
            show FS w _ kr kf g X Y (mnF X (j + 1)) (mnF Y (j + 1)) (mxF X (j + 1)) (mxF Y (j + 1))
            rw [HA.out.1.1, HA.out.1.2, HA.out.2.1, HA.out.2.2, HC.out]
            exact (HF4.out.set HK2.out HKG.out y).2.2.2
          case measure => simp [intOf]; omega
    · obtain rfl : i = 4 := by omega
      have hk2 := HK2.out
      have q0 : wr.cell? ⟨kf, 0, none⟩ = some (.int .i64 (mnF X 3)) := h2.cell (i := 0) rfl
      have q1 : wr.cell? ⟨kf, 1, none⟩ = some (.int .i64 (mnF Y 3)) := h2.cell (i := 1) rfl
      have q2 : wr.cell? ⟨kf, 2, none⟩ = some (.int .i64 (mxF X 3)) := h2.cell (i := 2) rfl
      have q3 : wr.cell? ⟨kf, 3, none⟩ = some (.int .i64 (mxF Y 3)) := h2.cell (i := 3) rfl
      have o0 : wr.cell? ⟨kr, 0, none⟩ = some (.int .i64 0) := h1.cell (i := 0) rfl
      have o1 : wr.cell? ⟨kr, 1, none⟩ = some (.int .i64 0) := h1.cell (i := 1) rfl
      have o2 : wr.cell? ⟨kr, 2, none⟩ = some (.int .i64 0) := h1.cell (i := 2) rfl
      have o3 : wr.cell? ⟨kr, 3, none⟩ = some (.int .i64 0) := h1.cell (i := 3) rfl
      have fz := h1.frozen
      have knew := (((h1.set 0 (.int .i64 (mnF X 3))).set 1 (.int .i64 (mnF Y 3))).set 2 (.int .i64 (mxF X 3))).set 3 (.int .i64 (mxF Y 3))
      simp only [List.setIfInBounds_toArray, List.set_cons_zero, List.set_cons_succ] at knew
      have KN := Lib.hid knew
      have HB4 := Lib.hid h4
      have hn4 : ¬ (4 : Int) < 4 := by omega
      clear knew h1 h2 h3 h4
      go_wp2_with fail
      (try simp only [Exit.inBlock, Exit.then])
      refine bodyPost_ret (v := .agg (frC X Y 4)) ?rc rfl ?_
      case rc => exact results_cell_row rfl _ _ (kr) 64 _ (0, 0) _ rfl KN.out Tryd.underlying64 rfl (by kernel_rfl)
      have hb := HB4.out
      refine ⟨rfl, ?_⟩
      repeat' (with_reducible first | exact Below.refl _ _ | assumption | refine Below.setCell ?_ ?_ _ | refine Below.alloc ?_ ?_ _ | refine below_drewN ?_ _ | refine Below.drew ?_)
      all_goals first | omega | (simp; done) | (simp; omega)
set_option maxHeartbeats 1000000 in
theorem ends_any (k : Nat) (E : Nat → Nat → Int) (N : Nat → Nat → ByteArray) (ax : Int) (w : World) (hbx : Right E k) (ht : Arr w 6) :
    Calls Tryd.prog 26 #[.agg #[.int .i64 (E k 0), .int .i64 (E k 1), .int .i64 (E k 2), .int .i64 (E k 3), .int .i64 (E k 4), .int .i64 (E k 5), .int .i64 (E k 6), .int .i64 (E k 7), .int .i64 (E k 8), .int .i64 (E k 9), .string (N k 0), .string (N k 1)], .int .i64 ax] w fun e w' => e = .returned (.tuple #[.int .i64 (extA (E k) ax), .int .i64 (extB (E k) ax)]) ∧ Below w.heap.size w w' := by
  have HT := Lib.hid ht
  have HBX := Lib.hid hbx
  have HA := Lib.hid (show extA (E k) ax = if ax = 0 then mnF (tcX (E k)) 3 else mnF (tcY (E k)) 3 from rfl)
  have HB := Lib.hid (show extB (E k) ax = if ax = 0 then mxF (tcX (E k)) 3 else mxF (tcY (E k)) 3 from rfl)
  rw [HA.out, HB.out]
  have HFR := Lib.hid (show frA (E k) = #[.int .i64 (mnF (tcX (E k)) 3), .int .i64 (mnF (tcY (E k)) 3), .int .i64 (mxF (tcX (E k)) 3), .int .i64 (mxF (tcY (E k)) 3)] from rfl)
  obtain ⟨x0, hx0⟩ : ∃ x, x = mnF (tcX (E k)) 3 := ⟨_, rfl⟩
  obtain ⟨y0, hy0⟩ : ∃ x, x = mnF (tcY (E k)) 3 := ⟨_, rfl⟩
  obtain ⟨x1, hx1⟩ : ∃ x, x = mxF (tcX (E k)) 3 := ⟨_, rfl⟩
  obtain ⟨y1, hy1⟩ : ∃ x, x = mxF (tcY (E k)) 3 := ⟨_, rfl⟩
  rw [← hx0, ← hy0, ← hx1, ← hy1] at HFR
  rw [← hx0, ← hy0, ← hx1, ← hy1]
  clear hbx ht hx0 hy0 hx1 hy1 HA HB
  by_cases h0 : ax = 0
  · subst h0
    go_enter Tryd.func26, Tryd.ntmps26
    go_wp2_with fail
    refine (frameOf_any k E N _ HBX.out (HT.out.below (Nat.le_refl _) ((Below.refl _ _).alloc (Nat.le_refl _) _))).mono ?_
    rintro e w1 ⟨rfl, hb1⟩
    rw [HFR.out]
    have hs1 := hb1.size
    simp only [World.size_alloc] at hs1
    have HB1 := Lib.hid (((Below.refl w.heap.size w).alloc (Nat.le_refl _) _).trans (hb1.mono (by simp)))
    clear hb1
    go_wp2_with fail
    go_quiet (fail)
    go_wp2_with fail
    go_ret2
    refine ⟨rfl, ?_⟩
    have hb := HB1.out
    repeat' (with_reducible first | exact Below.refl _ _ | assumption | refine Below.setCell ?_ ?_ _ | refine Below.alloc ?_ ?_ _ | refine below_drewN ?_ _ | refine Below.drew ?_)
    all_goals first | omega | (simp; done) | (simp; omega)
  · have f0 : (ax == 0) = false := by simpa using h0
    go_enter Tryd.func26, Tryd.ntmps26
    go_wp2_with fail
    refine (frameOf_any k E N _ HBX.out (HT.out.below (Nat.le_refl _) ((Below.refl _ _).alloc (Nat.le_refl _) _))).mono ?_
    rintro e w1 ⟨rfl, hb1⟩
    rw [HFR.out]
    have hs1 := hb1.size
    simp only [World.size_alloc] at hs1
    have HB1 := Lib.hid (((Below.refl w.heap.size w).alloc (Nat.le_refl _) _).trans (hb1.mono (by simp)))
    clear hb1
    go_wp2_with fail
    go_quiet (fail)
    go_wp2_with fail
    go_ret2
    refine ⟨rfl, ?_⟩
    have hb := HB1.out
    repeat' (with_reducible first | exact Below.refl _ _ | assumption | refine Below.setCell ?_ ?_ _ | refine Below.alloc ?_ ?_ _ | refine below_drewN ?_ _ | refine Below.drew ?_)
    all_goals first | omega | (simp; done) | (simp; omega)
end Go.Proofs.YtabnohphgegflaaDoor.ShT
