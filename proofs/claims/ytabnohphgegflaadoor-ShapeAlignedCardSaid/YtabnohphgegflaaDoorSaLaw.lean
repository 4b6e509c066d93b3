
/-
  The law's own example: three shapes, spread.
  ShapeAligned: the law's walk.
-/
import Derived.Test.YtabnohphgegflaaDoorSaSpreadP
import Derived.Test.YtabnohphgegflaaDoorSaBoth
import Derived.Test.YtabnohphgegflaaDoorSaSame
namespace Go.Law.Sh
open Go.RowKit Go.Law
set_option linter.unusedVariables false
set_option maxRecDepth 100000
def E3 : Nat → Nat → Int := fun i j => match i with
  | 0 => [1, 0, 0, 0, 0, 2, 0, 0, 0, 0].getD j 0
  | 1 => [2, 0, 0, 3, 0, 2, 0, 0, 0, 0].getD j 0
  | 2 => [3, 0, 0, 20, 0, 2, 0, 0, 0, 0].getD j 0
  | _ => 0
def It3 : Nat → Int := fun i => (i : Int) + 1
def T3 : Nat → Int := fun i => (i : Int)
theorem ex3_tog : togE 3 E3 It3 3 3 = 0 := by decide +kernel
theorem ex3_x0 : extA (E3 0) 0 = 0 := by decide +kernel
theorem ex3_x1 : extA (E3 1) 0 = 3 := by decide +kernel
theorem ex3_x2 : extA (E3 2) 0 = 20 := by decide +kernel
theorem ex3_err : shE 3 (sprE E3 T3 0 3) = 0 := by decide +kernel
theorem ex3_ten : sprE E3 T3 0 3 1 3 = 10 := by decide +kernel
theorem ex3_pos : ∀ i, i < 3 → Go.Proofs.YtabnohphgegflaaDoor.ShT.posF 3 E3 It3 i = T3 i := by decide +kernel
theorem ex3_ord : ∀ a b, a < b → b < 3 → lexL (fun p => extA (E3 p.toNat) 0) (T3 a) (T3 b) := by
  intro a b h1 h2
  have e0 := ex3_x0
  have e1 := ex3_x1
  have e2 := ex3_x2
  unfold lexL T3
  simp only [Int.toNat_natCast]
  obtain ⟨rfl, rfl⟩ | ⟨rfl, rfl⟩ | ⟨rfl, rfl⟩ : (a = 0 ∧ b = 1) ∨ (a = 0 ∧ b = 2) ∨ (a = 1 ∧ b = 2) := by omega
  all_goals omega
end Go.Law.Sh
namespace Go.Proofs.YtabnohphgegflaaDoor.ShT
open Go.RowKit Go.Law Go.Law.Sh
set_option linter.unusedVariables false
set_option linter.unusedSimpArgs false
set_option maxRecDepth 100000
def noN : Nat → Nat → ByteArray := fun _ _ => ⟨#[]⟩
theorem ex3_cells {W : World} {g : Nat} (h : Blk W g #[.int .i64 1, .int .i64 0, .int .i64 0, .int .i64 0, .int .i64 0, .int .i64 2, .int .i64 0, .int .i64 0, .int .i64 0, .int .i64 0, .string ⟨#[]⟩, .string ⟨#[]⟩, .int .i64 2, .int .i64 0, .int .i64 0, .int .i64 3, .int .i64 0, .int .i64 2, .int .i64 0, .int .i64 0, .int .i64 0, .int .i64 0, .string ⟨#[]⟩, .string ⟨#[]⟩, .int .i64 3, .int .i64 0, .int .i64 0, .int .i64 20, .int .i64 0, .int .i64 2, .int .i64 0, .int .i64 0, .int .i64 0, .int .i64 0, .string ⟨#[]⟩, .string ⟨#[]⟩] 30) : ShF W (some ⟨g, 0, none⟩) 3 E3 noN := by
  intro _
  refine ⟨g, 0, rfl, fun i hi => ?_⟩
  obtain rfl | rfl | rfl : i = 0 ∨ i = 1 ∨ i = 2 := by omega
  · refine ⟨fun j hj => ?_, h.cell (i := 10) rfl, h.cell (i := 11) rfl⟩
    obtain rfl | rfl | rfl | rfl | rfl | rfl | rfl | rfl | rfl | rfl : j = 0 ∨ j = 1 ∨ j = 2 ∨ j = 3 ∨ j = 4 ∨ j = 5 ∨ j = 6 ∨ j = 7 ∨ j = 8 ∨ j = 9 := by omega
    all_goals exact h.cell rfl
  · refine ⟨fun j hj => ?_, h.cell (i := 22) rfl, h.cell (i := 23) rfl⟩
    obtain rfl | rfl | rfl | rfl | rfl | rfl | rfl | rfl | rfl | rfl : j = 0 ∨ j = 1 ∨ j = 2 ∨ j = 3 ∨ j = 4 ∨ j = 5 ∨ j = 6 ∨ j = 7 ∨ j = 8 ∨ j = 9 := by omega
    all_goals exact h.cell rfl
  · refine ⟨fun j hj => ?_, h.cell (i := 34) rfl, h.cell (i := 35) rfl⟩
    obtain rfl | rfl | rfl | rfl | rfl | rfl | rfl | rfl | rfl | rfl : j = 0 ∨ j = 1 ∨ j = 2 ∨ j = 3 ∨ j = 4 ∨ j = 5 ∨ j = 6 ∨ j = 7 ∨ j = 8 ∨ j = 9 := by omega
    all_goals exact h.cell rfl
set_option maxHeartbeats 4000000 in
theorem law_any (n c ca cb : Nat) (E : Nat → Nat → Int) (N : Nat → Nat → ByteArray) (It : Nat → Int) (side ax : Int) (a b : Option Addr) (w : World) (ha : ShF w a n E N) (hi : IntsF w b c It) (hnc : n ≤ ca) (hca : ca ≤ maxLen) (hc : c ≤ cb) (hm : cb ≤ maxLen) (hq : Arr w 1) (hs : Arr w 6) :
    Calls Tryd.prog 4 #[.slice a n ca, .slice b c cb, .int .i64 side, .int .i64 ax] w fun e w' => e = .returned (.bool true) ∧ Below w.heap.size w w' := by
  have HA := Lib.hid ha
  have HI := Lib.hid hi
  have HQ := Lib.hid hq
  have HS := Lib.hid hs
  have HC := Lib.hid (show n ≤ ca ∧ c ≤ cb ∧ ca ≤ maxLen ∧ cb ≤ maxLen from ⟨hnc, hc, hca, hm⟩)
  clear ha hi hq hs hnc hc hca hm
  go_enter Tryd.func4, Tryd.ntmps4
  go_wp2_with fail
  obtain ⟨wa, hwa⟩ : ∃ v, v = w.alloc (Obj.cells #[.int .i64 1, .int .i64 0, .int .i64 0, .int .i64 0, .int .i64 0, .int .i64 2, .int .i64 0, .int .i64 0, .int .i64 0, .int .i64 0, .string ⟨#[]⟩, .string ⟨#[]⟩, .int .i64 2, .int .i64 0, .int .i64 0, .int .i64 3, .int .i64 0, .int .i64 2, .int .i64 0, .int .i64 0, .int .i64 0, .int .i64 0, .string ⟨#[]⟩, .string ⟨#[]⟩, .int .i64 3, .int .i64 0, .int .i64 0, .int .i64 20, .int .i64 0, .int .i64 2, .int .i64 0, .int .i64 0, .int .i64 0, .int .i64 0, .string ⟨#[]⟩, .string ⟨#[]⟩] 30) := ⟨_, rfl⟩
  obtain ⟨w0, hw0⟩ : ∃ v, v = wa.alloc (Obj.cells #[.int .i64 1, .int .i64 2, .int .i64 3] 3) := ⟨_, rfl⟩
  have hsa : wa.heap.size = w.heap.size + 1 := by rw [hwa]; simp
  rw [← hwa, ← hw0]
  have HB0 := Lib.hid (show Below w.heap.size w w0 by rw [hw0, hwa]; exact ((Below.refl _ _).alloc (Nat.le_refl _) _).alloc (by simp) _)
  have HX := Lib.hid (show ShF w0 (some ⟨w.heap.size, 0, none⟩) 3 E3 noN by
    have h := Blk.new w #[.int .i64 1, .int .i64 0, .int .i64 0, .int .i64 0, .int .i64 0, .int .i64 2, .int .i64 0, .int .i64 0, .int .i64 0, .int .i64 0, .string ⟨#[]⟩, .string ⟨#[]⟩, .int .i64 2, .int .i64 0, .int .i64 0, .int .i64 3, .int .i64 0, .int .i64 2, .int .i64 0, .int .i64 0, .int .i64 0, .int .i64 0, .string ⟨#[]⟩, .string ⟨#[]⟩, .int .i64 3, .int .i64 0, .int .i64 0, .int .i64 20, .int .i64 0, .int .i64 2, .int .i64 0, .int .i64 0, .int .i64 0, .int .i64 0, .string ⟨#[]⟩, .string ⟨#[]⟩] 30
    rw [← hwa] at h
    have h2 := h.alloc (Obj.cells #[.int .i64 1, .int .i64 2, .int .i64 3] 3)
    rw [← hw0] at h2
    exact ex3_cells h2)
  have HY := Lib.hid (show IntsF w0 (some ⟨w.heap.size + 1, 0, none⟩) 3 It3 by
    have h := Blk.new wa #[.int .i64 1, .int .i64 2, .int .i64 3] 3
    rw [← hw0, hsa] at h
    intro _
    refine ⟨w.heap.size + 1, 0, rfl, fun i hi => ?_⟩
    obtain rfl | rfl | rfl : i = 0 ∨ i = 1 ∨ i = 2 := by omega
    · exact h.cell (i := 0) rfl
    · exact h.cell (i := 1) rfl
    · exact h.cell (i := 2) rfl)
  have hml : (3 : Nat) ≤ maxLen := by unfold maxLen; omega
  have HSP := Lib.hid (spread_ok 3 3 3 3 E3 noN It3 0 (some ⟨w.heap.size, 0, none⟩) (some ⟨w.heap.size + 1, 0, none⟩) w0 HX.out HY.out (by omega) (by omega) (by omega) hml ex3_tog (by omega) (by omega) (HQ.out.below (Nat.le_refl _) HB0.out))
  clear hwa hw0 hsa HX HY hml
  refine HSP.out.mono ?_
  rintro e w1 ⟨S, hp, ho, hb1, hg⟩
  have hST : sprE E3 S 0 3 = sprE E3 T3 0 3 := sprE_congr (by omega) (sorted_unique (X := fun p => extA (E3 p.toNat) 0) ((hp.trans ((PermF.refl 3 T3).congr ex3_pos))) ho ex3_ord)
  rw [hST] at hg
  rcases hg with ⟨hg, _⟩ | ⟨_, v, rfl, hrow⟩
  · exact absurd ex3_err hg
  obtain ⟨g, cap, rfl, _, _, _, _, hfz, hcell⟩ := RowV.at hrow (by omega)
  have z1 := hcell 1 (by omega) 3 (by omega)
  rw [show shV (sprE E3 T3 0 3) noN 1 3 = .int .i64 10 by unfold shV; rw [if_pos (by omega), ex3_ten]] at z1
  have HB1 := Lib.hid (HB0.out.trans (hb1.mono HB0.out.size))
  clear hp ho hb1 hST hrow hfz hcell HSP
  go_wp2_with fail
  refine (cut_any n ca a w1 HC.out.1 HC.out.2.2.1).mono ?_
  rintro e w2 ⟨rfl, rfl⟩
  obtain ⟨m, hm⟩ : ∃ m, m = min n 20 := ⟨_, rfl⟩
  rw [← hm]
  have HAM := Lib.hid (show ShF w a m E N from HA.out.less (by omega))
  have hm20 : m ≤ 20 := by omega
  have hmc : m ≤ ca := by have := HC.out.1; omega
  clear hm z1
  have HAB := Lib.hid (alignBoth m c ca cb E N It side a b w1 (HAM.out.below (Nat.le_refl _) HB1.out) (HI.out.below (Nat.le_refl _) HB1.out) hm20 hmc HC.out.2.1 HC.out.2.2.2 (HQ.out.below (Nat.le_refl _) HB1.out) (HS.out.below (Nat.le_refl _) HB1.out))
  go_wp2_with fail
  refine HAB.out.mono ?_
  rintro e w3 ⟨rv, re, rfl, hb3, hthen⟩
  have HTA := Lib.hid hthen
  have HB3 := Lib.hid (HB1.out.trans (hb3.mono HB1.out.size))
  clear hb3 hthen HAB
  have HSB := Lib.hid (spreadBoth m c ca cb E N It ax a b w3 (HAM.out.below (Nat.le_refl _) HB3.out) (HI.out.below (Nat.le_refl _) HB3.out) hm20 hmc HC.out.2.1 HC.out.2.2.2 (HQ.out.below (Nat.le_refl _) HB3.out) (HS.out.below (Nat.le_refl _) HB3.out))
  go_wp2_with fail
  refine HSB.out.mono ?_
  rintro e w4 ⟨sv, se, rfl, hb4, hthen⟩
  have HTS := Lib.hid hthen
  have HB34 := Lib.hid hb4
  have HB4 := Lib.hid (HB3.out.trans (hb4.mono HB3.out.size))
  clear hb4 hthen HSB
  go_wp2_with fail
  refine (HTA.out w4 HB34.out).mono ?_
  rintro e w5 ⟨rfl, hb5⟩
  have HB45 := Lib.hid hb5
  have HB5 := Lib.hid (HB4.out.trans (hb5.mono HB4.out.size))
  clear hb5
  go_wp2_with fail
  refine (HTS.out w5 HB45.out).mono ?_
  rintro e w6 ⟨rfl, hb6⟩
  have HB6 := Lib.hid (HB5.out.trans (hb6.mono HB5.out.size))
  clear hb6
  go_wp2_with fail
  go_ret
  exact ⟨rfl, HB6.out⟩
end Go.Proofs.YtabnohphgegflaaDoor.ShT
