

/-
  ShapeHits: the walk of the law.
-/
import Derived.Test.YtnigebnibikolaaDoorShLaw
import Derived.Test.YtnigebnibikolaaDoorShHit
import Derived.Test.YtnigebnibikolaaDoorShHitWalk
namespace Go.Proofs.YtnigebnibikolaaDoor.ShT
open Go.RowKit Go.Law Go.Law.Sh Ref
set_option linter.unusedVariables false
set_option linter.unusedSimpArgs false
set_option maxRecDepth 100000
set_option maxHeartbeats 1000000 in
theorem hits_err (n m : Nat) (E : Nat → Nat → Int) (N : Nat → Nat → ByteArray) (x y : Int) (a : Option Addr) (c : Nat) (w : World) (ha : ShF w a m E N) (hmn : m = min n 20) (hc : n ≤ c) (hm : c ≤ maxLen) (ht : Arr w 3) (he : shE m E ≠ 0) :
    Calls Tryd.prog 8 #[.slice a n c, .agg #[.int .i64 x, .int .i64 y]] w fun e w' => e = .returned (.bool true) ∧ Below w.heap.size w w' := by
  have HA := Lib.hid ha
  have HT := Lib.hid ht
  have HM := Lib.hid hmn
  have hm20 : m ≤ 20 := by omega
  have hmc : m ≤ c := by omega
  have HC := Lib.hid (fun w1 (hb : Below w.heap.size w w1) => hit_err m E N x y a c w1 (ha.below (Nat.le_refl _) hb) (by omega) hmc he)
  obtain ⟨V, hV⟩ : ∃ V, V = shE m E := ⟨_, rfl⟩
  have HE := Lib.hid hV.symm
  rw [← hV] at HC he
  have v0 : ((V : Int) == 0) = false := by simpa using he
  have v1 : (V != 0) = true := by simpa using he
  have v2 : (V == V) = true := by simp
  clear ha ht hmn hV
  go_enter Tryd.func8, Tryd.ntmps8
  go_wp2_with fail
  have hb0 := (Below.refl w.heap.size w).alloc (Nat.le_refl _) (Obj.cells #[.int .i64 x, .int .i64 y] 64)
  have bp0 := Blk.new w #[.int .i64 x, .int .i64 y] 64
  refine (shaped_any _ (HT.out.below (Nat.le_refl _) hb0)).mono ?_
  rintro e w1 ⟨rfl, hb1⟩
  have hbel1 := hb0.trans (hb1.mono (by simp))
  have bp1 := bp0.below hb1 bp0.lt
  clear hb0 hb1 bp0
  have p0 : w1.cell? ⟨w.heap.size, 0, none⟩ = some (.int .i64 x) := bp1.cell (i := 0) rfl
  have p1 : w1.cell? ⟨w.heap.size, 1, none⟩ = some (.int .i64 y) := bp1.cell (i := 1) rfl
  have zp := bp1.lt
  have BP1 := Lib.hid bp1
  clear bp1
  go_wp2_with fail
  refine (cut_any _ _ _ _ hc hm).mono ?_
  rintro e w2 ⟨rfl, rfl⟩
  rw [← HM.out]
  go_wp2_with fail
  refine (HC.out w1 hbel1).mono ?_
  rintro e w2 ⟨rfl, hb2⟩
  have hbel2 := hbel1.trans (hb2.mono hbel1.size)
  have bp2 := BP1.out.below hb2 BP1.out.lt
  have BP2 := Lib.hid bp2
  clear hb2 bp2 BP1 p0 p1 zp
  go_wp2_with fail
  refine (shapesError_any m E N a c w2 (HA.out.below (Nat.le_refl _) hbel2) (by omega) hmc).mono ?_
  rintro e w3 ⟨rfl, hb3⟩
  rw [HE.out]
  have hbel3 := hbel2.trans (hb3.mono hbel2.size)
  have bp3 := BP2.out.below hb3 BP2.out.lt
  have p0 : w3.cell? ⟨w.heap.size, 0, none⟩ = some (.int .i64 x) := bp3.cell (i := 0) rfl
  have p1 : w3.cell? ⟨w.heap.size, 1, none⟩ = some (.int .i64 y) := bp3.cell (i := 1) rfl
  have zp := bp3.lt
  clear hb3 bp3 BP2 hbel2 hbel1
  go_wp2_with fail
  go_ret
  exact ⟨rfl, hbel3⟩
set_option maxHeartbeats 1000000 in
theorem hits_range (n m : Nat) (E : Nat → Nat → Int) (N : Nat → Nat → ByteArray) (x y : Int) (a : Option Addr) (c : Nat) (w : World) (ha : ShF w a m E N) (hmn : m = min n 20) (hc : n ≤ c) (hm : c ≤ maxLen) (ht : Arr w 3) (he : shE m E = 0)
    (h : ¬ ((-1048576 ≤ x ∧ x ≤ 1048576) ∧ (-1048576 ≤ y ∧ y ≤ 1048576))) :
    Calls Tryd.prog 8 #[.slice a n c, .agg #[.int .i64 x, .int .i64 y]] w fun e w' => e = .returned (.bool true) ∧ Below w.heap.size w w' := by
  have HA := Lib.hid ha
  have HT := Lib.hid ht
  have HM := Lib.hid hmn
  have hm20 : m ≤ 20 := by omega
  have hmc : m ≤ c := by omega
  have HC := Lib.hid (fun w1 (hb : Below w.heap.size w w1) => hit_range m E N x y a c w1 (ha.below (Nat.le_refl _) hb) (by omega) hmc he h)
  have HE := Lib.hid he
  clear ha ht hmn he
  cases j1 : inB x (-1048576) 1048576
  · clear h
    go_enter Tryd.func8, Tryd.ntmps8
    go_wp2_with fail
    have hb0 := (Below.refl w.heap.size w).alloc (Nat.le_refl _) (Obj.cells #[.int .i64 x, .int .i64 y] 64)
    have bp0 := Blk.new w #[.int .i64 x, .int .i64 y] 64
    refine (shaped_any _ (HT.out.below (Nat.le_refl _) hb0)).mono ?_
    rintro e w1 ⟨rfl, hb1⟩
    have hbel1 := hb0.trans (hb1.mono (by simp))
    have bp1 := bp0.below hb1 bp0.lt
    clear hb0 hb1 bp0
    have p0 : w1.cell? ⟨w.heap.size, 0, none⟩ = some (.int .i64 x) := bp1.cell (i := 0) rfl
    have p1 : w1.cell? ⟨w.heap.size, 1, none⟩ = some (.int .i64 y) := bp1.cell (i := 1) rfl
    have zp := bp1.lt
    have BP1 := Lib.hid bp1
    clear bp1
    go_wp2_with fail
    refine (cut_any _ _ _ _ hc hm).mono ?_
    rintro e w2 ⟨rfl, rfl⟩
    rw [← HM.out]
    go_wp2_with fail
    refine (HC.out w1 hbel1).mono ?_
    rintro e w2 ⟨rfl, hb2⟩
    have hbel2 := hbel1.trans (hb2.mono hbel1.size)
    have bp2 := BP1.out.below hb2 BP1.out.lt
    have BP2 := Lib.hid bp2
    clear hb2 bp2 BP1 p0 p1 zp
    go_wp2_with fail
    refine (shapesError_any m E N a c w2 (HA.out.below (Nat.le_refl _) hbel2) (by omega) hmc).mono ?_
    rintro e w3 ⟨rfl, hb3⟩
    rw [HE.out]
    have hbel3 := hbel2.trans (hb3.mono hbel2.size)
    have bp3 := BP2.out.below hb3 BP2.out.lt
    have p0 : w3.cell? ⟨w.heap.size, 0, none⟩ = some (.int .i64 x) := bp3.cell (i := 0) rfl
    have p1 : w3.cell? ⟨w.heap.size, 1, none⟩ = some (.int .i64 y) := bp3.cell (i := 1) rfl
    have zp := bp3.lt
    clear hb3 bp3 BP2 hbel2 hbel1
    go_wp2_with (go_at_call 27; refine (in_any _ _ _ _).mono ?_; rintro e w9 ⟨rfl, rfl⟩)
    go_ret
    exact ⟨rfl, hbel3⟩
  · have j2 : inB y (-1048576) 1048576 = false := inB_false.2 (fun h2 => h ⟨inB_true.1 j1, h2⟩)
    clear h
    go_enter Tryd.func8, Tryd.ntmps8
    go_wp2_with fail
    have hb0 := (Below.refl w.heap.size w).alloc (Nat.le_refl _) (Obj.cells #[.int .i64 x, .int .i64 y] 64)
    have bp0 := Blk.new w #[.int .i64 x, .int .i64 y] 64
    refine (shaped_any _ (HT.out.below (Nat.le_refl _) hb0)).mono ?_
    rintro e w1 ⟨rfl, hb1⟩
    have hbel1 := hb0.trans (hb1.mono (by simp))
    have bp1 := bp0.below hb1 bp0.lt
    clear hb0 hb1 bp0
    have p0 : w1.cell? ⟨w.heap.size, 0, none⟩ = some (.int .i64 x) := bp1.cell (i := 0) rfl
    have p1 : w1.cell? ⟨w.heap.size, 1, none⟩ = some (.int .i64 y) := bp1.cell (i := 1) rfl
    have zp := bp1.lt
    have BP1 := Lib.hid bp1
    clear bp1
    go_wp2_with fail
    refine (cut_any _ _ _ _ hc hm).mono ?_
    rintro e w2 ⟨rfl, rfl⟩
    rw [← HM.out]
    go_wp2_with fail
    refine (HC.out w1 hbel1).mono ?_
    rintro e w2 ⟨rfl, hb2⟩
    have hbel2 := hbel1.trans (hb2.mono hbel1.size)
    have bp2 := BP1.out.below hb2 BP1.out.lt
    have BP2 := Lib.hid bp2
    clear hb2 bp2 BP1 p0 p1 zp
    go_wp2_with fail
    refine (shapesError_any m E N a c w2 (HA.out.below (Nat.le_refl _) hbel2) (by omega) hmc).mono ?_
    rintro e w3 ⟨rfl, hb3⟩
    rw [HE.out]
    have hbel3 := hbel2.trans (hb3.mono hbel2.size)
    have bp3 := BP2.out.below hb3 BP2.out.lt
    have p0 : w3.cell? ⟨w.heap.size, 0, none⟩ = some (.int .i64 x) := bp3.cell (i := 0) rfl
    have p1 : w3.cell? ⟨w.heap.size, 1, none⟩ = some (.int .i64 y) := bp3.cell (i := 1) rfl
    have zp := bp3.lt
    clear hb3 bp3 BP2 hbel2 hbel1
    go_wp2_with (go_at_call 27; refine (in_any _ _ _ _).mono ?_; rintro e w9 ⟨rfl, rfl⟩)
    go_ret
    exact ⟨rfl, hbel3⟩
set_option maxHeartbeats 1000000 in
theorem hits_ok (n m : Nat) (E : Nat → Nat → Int) (N : Nat → Nat → ByteArray) (x y : Int) (a : Option Addr) (c : Nat) (w : World) (ha : ShF w a m E N) (hmn : m = min n 20) (hc : n ≤ c) (hm : c ≤ maxLen) (ht : Arr w 3) (hts : Arr w 2) (he : shE m E = 0)
    (h : (-1048576 ≤ x ∧ x ≤ 1048576) ∧ (-1048576 ≤ y ∧ y ≤ 1048576)) :
    Calls Tryd.prog 8 #[.slice a n c, .agg #[.int .i64 x, .int .i64 y]] w fun e w' => e = .returned (.bool true) ∧ Below w.heap.size w w' := by
  have HA := Lib.hid ha
  have HT := Lib.hid ht
  have HM := Lib.hid hmn
  have hm20 : m ≤ 20 := by omega
  have hmc : m ≤ c := by omega
  have HC := Lib.hid (fun w1 (hb : Below w.heap.size w w1) => hit_ok m E N x y a c w1 (ha.below (Nat.le_refl _) hb) (by omega) hmc he h (ht.below (Nat.le_refl _) hb))
  have HR := Lib.hid (fun w1 (hb : Below w.heap.size w w1) => hitShape_any m E N x y a c w1 (ha.below (Nat.le_refl _) hb) hm20 (fun j hj => right_of ((shE_zero he).2 j hj)) (hts.below (Nat.le_refl _) hb))
  have HE := Lib.hid he
  obtain ⟨R, hR⟩ : ∃ R, R = hitV m E (x, y) m := ⟨_, rfl⟩
  rw [← hR] at HC HR
  have j1 : inB x (-1048576) 1048576 = true := inB_true.2 h.1
  have j2 : inB y (-1048576) 1048576 = true := inB_true.2 h.2
  have rr : (R == R) = true := by simp
  clear ha ht hts hmn he h hR
  go_enter Tryd.func8, Tryd.ntmps8
  go_wp2_with fail
  have hb0 := (Below.refl w.heap.size w).alloc (Nat.le_refl _) (Obj.cells #[.int .i64 x, .int .i64 y] 64)
  have bp0 := Blk.new w #[.int .i64 x, .int .i64 y] 64
  refine (shaped_any _ (HT.out.below (Nat.le_refl _) hb0)).mono ?_
  rintro e w1 ⟨rfl, hb1⟩
  have hbel1 := hb0.trans (hb1.mono (by simp))
  have bp1 := bp0.below hb1 bp0.lt
  clear hb0 hb1 bp0
  have p0 : w1.cell? ⟨w.heap.size, 0, none⟩ = some (.int .i64 x) := bp1.cell (i := 0) rfl
  have p1 : w1.cell? ⟨w.heap.size, 1, none⟩ = some (.int .i64 y) := bp1.cell (i := 1) rfl
  have zp := bp1.lt
  have BP1 := Lib.hid bp1
  clear bp1
  go_wp2_with fail
  refine (cut_any _ _ _ _ hc hm).mono ?_
  rintro e w2 ⟨rfl, rfl⟩
  rw [← HM.out]
  go_wp2_with fail
  refine (HC.out w1 hbel1).mono ?_
  rintro e w2 ⟨rfl, hb2⟩
  have hbel2 := hbel1.trans (hb2.mono hbel1.size)
  have bp2 := BP1.out.below hb2 BP1.out.lt
  have BP2 := Lib.hid bp2
  clear hb2 bp2 BP1 p0 p1 zp
  go_wp2_with fail
  refine (shapesError_any m E N a c w2 (HA.out.below (Nat.le_refl _) hbel2) (by omega) hmc).mono ?_
  rintro e w3 ⟨rfl, hb3⟩
  rw [HE.out]
  have hbel3 := hbel2.trans (hb3.mono hbel2.size)
  have bp3 := BP2.out.below hb3 BP2.out.lt
  have p0 : w3.cell? ⟨w.heap.size, 0, none⟩ = some (.int .i64 x) := bp3.cell (i := 0) rfl
  have p1 : w3.cell? ⟨w.heap.size, 1, none⟩ = some (.int .i64 y) := bp3.cell (i := 1) rfl
  have zp := bp3.lt
  clear hb3 bp3 BP2 hbel2 hbel1
  go_wp2_with (go_at_call 27; refine (in_any _ _ _ _).mono ?_; rintro e w9 ⟨rfl, rfl⟩)
  refine (HR.out w3 hbel3).mono ?_
  rintro e w4 ⟨rfl, hb4⟩
  go_wp2_with fail
  go_ret
  exact ⟨rfl, hbel3.trans (hb4.mono hbel3.size)⟩
end Go.Proofs.YtnigebnibikolaaDoor.ShT
