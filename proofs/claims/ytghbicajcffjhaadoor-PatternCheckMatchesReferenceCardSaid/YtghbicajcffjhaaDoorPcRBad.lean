

/-
  The reference's check of a node: what is wrong ahead of its kids.
-/
import Derived.Test.YtghbicajcffjhaaDoorPcRSet
import Derived.Test.YtghbicajcffjhaaDoorPcRLoop
namespace Go.Proofs.YtghbicajcffjhaaDoor.PC
open Go.RowKit Go.Law Go.Law.Pn Ref
set_option linter.unusedVariables false
set_option linter.unusedSimpArgs false
set_option maxRecDepth 100000
set_option maxHeartbeats 16000000 in
theorem nodeR_big (kind : Int) (nt lz : Bool) (lo hi : Int) (sn : Nat) (sa : Option Addr) (sc : Nat) (kn : Nat) (ka : Option Addr) (kc : Nat) (d n g : Int) (Kn Kg : Nat) (w : World)
    (HK0 : Hid (Blk w Kn #[.int .i64 n] 3)) (HG0 : Hid (Blk w Kg #[.int .i64 g] 3)) (hne : Kn ≠ Kg) (hn0 : 0 ≤ n) (hn1 : n ≤ 200) (hb : 200 < n + 1) :
    Calls Tryd.prog 28 #[.agg #[.int .i64 kind, .bool nt, .bool lz, .int .i64 lo, .int .i64 hi, .slice sa sn sc, .slice ka kn kc], .int .i64 d, .pointer (some ⟨Kn, 0, none⟩), .pointer (some ⟨Kg, 0, none⟩)] w fun e w' => e = .returned (.int .i64 3) ∧ Blk w' Kn #[.int .i64 (n + 1)] 3 ∧ Blk w' Kg #[.int .i64 g] 3 ∧ Two Kn Kg w w' := by
  obtain ⟨w1, hw1⟩ : ∃ w1, w1 = (w.setCell ⟨Kn, 0, none⟩ (.int .i64 (n + 1))).alloc (.cells #[.int .i64 kind, .bool nt, .bool lz, .int .i64 lo, .int .i64 hi, .slice sa sn sc, .slice ka kn kc] 25) := ⟨_, rfl⟩
  obtain ⟨P, hP⟩ : ∃ P, P = w.heap.size := ⟨_, rfl⟩
  have hKl := HK0.out.lt
  have hGl := HG0.out.lt
  have hPn : P ≠ Kn := by omega
  have hPg : P ≠ Kg := by omega
  have HK1 := Lib.hid (show Blk w1 Kn #[.int .i64 (n + 1)] 3 by rw [hw1]; exact (HK0.out.set 0 _).alloc _)
  have HG1 := Lib.hid (show Blk w1 Kg #[.int .i64 g] 3 by rw [hw1]; exact (HG0.out.other (by simpa using Ne.symm hne) _).alloc _)
  have HP1 := Lib.hid (show Blk w1 P #[.int .i64 kind, .bool nt, .bool lz, .int .i64 lo, .int .i64 hi, .slice sa sn sc, .slice ka kn kc] 25 by rw [hw1, hP, show w.heap.size = (w.setCell ⟨Kn, 0, none⟩ (.int .i64 (n + 1))).heap.size by simp]; exact Blk.new _ _ _)
  have HO1 := Lib.hid (show Two Kn Kg w w1 by rw [hw1]; exact (Two.set1 (Aside.refl _ _ _) 0 _).alloc _)
  have HW1 := Lib.hid hw1
  have HPE := Lib.hid hP
  clear hw1 hP
  have e1 : IntKind.i64.wrap (n + 1) = n + 1 := IntWalk.i64_in _ ⟨by omega, by omega⟩
  have x0 := HK0.out.cell (i := 0) rfl
  have xf := HK0.out.frozen
  go_enter Tryd.func28, Tryd.ntmps28
  go_upto_region 2 with fail
  rw [← HW1.out, ← HPE.out]
  clear x0 xf HK0 HG0 hKl hGl
  have x0 := HK1.out.cell (i := 0) rfl
  go_wp2_with fail
  go_ret
  exact ⟨rfl, HK1.out, HG1.out, HO1.out⟩
set_option maxHeartbeats 16000000 in
theorem nodeR_deep (kind : Int) (nt lz : Bool) (lo hi : Int) (sn : Nat) (sa : Option Addr) (sc : Nat) (kn : Nat) (ka : Option Addr) (kc : Nat) (d n g : Int) (Kn Kg : Nat) (w : World)
    (HK0 : Hid (Blk w Kn #[.int .i64 n] 3)) (HG0 : Hid (Blk w Kg #[.int .i64 g] 3)) (hne : Kn ≠ Kg) (hn0 : 0 ≤ n) (hb : ¬ 200 < n + 1) (hd : 20 ≤ d) :
    Calls Tryd.prog 28 #[.agg #[.int .i64 kind, .bool nt, .bool lz, .int .i64 lo, .int .i64 hi, .slice sa sn sc, .slice ka kn kc], .int .i64 d, .pointer (some ⟨Kn, 0, none⟩), .pointer (some ⟨Kg, 0, none⟩)] w fun e w' => e = .returned (.int .i64 22) ∧ Blk w' Kn #[.int .i64 (n + 1)] 3 ∧ Blk w' Kg #[.int .i64 g] 3 ∧ Two Kn Kg w w' := by
  obtain ⟨w1, hw1⟩ : ∃ w1, w1 = (w.setCell ⟨Kn, 0, none⟩ (.int .i64 (n + 1))).alloc (.cells #[.int .i64 kind, .bool nt, .bool lz, .int .i64 lo, .int .i64 hi, .slice sa sn sc, .slice ka kn kc] 25) := ⟨_, rfl⟩
  obtain ⟨P, hP⟩ : ∃ P, P = w.heap.size := ⟨_, rfl⟩
  have hKl := HK0.out.lt
  have hGl := HG0.out.lt
  have hPn : P ≠ Kn := by omega
  have hPg : P ≠ Kg := by omega
  have HK1 := Lib.hid (show Blk w1 Kn #[.int .i64 (n + 1)] 3 by rw [hw1]; exact (HK0.out.set 0 _).alloc _)
  have HG1 := Lib.hid (show Blk w1 Kg #[.int .i64 g] 3 by rw [hw1]; exact (HG0.out.other (by simpa using Ne.symm hne) _).alloc _)
  have HP1 := Lib.hid (show Blk w1 P #[.int .i64 kind, .bool nt, .bool lz, .int .i64 lo, .int .i64 hi, .slice sa sn sc, .slice ka kn kc] 25 by rw [hw1, hP, show w.heap.size = (w.setCell ⟨Kn, 0, none⟩ (.int .i64 (n + 1))).heap.size by simp]; exact Blk.new _ _ _)
  have HO1 := Lib.hid (show Two Kn Kg w w1 by rw [hw1]; exact (Two.set1 (Aside.refl _ _ _) 0 _).alloc _)
  have HW1 := Lib.hid hw1
  have HPE := Lib.hid hP
  clear hw1 hP
  have e1 : IntKind.i64.wrap (n + 1) = n + 1 := IntWalk.i64_in _ ⟨by omega, by omega⟩
  have x0 := HK0.out.cell (i := 0) rfl
  have xf := HK0.out.frozen
  go_enter Tryd.func28, Tryd.ntmps28
  go_upto_region 2 with fail
  rw [← HW1.out, ← HPE.out]
  clear x0 xf HK0 HG0 hKl hGl
  have x0 := HK1.out.cell (i := 0) rfl
  go_wp2_with fail
  go_ret
  exact ⟨rfl, HK1.out, HG1.out, HO1.out⟩
set_option maxHeartbeats 16000000 in
theorem nodeR_kind (kind : Int) (nt lz : Bool) (lo hi : Int) (sn : Nat) (sa : Option Addr) (sc : Nat) (kn : Nat) (ka : Option Addr) (kc : Nat) (d n g : Int) (Kn Kg : Nat) (w : World)
    (HK0 : Hid (Blk w Kn #[.int .i64 n] 3)) (HG0 : Hid (Blk w Kg #[.int .i64 g] 3)) (hne : Kn ≠ Kg) (hn0 : 0 ≤ n) (hb : ¬ 200 < n + 1) (hd : ¬ 20 ≤ d) (hk : kind < 0 ∨ 7 < kind) :
    Calls Tryd.prog 28 #[.agg #[.int .i64 kind, .bool nt, .bool lz, .int .i64 lo, .int .i64 hi, .slice sa sn sc, .slice ka kn kc], .int .i64 d, .pointer (some ⟨Kn, 0, none⟩), .pointer (some ⟨Kg, 0, none⟩)] w fun e w' => e = .returned (.int .i64 8) ∧ Blk w' Kn #[.int .i64 (n + 1)] 3 ∧ Blk w' Kg #[.int .i64 g] 3 ∧ Two Kn Kg w w' := by
  have hI : inB kind 0 7 = false := by rw [inB_false]; omega
  clear hk
  obtain ⟨w1, hw1⟩ : ∃ w1, w1 = (w.setCell ⟨Kn, 0, none⟩ (.int .i64 (n + 1))).alloc (.cells #[.int .i64 kind, .bool nt, .bool lz, .int .i64 lo, .int .i64 hi, .slice sa sn sc, .slice ka kn kc] 25) := ⟨_, rfl⟩
  obtain ⟨P, hP⟩ : ∃ P, P = w.heap.size := ⟨_, rfl⟩
  have hKl := HK0.out.lt
  have hGl := HG0.out.lt
  have hPn : P ≠ Kn := by omega
  have hPg : P ≠ Kg := by omega
  have HK1 := Lib.hid (show Blk w1 Kn #[.int .i64 (n + 1)] 3 by rw [hw1]; exact (HK0.out.set 0 _).alloc _)
  have HG1 := Lib.hid (show Blk w1 Kg #[.int .i64 g] 3 by rw [hw1]; exact (HG0.out.other (by simpa using Ne.symm hne) _).alloc _)
  have HP1 := Lib.hid (show Blk w1 P #[.int .i64 kind, .bool nt, .bool lz, .int .i64 lo, .int .i64 hi, .slice sa sn sc, .slice ka kn kc] 25 by rw [hw1, hP, show w.heap.size = (w.setCell ⟨Kn, 0, none⟩ (.int .i64 (n + 1))).heap.size by simp]; exact Blk.new _ _ _)
  have HO1 := Lib.hid (show Two Kn Kg w w1 by rw [hw1]; exact (Two.set1 (Aside.refl _ _ _) 0 _).alloc _)
  have HW1 := Lib.hid hw1
  have HPE := Lib.hid hP
  clear hw1 hP
  have e1 : IntKind.i64.wrap (n + 1) = n + 1 := IntWalk.i64_in _ ⟨by omega, by omega⟩
  have x0 := HK0.out.cell (i := 0) rfl
  have xf := HK0.out.frozen
  go_enter Tryd.func28, Tryd.ntmps28
  go_upto_region 2 with fail
  rw [← HW1.out, ← HPE.out]
  clear x0 xf HK0 HG0 hKl hGl
  have x0 := HK1.out.cell (i := 0) rfl
  have p0 : w1.cell? ⟨P, 0, none⟩ = some (.int .i64 kind) := HP1.out.cell (i := 0) rfl
  go_wp2_with (go_at_call 49; refine (in_any _ _ _ _).mono ?_; rintro e w2 ⟨rfl, rfl⟩)
  go_ret
  exact ⟨rfl, HK1.out, HG1.out, HO1.out⟩
end Go.Proofs.YtghbicajcffjhaaDoor.PC
