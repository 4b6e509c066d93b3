

/-
  The reference's check of a node: what is wrong with its fields (kinds 4, 5, 6, 7).
-/
import Derived.Test.YtghbicajcffjhaaDoorPcRBad
namespace Go.Proofs.YtghbicajcffjhaaDoor.PC
open Go.RowKit Go.Law Go.Law.Pn Ref
set_option linter.unusedVariables false
set_option linter.unusedSimpArgs false
set_option maxRecDepth 100000
set_option maxHeartbeats 16000000 in
theorem nodeR_bad4 (nt lz : Bool) (lo hi : Int) (sn : Nat) (sa : Option Addr) (sc : Nat) (sf : Nat → Int × Int) (kn : Nat) (ka : Option Addr) (kc : Nat) (d n g : Int) (Kn Kg : Nat) (w : World)
    (HK0 : Hid (Blk w Kn #[.int .i64 n] 3)) (HG0 : Hid (Blk w Kg #[.int .i64 g] 3)) (HS : Hid (∀ w', Below w.heap.size w w' ∨ Two Kn Kg w w' → SetOk w' sa sn sf)) (hne : Kn ≠ Kg) (hn0 : 0 ≤ n) (hb : ¬ 200 < n + 1) (hd : ¬ 20 ≤ d) (hV : shpE ⟨4, nt, lz, lo, hi, sn, sa, sc, sf, kn, ka, kc⟩ ≠ 0) :
    Calls Tryd.prog 28 #[.agg #[.int .i64 4, .bool nt, .bool lz, .int .i64 lo, .int .i64 hi, .slice sa sn sc, .slice ka kn kc], .int .i64 d, .pointer (some ⟨Kn, 0, none⟩), .pointer (some ⟨Kg, 0, none⟩)] w fun e w' => e = .returned (.int .i64 (shpE ⟨4, nt, lz, lo, hi, sn, sa, sc, sf, kn, ka, kc⟩)) ∧ Blk w' Kn #[.int .i64 (n + 1)] 3 ∧ Blk w' Kg #[.int .i64 g] 3 ∧ Two Kn Kg w w' := by
  obtain ⟨kind, hkind⟩ : ∃ kind : Int, kind = 4 := ⟨_, rfl⟩
  obtain ⟨V, hVV⟩ : ∃ V, V = shpE ⟨4, nt, lz, lo, hi, sn, sa, sc, sf, kn, ka, kc⟩ := ⟨_, rfl⟩
  rw [← hVV] at hV ⊢
  have HV := Lib.hid hV
  have HVV := Lib.hid hVV
  clear hV hVV
  rw [← hkind]
  have HKI := Lib.hid hkind
  clear hkind
  obtain ⟨w1, hw1⟩ : ∃ w1, w1 = (w.setCell ⟨Kn, 0, none⟩ (.int .i64 (n + 1))).alloc (.cells #[.int .i64 kind, .bool nt, .bool lz, .int .i64 lo, .int .i64 hi, .slice sa sn sc, .slice ka kn kc] 25) := ⟨_, rfl⟩
  obtain ⟨P, hP⟩ : ∃ P, P = w.heap.size := ⟨_, rfl⟩
  have hKl := HK0.out.lt
  have hGl := HG0.out.lt
  have hPn : P ≠ Kn := by omega
  have hPg : P ≠ Kg := by omega
  have HK1 := Lib.hid (show Blk w1 Kn #[.int .i64 (n + 1)] 3 by rw [hw1]; exact (HK0.out.set 0 _).alloc _)
  have HG1 := Lib.hid (show Blk w1 Kg #[.int .i64 g] 3 by rw [hw1]; exact (HG0.out.other (by simpa using Ne.symm hne) _).alloc _)
  have HP1 := Lib.hid (show Blk w1 P #[.int .i64 kind, .bool nt, .bool lz, .int .i64 lo, .int .i64 hi, .slice sa sn sc, .slice ka kn kc] 25 by rw [hw1, hP, show w.heap.size = (w.setCell ⟨Kn, 0, none⟩ (.int .i64 (n + 1))).heap.size by simp]; exact Blk.new _ _ _)
  have HO1 := Lib.hid (show Two Kn Kg w w1 by rw [hw1]; exact (Two.set1 (Aside.refl _ _ _) 0 _).alloc _)
  have HW1 := Lib.hid hw1
  have HPE := Lib.hid hP
  clear hw1 hP
  have e1 : IntKind.i64.wrap (n + 1) = n + 1 := IntWalk.i64_in _ ⟨by omega, by omega⟩
  have x0 := HK0.out.cell (i := 0) rfl
  have xf := HK0.out.frozen
  go_enter Tryd.func28, Tryd.ntmps28
  go_upto_region 2 with fail
  rw [← HW1.out, ← HPE.out]
  clear x0 xf HK0 HG0 hKl hGl
  have x0 := HK1.out.cell (i := 0) rfl
  have hkind := HKI.out
  clear HKI
  subst hkind
  have hI : inB 4 0 7 = true := rfl
  have p0 : w1.cell? ⟨P, 0, none⟩ = some (.int .i64 4) := HP1.out.cell (i := 0) rfl
  go_upto_region 8 with (go_at_call 49; refine (in_any _ _ _ _).mono ?_; rintro e w2 ⟨rfl, rfl⟩)
  go_quiet (fail)
  obtain ⟨w2, hw2⟩ : ∃ w2, w2 = w1.drewN nq := ⟨_, rfl⟩
  rw [← hw2]
  have HK2 := Lib.hid (show Blk w2 Kn #[.int .i64 (n + 1)] 3 by rw [hw2]; exact HK1.out.drewN _)
  have HG2 := Lib.hid (show Blk w2 Kg #[.int .i64 g] 3 by rw [hw2]; exact HG1.out.drewN _)
  have HP2 := Lib.hid (show Blk w2 P #[.int .i64 4, .bool nt, .bool lz, .int .i64 lo, .int .i64 hi, .slice sa sn sc, .slice ka kn kc] 25 by rw [hw2]; exact HP1.out.drewN _)
  have HO2 := Lib.hid (show Two Kn Kg w w2 by rw [hw2]; exact Aside.drewN HO1.out _)
  clear hw2 x0 p0 HK1 HG1 HP1 HO1 HW1
  have p0 : w2.cell? ⟨P, 0, none⟩ = some (.int .i64 4) := HP2.out.cell (i := 0) rfl
  have p1 : w2.cell? ⟨P, 1, none⟩ = some (.bool nt) := HP2.out.cell (i := 1) rfl
  have p2 : w2.cell? ⟨P, 2, none⟩ = some (.bool lz) := HP2.out.cell (i := 2) rfl
  have p3 : w2.cell? ⟨P, 3, none⟩ = some (.int .i64 lo) := HP2.out.cell (i := 3) rfl
  have p4 : w2.cell? ⟨P, 4, none⟩ = some (.int .i64 hi) := HP2.out.cell (i := 4) rfl
  have p5 : w2.cell? ⟨P, 5, none⟩ = some (.slice sa sn sc) := HP2.out.cell (i := 5) rfl
  have p6 : w2.cell? ⟨P, 6, none⟩ = some (.slice ka kn kc) := HP2.out.cell (i := 6) rfl
  have hPl := HP2.out.lt
  by_cases s0 : 0 < sn
  · have s1 : (0 : Int) < (sn : Int) := by omega
    have HE := Lib.hid (show V = 4 by rw [HVV.out]; simp [shpE, frmBad, repBad, *]; try omega)
    go_wp2_with fail
    go_ret
    refine ⟨by rw [HE.out]; rfl, ?_, ?_, ?_⟩
    · first | exact HK2.out | exact HK2.out.alloc _ | exact (HK2.out.alloc _).alloc _
    · first | exact HG2.out | exact HG2.out.alloc _ | exact (HG2.out.alloc _).alloc _
    · first | exact HO2.out | exact HO2.out.alloc _ | exact (HO2.out.alloc _).alloc _
  have s1 : ¬ (0 : Int) < (sn : Int) := by omega
  cases nt
  case true =>
    have HE := Lib.hid (show V = 4 by rw [HVV.out]; simp [shpE, frmBad, repBad, *]; try omega)
    go_wp2_with fail
    go_ret
    refine ⟨by rw [HE.out]; rfl, ?_, ?_, ?_⟩
    · first | exact HK2.out | exact HK2.out.alloc _ | exact (HK2.out.alloc _).alloc _
    · first | exact HG2.out | exact HG2.out.alloc _ | exact (HG2.out.alloc _).alloc _
    · first | exact HO2.out | exact HO2.out.alloc _ | exact (HO2.out.alloc _).alloc _
  cases lz
  case true =>
    have HE := Lib.hid (show V = 4 by rw [HVV.out]; simp [shpE, frmBad, repBad, *]; try omega)
    go_wp2_with fail
    go_ret
    refine ⟨by rw [HE.out]; rfl, ?_, ?_, ?_⟩
    · first | exact HK2.out | exact HK2.out.alloc _ | exact (HK2.out.alloc _).alloc _
    · first | exact HG2.out | exact HG2.out.alloc _ | exact (HG2.out.alloc _).alloc _
    · first | exact HO2.out | exact HO2.out.alloc _ | exact (HO2.out.alloc _).alloc _
  by_cases l0 : lo = 0
  case neg =>
    have l1 : (lo != 0) = true := by simpa using l0
    have HE := Lib.hid (show V = 4 by rw [HVV.out]; simp [shpE, frmBad, repBad, *]; try omega)
    go_wp2_with fail
    go_ret
    refine ⟨by rw [HE.out]; rfl, ?_, ?_, ?_⟩
    · first | exact HK2.out | exact HK2.out.alloc _ | exact (HK2.out.alloc _).alloc _
    · first | exact HG2.out | exact HG2.out.alloc _ | exact (HG2.out.alloc _).alloc _
    · first | exact HO2.out | exact HO2.out.alloc _ | exact (HO2.out.alloc _).alloc _
  subst l0
  by_cases h0 : hi = 0
  case neg =>
    have l1 : (hi != 0) = true := by simpa using h0
    have HE := Lib.hid (show V = 4 by rw [HVV.out]; simp [shpE, frmBad, repBad, *]; try omega)
    go_wp2_with fail
    go_ret
    refine ⟨by rw [HE.out]; rfl, ?_, ?_, ?_⟩
    · first | exact HK2.out | exact HK2.out.alloc _ | exact (HK2.out.alloc _).alloc _
    · first | exact HG2.out | exact HG2.out.alloc _ | exact (HG2.out.alloc _).alloc _
    · first | exact HO2.out | exact HO2.out.alloc _ | exact (HO2.out.alloc _).alloc _
  subst h0
  by_cases k0 : kn = 1
  case neg => exact absurd (by rw [HVV.out]; simp [shpE, frmBad, *]) HV.out
  have HE := Lib.hid (show V = 4 by rw [HVV.out]; simp [shpE, frmBad, repBad, *]; try omega)
  subst k0
  have k1 : inB 1 0 1 = true := rfl
  go_wp2_with (go_at_call 49; refine (in_any _ _ _ _).mono ?_; rintro e w4 ⟨rfl, rfl⟩)
  go_ret
  refine ⟨by rw [HE.out]; rfl, ?_, ?_, ?_⟩
  · first | exact HK2.out | exact HK2.out.alloc _ | exact (HK2.out.alloc _).alloc _
  · first | exact HG2.out | exact HG2.out.alloc _ | exact (HG2.out.alloc _).alloc _
  · first | exact HO2.out | exact HO2.out.alloc _ | exact (HO2.out.alloc _).alloc _
set_option maxHeartbeats 16000000 in
theorem nodeR_bad5 (nt lz : Bool) (lo hi : Int) (sn : Nat) (sa : Option Addr) (sc : Nat) (sf : Nat → Int × Int) (kn : Nat) (ka : Option Addr) (kc : Nat) (d n g : Int) (Kn Kg : Nat) (w : World)
    (HK0 : Hid (Blk w Kn #[.int .i64 n] 3)) (HG0 : Hid (Blk w Kg #[.int .i64 g] 3)) (HS : Hid (∀ w', Below w.heap.size w w' ∨ Two Kn Kg w w' → SetOk w' sa sn sf)) (hne : Kn ≠ Kg) (hn0 : 0 ≤ n) (hb : ¬ 200 < n + 1) (hd : ¬ 20 ≤ d) (hV : shpE ⟨5, nt, lz, lo, hi, sn, sa, sc, sf, kn, ka, kc⟩ ≠ 0) :
    Calls Tryd.prog 28 #[.agg #[.int .i64 5, .bool nt, .bool lz, .int .i64 lo, .int .i64 hi, .slice sa sn sc, .slice ka kn kc], .int .i64 d, .pointer (some ⟨Kn, 0, none⟩), .pointer (some ⟨Kg, 0, none⟩)] w fun e w' => e = .returned (.int .i64 (shpE ⟨5, nt, lz, lo, hi, sn, sa, sc, sf, kn, ka, kc⟩)) ∧ Blk w' Kn #[.int .i64 (n + 1)] 3 ∧ Blk w' Kg #[.int .i64 g] 3 ∧ Two Kn Kg w w' := by
  obtain ⟨kind, hkind⟩ : ∃ kind : Int, kind = 5 := ⟨_, rfl⟩
  obtain ⟨V, hVV⟩ : ∃ V, V = shpE ⟨5, nt, lz, lo, hi, sn, sa, sc, sf, kn, ka, kc⟩ := ⟨_, rfl⟩
  rw [← hVV] at hV ⊢
  have HV := Lib.hid hV
  have HVV := Lib.hid hVV
  clear hV hVV
  rw [← hkind]
  have HKI := Lib.hid hkind
  clear hkind
  obtain ⟨w1, hw1⟩ : ∃ w1, w1 = (w.setCell ⟨Kn, 0, none⟩ (.int .i64 (n + 1))).alloc (.cells #[.int .i64 kind, .bool nt, .bool lz, .int .i64 lo, .int .i64 hi, .slice sa sn sc, .slice ka kn kc] 25) := ⟨_, rfl⟩
  obtain ⟨P, hP⟩ : ∃ P, P = w.heap.size := ⟨_, rfl⟩
  have hKl := HK0.out.lt
  have hGl := HG0.out.lt
  have hPn : P ≠ Kn := by omega
  have hPg : P ≠ Kg := by omega
  have HK1 := Lib.hid (show Blk w1 Kn #[.int .i64 (n + 1)] 3 by rw [hw1]; exact (HK0.out.set 0 _).alloc _)
  have HG1 := Lib.hid (show Blk w1 Kg #[.int .i64 g] 3 by rw [hw1]; exact (HG0.out.other (by simpa using Ne.symm hne) _).alloc _)
  have HP1 := Lib.hid (show Blk w1 P #[.int .i64 kind, .bool nt, .bool lz, .int .i64 lo, .int .i64 hi, .slice sa sn sc, .slice ka kn kc] 25 by rw [hw1, hP, show w.heap.size = (w.setCell ⟨Kn, 0, none⟩ (.int .i64 (n + 1))).heap.size by simp]; exact Blk.new _ _ _)
  have HO1 := Lib.hid (show Two Kn Kg w w1 by rw [hw1]; exact (Two.set1 (Aside.refl _ _ _) 0 _).alloc _)
  have HW1 := Lib.hid hw1
  have HPE := Lib.hid hP
  clear hw1 hP
  have e1 : IntKind.i64.wrap (n + 1) = n + 1 := IntWalk.i64_in _ ⟨by omega, by omega⟩
  have x0 := HK0.out.cell (i := 0) rfl
  have xf := HK0.out.frozen
  go_enter Tryd.func28, Tryd.ntmps28
  go_upto_region 2 with fail
  rw [← HW1.out, ← HPE.out]
  clear x0 xf HK0 HG0 hKl hGl
  have x0 := HK1.out.cell (i := 0) rfl
  have hkind := HKI.out
  clear HKI
  subst hkind
  have hI : inB 5 0 7 = true := rfl
  have p0 : w1.cell? ⟨P, 0, none⟩ = some (.int .i64 5) := HP1.out.cell (i := 0) rfl
  go_upto_region 8 with (go_at_call 49; refine (in_any _ _ _ _).mono ?_; rintro e w2 ⟨rfl, rfl⟩)
  go_quiet (fail)
  obtain ⟨w2, hw2⟩ : ∃ w2, w2 = w1.drewN nq := ⟨_, rfl⟩
  rw [← hw2]
  have HK2 := Lib.hid (show Blk w2 Kn #[.int .i64 (n + 1)] 3 by rw [hw2]; exact HK1.out.drewN _)
  have HG2 := Lib.hid (show Blk w2 Kg #[.int .i64 g] 3 by rw [hw2]; exact HG1.out.drewN _)
  have HP2 := Lib.hid (show Blk w2 P #[.int .i64 5, .bool nt, .bool lz, .int .i64 lo, .int .i64 hi, .slice sa sn sc, .slice ka kn kc] 25 by rw [hw2]; exact HP1.out.drewN _)
  have HO2 := Lib.hid (show Two Kn Kg w w2 by rw [hw2]; exact Aside.drewN HO1.out _)
  clear hw2 x0 p0 HK1 HG1 HP1 HO1 HW1
  have p0 : w2.cell? ⟨P, 0, none⟩ = some (.int .i64 5) := HP2.out.cell (i := 0) rfl
  have p1 : w2.cell? ⟨P, 1, none⟩ = some (.bool nt) := HP2.out.cell (i := 1) rfl
  have p2 : w2.cell? ⟨P, 2, none⟩ = some (.bool lz) := HP2.out.cell (i := 2) rfl
  have p3 : w2.cell? ⟨P, 3, none⟩ = some (.int .i64 lo) := HP2.out.cell (i := 3) rfl
  have p4 : w2.cell? ⟨P, 4, none⟩ = some (.int .i64 hi) := HP2.out.cell (i := 4) rfl
  have p5 : w2.cell? ⟨P, 5, none⟩ = some (.slice sa sn sc) := HP2.out.cell (i := 5) rfl
  have p6 : w2.cell? ⟨P, 6, none⟩ = some (.slice ka kn kc) := HP2.out.cell (i := 6) rfl
  have hPl := HP2.out.lt
  by_cases s0 : 0 < sn
  · have s1 : (0 : Int) < (sn : Int) := by omega
    have HE := Lib.hid (show V = 4 by rw [HVV.out]; simp [shpE, frmBad, repBad, *]; try omega)
    go_wp2_with fail
    go_ret
    refine ⟨by rw [HE.out]; rfl, ?_, ?_, ?_⟩
    · first | exact HK2.out | exact HK2.out.alloc _ | exact (HK2.out.alloc _).alloc _
    · first | exact HG2.out | exact HG2.out.alloc _ | exact (HG2.out.alloc _).alloc _
    · first | exact HO2.out | exact HO2.out.alloc _ | exact (HO2.out.alloc _).alloc _
  have s1 : ¬ (0 : Int) < (sn : Int) := by omega
  cases nt
  case true =>
    have HE := Lib.hid (show V = 4 by rw [HVV.out]; simp [shpE, frmBad, repBad, *]; try omega)
    go_wp2_with fail
    go_ret
    refine ⟨by rw [HE.out]; rfl, ?_, ?_, ?_⟩
    · first | exact HK2.out | exact HK2.out.alloc _ | exact (HK2.out.alloc _).alloc _
    · first | exact HG2.out | exact HG2.out.alloc _ | exact (HG2.out.alloc _).alloc _
    · first | exact HO2.out | exact HO2.out.alloc _ | exact (HO2.out.alloc _).alloc _
  cases lz
  case true =>
    have HE := Lib.hid (show V = 4 by rw [HVV.out]; simp [shpE, frmBad, repBad, *]; try omega)
    go_wp2_with fail
    go_ret
    refine ⟨by rw [HE.out]; rfl, ?_, ?_, ?_⟩
    · first | exact HK2.out | exact HK2.out.alloc _ | exact (HK2.out.alloc _).alloc _
    · first | exact HG2.out | exact HG2.out.alloc _ | exact (HG2.out.alloc _).alloc _
    · first | exact HO2.out | exact HO2.out.alloc _ | exact (HO2.out.alloc _).alloc _
  by_cases l0 : lo = 0
  case neg =>
    have l1 : (lo != 0) = true := by simpa using l0
    have HE := Lib.hid (show V = 4 by rw [HVV.out]; simp [shpE, frmBad, repBad, *]; try omega)
    go_wp2_with fail
    go_ret
    refine ⟨by rw [HE.out]; rfl, ?_, ?_, ?_⟩
    · first | exact HK2.out | exact HK2.out.alloc _ | exact (HK2.out.alloc _).alloc _
    · first | exact HG2.out | exact HG2.out.alloc _ | exact (HG2.out.alloc _).alloc _
    · first | exact HO2.out | exact HO2.out.alloc _ | exact (HO2.out.alloc _).alloc _
  subst l0
  by_cases h0 : hi = 0
  case neg =>
    have l1 : (hi != 0) = true := by simpa using h0
    have HE := Lib.hid (show V = 4 by rw [HVV.out]; simp [shpE, frmBad, repBad, *]; try omega)
    go_wp2_with fail
    go_ret
    refine ⟨by rw [HE.out]; rfl, ?_, ?_, ?_⟩
    · first | exact HK2.out | exact HK2.out.alloc _ | exact (HK2.out.alloc _).alloc _
    · first | exact HG2.out | exact HG2.out.alloc _ | exact (HG2.out.alloc _).alloc _
    · first | exact HO2.out | exact HO2.out.alloc _ | exact (HO2.out.alloc _).alloc _
  subst h0
  by_cases k0 : kn < 2
  case neg => exact absurd (by rw [HVV.out]; simp [shpE, frmBad, *]) HV.out
  have HE := Lib.hid (show V = 4 by rw [HVV.out]; simp [shpE, frmBad, repBad, *]; try omega)
  have k1 : inB (kn : Int) 2 (kn : Int) = false := by rw [inB_false]; omega
  go_wp2_with (go_at_call 49; refine (in_any _ _ _ _).mono ?_; rintro e w4 ⟨rfl, rfl⟩)
  go_ret
  refine ⟨by rw [HE.out]; rfl, ?_, ?_, ?_⟩
  · first | exact HK2.out | exact HK2.out.alloc _ | exact (HK2.out.alloc _).alloc _
  · first | exact HG2.out | exact HG2.out.alloc _ | exact (HG2.out.alloc _).alloc _
  · first | exact HO2.out | exact HO2.out.alloc _ | exact (HO2.out.alloc _).alloc _
set_option maxHeartbeats 16000000 in
theorem nodeR_bad7 (nt lz : Bool) (lo hi : Int) (sn : Nat) (sa : Option Addr) (sc : Nat) (sf : Nat → Int × Int) (kn : Nat) (ka : Option Addr) (kc : Nat) (d n g : Int) (Kn Kg : Nat) (w : World)
    (HK0 : Hid (Blk w Kn #[.int .i64 n] 3)) (HG0 : Hid (Blk w Kg #[.int .i64 g] 3)) (HS : Hid (∀ w', Below w.heap.size w w' ∨ Two Kn Kg w w' → SetOk w' sa sn sf)) (hne : Kn ≠ Kg) (hn0 : 0 ≤ n) (hb : ¬ 200 < n + 1) (hd : ¬ 20 ≤ d) (hV : shpE ⟨7, nt, lz, lo, hi, sn, sa, sc, sf, kn, ka, kc⟩ ≠ 0) :
    Calls Tryd.prog 28 #[.agg #[.int .i64 7, .bool nt, .bool lz, .int .i64 lo, .int .i64 hi, .slice sa sn sc, .slice ka kn kc], .int .i64 d, .pointer (some ⟨Kn, 0, none⟩), .pointer (some ⟨Kg, 0, none⟩)] w fun e w' => e = .returned (.int .i64 (shpE ⟨7, nt, lz, lo, hi, sn, sa, sc, sf, kn, ka, kc⟩)) ∧ Blk w' Kn #[.int .i64 (n + 1)] 3 ∧ Blk w' Kg #[.int .i64 g] 3 ∧ Two Kn Kg w w' := by
  obtain ⟨kind, hkind⟩ : ∃ kind : Int, kind = 7 := ⟨_, rfl⟩
  obtain ⟨V, hVV⟩ : ∃ V, V = shpE ⟨7, nt, lz, lo, hi, sn, sa, sc, sf, kn, ka, kc⟩ := ⟨_, rfl⟩
  rw [← hVV] at hV ⊢
  have HV := Lib.hid hV
  have HVV := Lib.hid hVV
  clear hV hVV
  rw [← hkind]
  have HKI := Lib.hid hkind
  clear hkind
  obtain ⟨w1, hw1⟩ : ∃ w1, w1 = (w.setCell ⟨Kn, 0, none⟩ (.int .i64 (n + 1))).alloc (.cells #[.int .i64 kind, .bool nt, .bool lz, .int .i64 lo, .int .i64 hi, .slice sa sn sc, .slice ka kn kc] 25) := ⟨_, rfl⟩
  obtain ⟨P, hP⟩ : ∃ P, P = w.heap.size := ⟨_, rfl⟩
  have hKl := HK0.out.lt
  have hGl := HG0.out.lt
  have hPn : P ≠ Kn := by omega
  have hPg : P ≠ Kg := by omega
  have HK1 := Lib.hid (show Blk w1 Kn #[.int .i64 (n + 1)] 3 by rw [hw1]; exact (HK0.out.set 0 _).alloc _)
  have HG1 := Lib.hid (show Blk w1 Kg #[.int .i64 g] 3 by rw [hw1]; exact (HG0.out.other (by simpa using Ne.symm hne) _).alloc _)
  have HP1 := Lib.hid (show Blk w1 P #[.int .i64 kind, .bool nt, .bool lz, .int .i64 lo, .int .i64 hi, .slice sa sn sc, .slice ka kn kc] 25 by rw [hw1, hP, show w.heap.size = (w.setCell ⟨Kn, 0, none⟩ (.int .i64 (n + 1))).heap.size by simp]; exact Blk.new _ _ _)
  have HO1 := Lib.hid (show Two Kn Kg w w1 by rw [hw1]; exact (Two.set1 (Aside.refl _ _ _) 0 _).alloc _)
  have HW1 := Lib.hid hw1
  have HPE := Lib.hid hP
  clear hw1 hP
  have e1 : IntKind.i64.wrap (n + 1) = n + 1 := IntWalk.i64_in _ ⟨by omega, by omega⟩
  have x0 := HK0.out.cell (i := 0) rfl
  have xf := HK0.out.frozen
  go_enter Tryd.func28, Tryd.ntmps28
  go_upto_region 2 with fail
  rw [← HW1.out, ← HPE.out]
  clear x0 xf HK0 HG0 hKl hGl
  have x0 := HK1.out.cell (i := 0) rfl
  have hkind := HKI.out
  clear HKI
  subst hkind
  have hI : inB 7 0 7 = true := rfl
  have p0 : w1.cell? ⟨P, 0, none⟩ = some (.int .i64 7) := HP1.out.cell (i := 0) rfl
  go_upto_region 8 with (go_at_call 49; refine (in_any _ _ _ _).mono ?_; rintro e w2 ⟨rfl, rfl⟩)
  go_quiet (fail)
  obtain ⟨w2, hw2⟩ : ∃ w2, w2 = w1.drewN nq := ⟨_, rfl⟩
  rw [← hw2]
  have HK2 := Lib.hid (show Blk w2 Kn #[.int .i64 (n + 1)] 3 by rw [hw2]; exact HK1.out.drewN _)
  have HG2 := Lib.hid (show Blk w2 Kg #[.int .i64 g] 3 by rw [hw2]; exact HG1.out.drewN _)
  have HP2 := Lib.hid (show Blk w2 P #[.int .i64 7, .bool nt, .bool lz, .int .i64 lo, .int .i64 hi, .slice sa sn sc, .slice ka kn kc] 25 by rw [hw2]; exact HP1.out.drewN _)
  have HO2 := Lib.hid (show Two Kn Kg w w2 by rw [hw2]; exact Aside.drewN HO1.out _)
  clear hw2 x0 p0 HK1 HG1 HP1 HO1 HW1
  have p0 : w2.cell? ⟨P, 0, none⟩ = some (.int .i64 7) := HP2.out.cell (i := 0) rfl
  have p1 : w2.cell? ⟨P, 1, none⟩ = some (.bool nt) := HP2.out.cell (i := 1) rfl
  have p2 : w2.cell? ⟨P, 2, none⟩ = some (.bool lz) := HP2.out.cell (i := 2) rfl
  have p3 : w2.cell? ⟨P, 3, none⟩ = some (.int .i64 lo) := HP2.out.cell (i := 3) rfl
  have p4 : w2.cell? ⟨P, 4, none⟩ = some (.int .i64 hi) := HP2.out.cell (i := 4) rfl
  have p5 : w2.cell? ⟨P, 5, none⟩ = some (.slice sa sn sc) := HP2.out.cell (i := 5) rfl
  have p6 : w2.cell? ⟨P, 6, none⟩ = some (.slice ka kn kc) := HP2.out.cell (i := 6) rfl
  have hPl := HP2.out.lt
  by_cases s0 : 0 < sn
  · have s1 : (0 : Int) < (sn : Int) := by omega
    have HE := Lib.hid (show V = 4 by rw [HVV.out]; simp [shpE, frmBad, repBad, *]; try omega)
    go_wp2_with fail
    go_ret
    refine ⟨by rw [HE.out]; rfl, ?_, ?_, ?_⟩
    · first | exact HK2.out | exact HK2.out.alloc _ | exact (HK2.out.alloc _).alloc _
    · first | exact HG2.out | exact HG2.out.alloc _ | exact (HG2.out.alloc _).alloc _
    · first | exact HO2.out | exact HO2.out.alloc _ | exact (HO2.out.alloc _).alloc _
  have s1 : ¬ (0 : Int) < (sn : Int) := by omega
  cases nt
  case true =>
    have HE := Lib.hid (show V = 4 by rw [HVV.out]; simp [shpE, frmBad, repBad, *]; try omega)
    go_wp2_with fail
    go_ret
    refine ⟨by rw [HE.out]; rfl, ?_, ?_, ?_⟩
    · first | exact HK2.out | exact HK2.out.alloc _ | exact (HK2.out.alloc _).alloc _
    · first | exact HG2.out | exact HG2.out.alloc _ | exact (HG2.out.alloc _).alloc _
    · first | exact HO2.out | exact HO2.out.alloc _ | exact (HO2.out.alloc _).alloc _
  cases lz
  case true =>
    have HE := Lib.hid (show V = 4 by rw [HVV.out]; simp [shpE, frmBad, repBad, *]; try omega)
    go_wp2_with fail
    go_ret
    refine ⟨by rw [HE.out]; rfl, ?_, ?_, ?_⟩
    · first | exact HK2.out | exact HK2.out.alloc _ | exact (HK2.out.alloc _).alloc _
    · first | exact HG2.out | exact HG2.out.alloc _ | exact (HG2.out.alloc _).alloc _
    · first | exact HO2.out | exact HO2.out.alloc _ | exact (HO2.out.alloc _).alloc _
  by_cases l0 : lo = 0
  case neg =>
    have l1 : (lo != 0) = true := by simpa using l0
    have HE := Lib.hid (show V = 4 by rw [HVV.out]; simp [shpE, frmBad, repBad, *]; try omega)
    go_wp2_with fail
    go_ret
    refine ⟨by rw [HE.out]; rfl, ?_, ?_, ?_⟩
    · first | exact HK2.out | exact HK2.out.alloc _ | exact (HK2.out.alloc _).alloc _
    · first | exact HG2.out | exact HG2.out.alloc _ | exact (HG2.out.alloc _).alloc _
    · first | exact HO2.out | exact HO2.out.alloc _ | exact (HO2.out.alloc _).alloc _
  subst l0
  by_cases h0 : hi = 0
  case neg =>
    have l1 : (hi != 0) = true := by simpa using h0
    have HE := Lib.hid (show V = 4 by rw [HVV.out]; simp [shpE, frmBad, repBad, *]; try omega)
    go_wp2_with fail
    go_ret
    refine ⟨by rw [HE.out]; rfl, ?_, ?_, ?_⟩
    · first | exact HK2.out | exact HK2.out.alloc _ | exact (HK2.out.alloc _).alloc _
    · first | exact HG2.out | exact HG2.out.alloc _ | exact (HG2.out.alloc _).alloc _
    · first | exact HO2.out | exact HO2.out.alloc _ | exact (HO2.out.alloc _).alloc _
  subst h0
  by_cases k0 : kn = 1
  case pos => exact absurd (by rw [HVV.out]; simp [shpE, frmBad, *]) HV.out
  have HE := Lib.hid (show V = 4 by rw [HVV.out]; simp [shpE, frmBad, repBad, *]; try omega)
  have k1 : inB (kn : Int) 1 1 = false := by rw [inB_false]; omega
  go_wp2_with (go_at_call 49; refine (in_any _ _ _ _).mono ?_; rintro e w4 ⟨rfl, rfl⟩)
  go_ret
  refine ⟨by rw [HE.out]; rfl, ?_, ?_, ?_⟩
  · first | exact HK2.out | exact HK2.out.alloc _ | exact (HK2.out.alloc _).alloc _
  · first | exact HG2.out | exact HG2.out.alloc _ | exact (HG2.out.alloc _).alloc _
  · first | exact HO2.out | exact HO2.out.alloc _ | exact (HO2.out.alloc _).alloc _
set_option maxHeartbeats 16000000 in
theorem nodeR_bad6 (nt lz : Bool) (lo hi : Int) (sn : Nat) (sa : Option Addr) (sc : Nat) (sf : Nat → Int × Int) (kn : Nat) (ka : Option Addr) (kc : Nat) (d n g : Int) (Kn Kg : Nat) (w : World)
    (HK0 : Hid (Blk w Kn #[.int .i64 n] 3)) (HG0 : Hid (Blk w Kg #[.int .i64 g] 3)) (HS : Hid (∀ w', Below w.heap.size w w' ∨ Two Kn Kg w w' → SetOk w' sa sn sf)) (hne : Kn ≠ Kg) (hn0 : 0 ≤ n) (hb : ¬ 200 < n + 1) (hd : ¬ 20 ≤ d) (hV : shpE ⟨6, nt, lz, lo, hi, sn, sa, sc, sf, kn, ka, kc⟩ ≠ 0) :
    Calls Tryd.prog 28 #[.agg #[.int .i64 6, .bool nt, .bool lz, .int .i64 lo, .int .i64 hi, .slice sa sn sc, .slice ka kn kc], .int .i64 d, .pointer (some ⟨Kn, 0, none⟩), .pointer (some ⟨Kg, 0, none⟩)] w fun e w' => e = .returned (.int .i64 (shpE ⟨6, nt, lz, lo, hi, sn, sa, sc, sf, kn, ka, kc⟩)) ∧ Blk w' Kn #[.int .i64 (n + 1)] 3 ∧ Blk w' Kg #[.int .i64 g] 3 ∧ Two Kn Kg w w' := by
  obtain ⟨kind, hkind⟩ : ∃ kind : Int, kind = 6 := ⟨_, rfl⟩
  obtain ⟨V, hVV⟩ : ∃ V, V = shpE ⟨6, nt, lz, lo, hi, sn, sa, sc, sf, kn, ka, kc⟩ := ⟨_, rfl⟩
  rw [← hVV] at hV ⊢
  have HV := Lib.hid hV
  have HVV := Lib.hid hVV
  clear hV hVV
  rw [← hkind]
  have HKI := Lib.hid hkind
  clear hkind
  obtain ⟨w1, hw1⟩ : ∃ w1, w1 = (w.setCell ⟨Kn, 0, none⟩ (.int .i64 (n + 1))).alloc (.cells #[.int .i64 kind, .bool nt, .bool lz, .int .i64 lo, .int .i64 hi, .slice sa sn sc, .slice ka kn kc] 25) := ⟨_, rfl⟩
  obtain ⟨P, hP⟩ : ∃ P, P = w.heap.size := ⟨_, rfl⟩
  have hKl := HK0.out.lt
  have hGl := HG0.out.lt
  have hPn : P ≠ Kn := by omega
  have hPg : P ≠ Kg := by omega
  have HK1 := Lib.hid (show Blk w1 Kn #[.int .i64 (n + 1)] 3 by rw [hw1]; exact (HK0.out.set 0 _).alloc _)
  have HG1 := Lib.hid (show Blk w1 Kg #[.int .i64 g] 3 by rw [hw1]; exact (HG0.out.other (by simpa using Ne.symm hne) _).alloc _)
  have HP1 := Lib.hid (show Blk w1 P #[.int .i64 kind, .bool nt, .bool lz, .int .i64 lo, .int .i64 hi, .slice sa sn sc, .slice ka kn kc] 25 by rw [hw1, hP, show w.heap.size = (w.setCell ⟨Kn, 0, none⟩ (.int .i64 (n + 1))).heap.size by simp]; exact Blk.new _ _ _)
  have HO1 := Lib.hid (show Two Kn Kg w w1 by rw [hw1]; exact (Two.set1 (Aside.refl _ _ _) 0 _).alloc _)
  have HW1 := Lib.hid hw1
  have HPE := Lib.hid hP
  clear hw1 hP
  have e1 : IntKind.i64.wrap (n + 1) = n + 1 := IntWalk.i64_in _ ⟨by omega, by omega⟩
  have x0 := HK0.out.cell (i := 0) rfl
  have xf := HK0.out.frozen
  go_enter Tryd.func28, Tryd.ntmps28
  go_upto_region 2 with fail
  rw [← HW1.out, ← HPE.out]
  clear x0 xf HK0 HG0 hKl hGl
  have x0 := HK1.out.cell (i := 0) rfl
  have hkind := HKI.out
  clear HKI
  subst hkind
  have hI : inB 6 0 7 = true := rfl
  have p0 : w1.cell? ⟨P, 0, none⟩ = some (.int .i64 6) := HP1.out.cell (i := 0) rfl
  go_upto_region 8 with (go_at_call 49; refine (in_any _ _ _ _).mono ?_; rintro e w2 ⟨rfl, rfl⟩)
  go_quiet (fail)
  obtain ⟨w2, hw2⟩ : ∃ w2, w2 = w1.drewN nq := ⟨_, rfl⟩
  rw [← hw2]
  have HK2 := Lib.hid (show Blk w2 Kn #[.int .i64 (n + 1)] 3 by rw [hw2]; exact HK1.out.drewN _)
  have HG2 := Lib.hid (show Blk w2 Kg #[.int .i64 g] 3 by rw [hw2]; exact HG1.out.drewN _)
  have HP2 := Lib.hid (show Blk w2 P #[.int .i64 6, .bool nt, .bool lz, .int .i64 lo, .int .i64 hi, .slice sa sn sc, .slice ka kn kc] 25 by rw [hw2]; exact HP1.out.drewN _)
  have HO2 := Lib.hid (show Two Kn Kg w w2 by rw [hw2]; exact Aside.drewN HO1.out _)
  clear hw2 x0 p0 HK1 HG1 HP1 HO1 HW1
  have p0 : w2.cell? ⟨P, 0, none⟩ = some (.int .i64 6) := HP2.out.cell (i := 0) rfl
  have p1 : w2.cell? ⟨P, 1, none⟩ = some (.bool nt) := HP2.out.cell (i := 1) rfl
  have p2 : w2.cell? ⟨P, 2, none⟩ = some (.bool lz) := HP2.out.cell (i := 2) rfl
  have p3 : w2.cell? ⟨P, 3, none⟩ = some (.int .i64 lo) := HP2.out.cell (i := 3) rfl
  have p4 : w2.cell? ⟨P, 4, none⟩ = some (.int .i64 hi) := HP2.out.cell (i := 4) rfl
  have p5 : w2.cell? ⟨P, 5, none⟩ = some (.slice sa sn sc) := HP2.out.cell (i := 5) rfl
  have p6 : w2.cell? ⟨P, 6, none⟩ = some (.slice ka kn kc) := HP2.out.cell (i := 6) rfl
  have hPl := HP2.out.lt
  by_cases s0 : 0 < sn
  · have s1 : (0 : Int) < (sn : Int) := by omega
    have HE := Lib.hid (show V = 4 by rw [HVV.out]; simp [shpE, frmBad, repBad, *]; try omega)
    go_wp2_with fail
    go_ret
    refine ⟨by rw [HE.out]; rfl, ?_, ?_, ?_⟩
    · first | exact HK2.out | exact HK2.out.alloc _ | exact (HK2.out.alloc _).alloc _
    · first | exact HG2.out | exact HG2.out.alloc _ | exact (HG2.out.alloc _).alloc _
    · first | exact HO2.out | exact HO2.out.alloc _ | exact (HO2.out.alloc _).alloc _
  have s1 : ¬ (0 : Int) < (sn : Int) := by omega
  cases nt
  case true =>
    have HE := Lib.hid (show V = 4 by rw [HVV.out]; simp [shpE, frmBad, repBad, *]; try omega)
    go_wp2_with fail
    go_ret
    refine ⟨by rw [HE.out]; rfl, ?_, ?_, ?_⟩
    · first | exact HK2.out | exact HK2.out.alloc _ | exact (HK2.out.alloc _).alloc _
    · first | exact HG2.out | exact HG2.out.alloc _ | exact (HG2.out.alloc _).alloc _
    · first | exact HO2.out | exact HO2.out.alloc _ | exact (HO2.out.alloc _).alloc _
  by_cases k0 : kn = 1
  case neg =>
    have HE := Lib.hid (show V = 4 by rw [HVV.out]; simp [shpE, frmBad, repBad, *]; try omega)
    have k1 : inB (kn : Int) 1 1 = false := by rw [inB_false]; omega
    go_wp2_with (go_at_call 49; refine (in_any _ _ _ _).mono ?_; rintro e w4 ⟨rfl, rfl⟩)
    go_ret
    refine ⟨by rw [HE.out]; rfl, ?_, ?_, ?_⟩
    · first | exact HK2.out | exact HK2.out.alloc _ | exact (HK2.out.alloc _).alloc _
    · first | exact HG2.out | exact HG2.out.alloc _ | exact (HG2.out.alloc _).alloc _
    · first | exact HO2.out | exact HO2.out.alloc _ | exact (HO2.out.alloc _).alloc _
  subst k0
  have k1 : inB 1 1 1 = true := rfl
  by_cases r0 : 0 ≤ lo ∧ lo ≤ 100
  case neg =>
    have HE := Lib.hid (show V = 2 by rw [HVV.out]; simp [shpE, frmBad, repBad, s0]; omega)
    have r1 : inB lo 0 100 = false := by rw [inB_false]; omega
    go_wp2_with (go_at_call 49; refine (in_any _ _ _ _).mono ?_; rintro e w4 ⟨rfl, rfl⟩)
    go_ret
    refine ⟨by rw [HE.out]; rfl, ?_, ?_, ?_⟩
    · first | exact HK2.out | exact HK2.out.alloc _ | exact (HK2.out.alloc _).alloc _
    · first | exact HG2.out | exact HG2.out.alloc _ | exact (HG2.out.alloc _).alloc _
    · first | exact HO2.out | exact HO2.out.alloc _ | exact (HO2.out.alloc _).alloc _
  have r1 : inB lo 0 100 = true := by rw [inB_true]; omega
  by_cases r2 : -1 ≤ hi ∧ hi ≤ 100
  case neg =>
    have HE := Lib.hid (show V = 2 by rw [HVV.out]; simp [shpE, frmBad, repBad, s0]; omega)
    have r3 : inB hi (-1) 100 = false := by rw [inB_false]; omega
    go_wp2_with (go_at_call 49; refine (in_any _ _ _ _).mono ?_; rintro e w4 ⟨rfl, rfl⟩)
    go_ret
    refine ⟨by rw [HE.out]; rfl, ?_, ?_, ?_⟩
    · first | exact HK2.out | exact HK2.out.alloc _ | exact (HK2.out.alloc _).alloc _
    · first | exact HG2.out | exact HG2.out.alloc _ | exact (HG2.out.alloc _).alloc _
    · first | exact HO2.out | exact HO2.out.alloc _ | exact (HO2.out.alloc _).alloc _
  have r3 : inB hi (-1) 100 = true := by rw [inB_true]; omega
  have HE := Lib.hid (show V = 2 ∧ 0 ≤ hi ∧ hi < lo by
    have h1 := HV.out
    rw [HVV.out] at h1 ⊢
    by_cases h2 : 0 ≤ hi ∧ hi < lo
    · refine ⟨?_, h2⟩
      simp [shpE, frmBad, repBad, s0]
      omega
    · exfalso
      apply h1
      simp [shpE, frmBad, repBad, s0]
      omega)
  have r4 : 0 ≤ hi := HE.out.2.1
  have r5 : hi < lo := HE.out.2.2
  have HE := Lib.hid HE.out.1
  go_wp2_with (go_at_call 49; refine (in_any _ _ _ _).mono ?_; rintro e w4 ⟨rfl, rfl⟩)
  go_ret
  refine ⟨by rw [HE.out]; rfl, ?_, ?_, ?_⟩
  · first | exact HK2.out | exact HK2.out.alloc _ | exact (HK2.out.alloc _).alloc _
  · first | exact HG2.out | exact HG2.out.alloc _ | exact (HG2.out.alloc _).alloc _
  · first | exact HO2.out | exact HO2.out.alloc _ | exact (HO2.out.alloc _).alloc _
end Go.Proofs.YtghbicajcffjhaaDoor.PC
