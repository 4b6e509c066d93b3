

/-
  The reference's check of a node: what is wrong with its fields (kind 0).
-/
import Derived.Test.YtghbicajcffjhaaDoorPcRBad
namespace Go.Law.Pn
open Go.RowKit
theorem shp_good {h : PH} (hV : shpE h = 0) : (0 ≤ h.kind ∧ h.kind ≤ 7) ∧ ¬ frmBad h ∧ (h.kind = 0 → h.kn = 0 ∧ setE h.sn h.sf = 0) ∧ ((h.kind = 1 ∨ h.kind = 2 ∨ h.kind = 3) → h.kn = 0) ∧ (h.kind = 4 → h.kn ≠ 1) ∧ (h.kind = 5 → 2 ≤ h.kn) ∧ (h.kind = 6 → h.kn = 1 ∧ ¬ repBad h) ∧ (h.kind = 7 → h.kn = 1) := by
  by_cases h1 : h.kind < 0 ∨ 7 < h.kind
  · simp [shpE, h1] at hV
  by_cases h2 : frmBad h
  · rw [shpE, if_neg h1, if_pos h2] at hV; simp at hV
  rw [shpE, if_neg h1, if_neg h2] at hV
  refine ⟨by omega, h2, ?_, ?_, ?_, ?_, ?_, ?_⟩
  · intro k
    rw [if_pos k] at hV
    by_cases h3 : 0 < h.kn
    · rw [if_pos h3] at hV; simp at hV
    · rw [if_neg h3] at hV; exact ⟨by omega, hV⟩
  · intro k
    rw [if_neg (by omega), if_neg (by omega), if_neg (by omega), if_neg (by omega), if_neg (by omega)] at hV
    by_cases h3 : 0 < h.kn
    · rw [if_pos h3] at hV; simp at hV
    · omega
  · intro k h3
    rw [if_neg (by omega), if_pos k, if_pos h3] at hV; simp at hV
  · intro k
    rw [if_neg (by omega), if_neg (by omega), if_pos k] at hV
    by_cases h3 : h.kn < 2
    · rw [if_pos h3] at hV; simp at hV
    · omega
  · intro k
    rw [if_neg (by omega), if_neg (by omega), if_neg (by omega), if_pos k] at hV
    by_cases h3 : h.kn ≠ 1
    · rw [if_pos h3] at hV; simp at hV
    · rw [if_neg h3] at hV
      by_cases h4 : repBad h
      · rw [if_pos h4] at hV; simp at hV
      · exact ⟨by omega, h4⟩
  · intro k
    rw [if_neg (by omega), if_neg (by omega), if_neg (by omega), if_neg (by omega), if_pos k] at hV
    by_cases h3 : h.kn ≠ 1
    · rw [if_pos h3] at hV; simp at hV
    · omega
end Go.Law.Pn
namespace Go.Proofs.YtghbicajcffjhaaDoor.PC
open Go.RowKit Go.Law Go.Law.Pn Ref
set_option linter.unusedVariables false
set_option linter.unusedSimpArgs false
set_option maxRecDepth 100000
set_option maxHeartbeats 16000000 in
theorem nodeR_bad0 (nt lz : Bool) (lo hi : Int) (sn : Nat) (sa : Option Addr) (sc : Nat) (sf : Nat → Int × Int) (kn : Nat) (ka : Option Addr) (kc : Nat) (d n g : Int) (Kn Kg : Nat) (w : World)
    (HK0 : Hid (Blk w Kn #[.int .i64 n] 3)) (HG0 : Hid (Blk w Kg #[.int .i64 g] 3)) (HS : Hid (∀ w', Below w.heap.size w w' ∨ Two Kn Kg w w' → SetOk w' sa sn sf)) (hne : Kn ≠ Kg) (hn0 : 0 ≤ n) (hb : ¬ 200 < n + 1) (hd : ¬ 20 ≤ d) (hV : shpE ⟨0, nt, lz, lo, hi, sn, sa, sc, sf, kn, ka, kc⟩ ≠ 0) :
    Calls Tryd.prog 28 #[.agg #[.int .i64 0, .bool nt, .bool lz, .int .i64 lo, .int .i64 hi, .slice sa sn sc, .slice ka kn kc], .int .i64 d, .pointer (some ⟨Kn, 0, none⟩), .pointer (some ⟨Kg, 0, none⟩)] w fun e w' => e = .returned (.int .i64 (shpE ⟨0, nt, lz, lo, hi, sn, sa, sc, sf, kn, ka, kc⟩)) ∧ Blk w' Kn #[.int .i64 (n + 1)] 3 ∧ Blk w' Kg #[.int .i64 g] 3 ∧ Two Kn Kg w w' := by
  obtain ⟨kind, hkind⟩ : ∃ kind : Int, kind = 0 := ⟨_, rfl⟩
  obtain ⟨V, hVV⟩ : ∃ V, V = shpE ⟨0, nt, lz, lo, hi, sn, sa, sc, sf, kn, ka, kc⟩ := ⟨_, rfl⟩
  rw [← hVV] at hV ⊢
  have HV := Lib.hid hV
  have HVV := Lib.hid hVV
  clear hV hVV
  rw [← hkind]
  have HKI := Lib.hid hkind
  clear hkind
  obtain ⟨w1, hw1⟩ : ∃ w1, w1 = (w.setCell ⟨Kn, 0, none⟩ (.int .i64 (n + 1))).alloc (.cells #[.int .i64 kind, .bool nt, .bool lz, .int .i64 lo, .int .i64 hi, .slice sa sn sc, .slice ka kn kc] 25) := ⟨_, rfl⟩
  obtain ⟨P, hP⟩ : ∃ P, P = w.heap.size := ⟨_, rfl⟩
  have hKl := HK0.out.lt
  have hGl := HG0.out.lt
  have hPn : P ≠ Kn := by omega
  have hPg : P ≠ Kg := by omega
  have HK1 := Lib.hid (show Blk w1 Kn #[.int .i64 (n + 1)] 3 by rw [hw1]; exact (HK0.out.set 0 _).alloc _)
  have HG1 := Lib.hid (show Blk w1 Kg #[.int .i64 g] 3 by rw [hw1]; exact (HG0.out.other (by simpa using Ne.symm hne) _).alloc _)
  have HP1 := Lib.hid (show Blk w1 P #[.int .i64 kind, .bool nt, .bool lz, .int .i64 lo, .int .i64 hi, .slice sa sn sc, .slice ka kn kc] 25 by rw [hw1, hP, show w.heap.size = (w.setCell ⟨Kn, 0, none⟩ (.int .i64 (n + 1))).heap.size by simp]; exact Blk.new _ _ _)
  have HO1 := Lib.hid (show Two Kn Kg w w1 by rw [hw1]; exact (Two.set1 (Aside.refl _ _ _) 0 _).alloc _)
  have HW1 := Lib.hid hw1
  have HPE := Lib.hid hP
  clear hw1 hP
  have e1 : IntKind.i64.wrap (n + 1) = n + 1 := IntWalk.i64_in _ ⟨by omega, by omega⟩
  have x0 := HK0.out.cell (i := 0) rfl
  have xf := HK0.out.frozen
  go_enter Tryd.func28, Tryd.ntmps28
  go_upto_region 2 with fail
  rw [← HW1.out, ← HPE.out]
  clear x0 xf HK0 HG0 hKl hGl
  have x0 := HK1.out.cell (i := 0) rfl
  have hkind := HKI.out
  clear HKI
  subst hkind
  have hI : inB 0 0 7 = true := rfl
  have p0 : w1.cell? ⟨P, 0, none⟩ = some (.int .i64 0) := HP1.out.cell (i := 0) rfl
  go_upto_region 8 with (go_at_call 49; refine (in_any _ _ _ _).mono ?_; rintro e w2 ⟨rfl, rfl⟩)
  go_quiet (fail)
  obtain ⟨w2, hw2⟩ : ∃ w2, w2 = w1.drewN nq := ⟨_, rfl⟩
  rw [← hw2]
  have HK2 := Lib.hid (show Blk w2 Kn #[.int .i64 (n + 1)] 3 by rw [hw2]; exact HK1.out.drewN _)
  have HG2 := Lib.hid (show Blk w2 Kg #[.int .i64 g] 3 by rw [hw2]; exact HG1.out.drewN _)
  have HP2 := Lib.hid (show Blk w2 P #[.int .i64 0, .bool nt, .bool lz, .int .i64 lo, .int .i64 hi, .slice sa sn sc, .slice ka kn kc] 25 by rw [hw2]; exact HP1.out.drewN _)
  have HO2 := Lib.hid (show Two Kn Kg w w2 by rw [hw2]; exact Aside.drewN HO1.out _)
  clear hw2 x0 p0 HK1 HG1 HP1 HO1 HW1
  have p0 : w2.cell? ⟨P, 0, none⟩ = some (.int .i64 0) := HP2.out.cell (i := 0) rfl
  have p1 : w2.cell? ⟨P, 1, none⟩ = some (.bool nt) := HP2.out.cell (i := 1) rfl
  have p2 : w2.cell? ⟨P, 2, none⟩ = some (.bool lz) := HP2.out.cell (i := 2) rfl
  have p3 : w2.cell? ⟨P, 3, none⟩ = some (.int .i64 lo) := HP2.out.cell (i := 3) rfl
  have p4 : w2.cell? ⟨P, 4, none⟩ = some (.int .i64 hi) := HP2.out.cell (i := 4) rfl
  have p5 : w2.cell? ⟨P, 5, none⟩ = some (.slice sa sn sc) := HP2.out.cell (i := 5) rfl
  have p6 : w2.cell? ⟨P, 6, none⟩ = some (.slice ka kn kc) := HP2.out.cell (i := 6) rfl
  have hPl := HP2.out.lt
  cases lz
  case true =>
    have HE := Lib.hid (show V = 4 by rw [HVV.out]; simp [shpE, frmBad, repBad, *]; try omega)
    go_wp2_with fail
    go_ret
    refine ⟨by rw [HE.out]; rfl, ?_, ?_, ?_⟩
    · first | exact HK2.out | exact HK2.out.alloc _ | exact (HK2.out.alloc _).alloc _
    · first | exact HG2.out | exact HG2.out.alloc _ | exact (HG2.out.alloc _).alloc _
    · first | exact HO2.out | exact HO2.out.alloc _ | exact (HO2.out.alloc _).alloc _
  by_cases l0 : lo = 0
  case neg =>
    have l1 : (lo != 0) = true := by simpa using l0
    have HE := Lib.hid (show V = 4 by rw [HVV.out]; simp [shpE, frmBad, repBad, *]; try omega)
    go_wp2_with fail
    go_ret
    refine ⟨by rw [HE.out]; rfl, ?_, ?_, ?_⟩
    · first | exact HK2.out | exact HK2.out.alloc _ | exact (HK2.out.alloc _).alloc _
    · first | exact HG2.out | exact HG2.out.alloc _ | exact (HG2.out.alloc _).alloc _
    · first | exact HO2.out | exact HO2.out.alloc _ | exact (HO2.out.alloc _).alloc _
  subst l0
  by_cases h0 : hi = 0
  case neg =>
    have l1 : (hi != 0) = true := by simpa using h0
    have HE := Lib.hid (show V = 4 by rw [HVV.out]; simp [shpE, frmBad, repBad, *]; try omega)
    go_wp2_with fail
    go_ret
    refine ⟨by rw [HE.out]; rfl, ?_, ?_, ?_⟩
    · first | exact HK2.out | exact HK2.out.alloc _ | exact (HK2.out.alloc _).alloc _
    · first | exact HG2.out | exact HG2.out.alloc _ | exact (HG2.out.alloc _).alloc _
    · first | exact HO2.out | exact HO2.out.alloc _ | exact (HO2.out.alloc _).alloc _
  subst h0
  by_cases k0 : kn = 0
  case neg =>
    have k1 : (0 : Int) < (kn : Int) := by omega
    have HE := Lib.hid (show V = 4 by rw [HVV.out]; simp [shpE, frmBad, repBad, *]; try omega)
    go_wp2_with fail
    go_ret
    refine ⟨by rw [HE.out]; rfl, ?_, ?_, ?_⟩
    · first | exact HK2.out | exact HK2.out.alloc _ | exact (HK2.out.alloc _).alloc _
    · first | exact HG2.out | exact HG2.out.alloc _ | exact (HG2.out.alloc _).alloc _
    · first | exact HO2.out | exact HO2.out.alloc _ | exact (HO2.out.alloc _).alloc _
  subst k0
  have HE := Lib.hid (show V = setE sn sf by rw [HVV.out]; simp [shpE, frmBad])
  have v1 : (V != 0) = true := by simpa using HV.out
  go_wp2_with (go_at_call 60; refine (setError_any sa sn sc sf _ (HS.out _ (.inr ((HO2.out.alloc _).alloc _)))).mono ?_; rintro e w5 ⟨rfl, hb5⟩; rw [← HE.out])
  go_ret
  exact ⟨rfl, ((HK2.out.alloc _).alloc _).below hb5 (((HK2.out.alloc _).alloc _).lt), ((HG2.out.alloc _).alloc _).below hb5 (((HG2.out.alloc _).alloc _).lt), Two.more ((HO2.out.alloc _).alloc _) hb5 (Nat.le_refl _)⟩
end Go.Proofs.YtghbicajcffjhaaDoor.PC
