
/-
  breaks.scan.step and may.
-/
import Derived.Test.YtnigebnibikolaaDoorBrClass
import Derived.Test.YtnigebnibikolaaDoorBlk
import Derived.BigQuiet
namespace Go.Proofs.YtnigebnibikolaaDoor.BR
open Go.RowKit Go.Law Go.Law.Me Go.Law.Br Ref ME
set_option linter.unusedVariables false
set_option linter.unusedSimpArgs false
set_option maxRecDepth 100000
def scanCells (S : Scan) : Array Value := #[.int .i64 S.base, .int .i64 S.before, .int .i64 S.spaces, .int .i64 S.firm, .bool S.any, .bool S.joined]
def ScanAt (w : World) (g : Nat) (S : Scan) : Prop := Blk w g (scanCells S) 76
theorem ScanAt.of {w : World} {g : Nat} {S : Scan} {cs : Array Value} (h : Blk w g cs 76) (e : cs = scanCells S) : ScanAt w g S := by
  subst e; exact h
/-- what a step leaves -/
def StepPost (g : Nat) (S : Scan) (w : World) (e : Ending) (w' : World) : Prop := e = .returned (.tuple #[]) ∧ ScanAt w' g S ∧ Only g w w'
set_option maxHeartbeats 4000000 in
theorem step_any (g : Nat) (S : Scan) (c : Int) (w : World) (hT : MarkT w) (hS : ScanAt w g S) (hsp : 0 ≤ S.spaces ∧ S.spaces ≤ 1000000000000000000) :
    Calls Tryd.prog 44 #[.pointer (some ⟨g, 0, none⟩), .int .i64 c] w (StepPost g (S.step c) w) := by
  have hc := class_any c w hT
  obtain ⟨J, hJ⟩ : ∃ J, J = decide (c = 8205) := ⟨_, rfl⟩
  have hj : (c == 8205) = J := by rw [hJ, Bool.eq_iff_iff]; simp
  have hst := show S.step c = if clsC c = 10 then (if S.any = true ∧ S.base ≠ 1 then { S with joined := decide (c = 8205) } else S.put 0 (decide (c = 8205))) else S.put (clsC c) (decide (c = 8205)) from rfl
  rw [← hJ] at hst
  obtain ⟨K, hK⟩ : ∃ K, K = clsC c := ⟨_, rfl⟩
  rw [← hK] at hst hc
  obtain ⟨R, hR⟩ : ∃ R, R = S.step c := ⟨_, rfl⟩
  rw [← hR] at hst ⊢
  have HST := Lib.hid hst
  have HC := Lib.hid hc
  clear hst hc hT hJ hK hR
  by_cases k10 : K = 10
  · subst k10
    by_cases hm : S.any = true ∧ S.base ≠ 1
    · have HE := Lib.hid (show R = { S with joined := J } by rw [HST.out, if_pos rfl, if_pos hm])
      obtain ⟨ha, hb⟩ := hm
      have hb' : (S.base != 1) = true := by simpa using hb
      clear hb
      go_enter Tryd.func44, Tryd.ntmps44
      go_wp2_with fail
      refine HC.out.mono ?_
      rintro e w1 ⟨rfl, hb1⟩
      have hS1 : ScanAt w1 g S := hS.below hb1 (Blk.lt hS)
      obtain ⟨b, a, sp, f, an, jo⟩ := S
      have c0 : w1.cell? ⟨g, 0, none⟩ = some (.int .i64 b) := Blk.cell hS1 (i := 0) rfl
      have c1 : w1.cell? ⟨g, 1, none⟩ = some (.int .i64 a) := Blk.cell hS1 (i := 1) rfl
      have c2 : w1.cell? ⟨g, 2, none⟩ = some (.int .i64 sp) := Blk.cell hS1 (i := 2) rfl
      have c3 : w1.cell? ⟨g, 3, none⟩ = some (.int .i64 f) := Blk.cell hS1 (i := 3) rfl
      have c4 : w1.cell? ⟨g, 4, none⟩ = some (.bool an) := Blk.cell hS1 (i := 4) rfl
      have c5 : w1.cell? ⟨g, 5, none⟩ = some (.bool jo) := Blk.cell hS1 (i := 5) rfl
      have f0 := Blk.frozen hS1
      have hO1 : Only g w w1 := Only.of_below hb1 (Nat.le_refl _)
      try simp only [] at ha hb'
      subst ha
      go_wp2_with fail
      first | go_end0 | (simp only [Exit.inBlock, Exit.then]; refine bodyPost_ret (results_none rfl _ _ _) rfl ?_) | refine bodyPost_ret (results_none rfl _ _ _) rfl ?_
      exact ⟨rfl, by rw [HE.out]; exact ScanAt.of (hS1.set 5 _) rfl, hO1.set _ _⟩
    · have HE := Lib.hid (show R = S.put 0 J by rw [HST.out, if_pos rfl, if_neg hm])
      cases han : S.any
      · go_enter Tryd.func44, Tryd.ntmps44
        go_wp2_with fail
        refine HC.out.mono ?_
        rintro e w1 ⟨rfl, hb1⟩
        have hS1 : ScanAt w1 g S := hS.below hb1 (Blk.lt hS)
        obtain ⟨b, a, sp, f, an, jo⟩ := S
        have c0 : w1.cell? ⟨g, 0, none⟩ = some (.int .i64 b) := Blk.cell hS1 (i := 0) rfl
        have c1 : w1.cell? ⟨g, 1, none⟩ = some (.int .i64 a) := Blk.cell hS1 (i := 1) rfl
        have c2 : w1.cell? ⟨g, 2, none⟩ = some (.int .i64 sp) := Blk.cell hS1 (i := 2) rfl
        have c3 : w1.cell? ⟨g, 3, none⟩ = some (.int .i64 f) := Blk.cell hS1 (i := 3) rfl
        have c4 : w1.cell? ⟨g, 4, none⟩ = some (.bool an) := Blk.cell hS1 (i := 4) rfl
        have c5 : w1.cell? ⟨g, 5, none⟩ = some (.bool jo) := Blk.cell hS1 (i := 5) rfl
        have f0 := Blk.frozen hS1
        have hO1 : Only g w w1 := Only.of_below hb1 (Nat.le_refl _)
        try simp only [] at han
        subst han
        go_wp2_with fail
        first | go_end0 | (simp only [Exit.inBlock, Exit.then]; refine bodyPost_ret (results_none rfl _ _ _) rfl ?_) | refine bodyPost_ret (results_none rfl _ _ _) rfl ?_
        exact ⟨rfl, by rw [HE.out]; exact ScanAt.of (((((hS1.set 5 _).set 0 _).set 4 _).set 2 _).set 3 _) rfl, ((((hO1.set _ _).set _ _).set _ _).set _ _).set _ _⟩
      · have hbs : S.base = 1 := Classical.byContradiction fun h => hm ⟨han, h⟩
        clear hm
        go_enter Tryd.func44, Tryd.ntmps44
        go_wp2_with fail
        refine HC.out.mono ?_
        rintro e w1 ⟨rfl, hb1⟩
        have hS1 : ScanAt w1 g S := hS.below hb1 (Blk.lt hS)
        obtain ⟨b, a, sp, f, an, jo⟩ := S
        have c0 : w1.cell? ⟨g, 0, none⟩ = some (.int .i64 b) := Blk.cell hS1 (i := 0) rfl
        have c1 : w1.cell? ⟨g, 1, none⟩ = some (.int .i64 a) := Blk.cell hS1 (i := 1) rfl
        have c2 : w1.cell? ⟨g, 2, none⟩ = some (.int .i64 sp) := Blk.cell hS1 (i := 2) rfl
        have c3 : w1.cell? ⟨g, 3, none⟩ = some (.int .i64 f) := Blk.cell hS1 (i := 3) rfl
        have c4 : w1.cell? ⟨g, 4, none⟩ = some (.bool an) := Blk.cell hS1 (i := 4) rfl
        have c5 : w1.cell? ⟨g, 5, none⟩ = some (.bool jo) := Blk.cell hS1 (i := 5) rfl
        have f0 := Blk.frozen hS1
        have hO1 : Only g w w1 := Only.of_below hb1 (Nat.le_refl _)
        try simp only [] at han hbs
        subst han hbs
        go_wp2_with fail
        first | go_end0 | (simp only [Exit.inBlock, Exit.then]; refine bodyPost_ret (results_none rfl _ _ _) rfl ?_) | refine bodyPost_ret (results_none rfl _ _ _) rfl ?_
        exact ⟨rfl, by rw [HE.out]; exact ScanAt.of ((((((hS1.set 5 _).set 1 _).set 0 _).set 4 _).set 2 _).set 3 _) rfl, (((((hO1.set _ _).set _ _).set _ _).set _ _).set _ _).set _ _⟩
  · have HE := Lib.hid (show R = S.put K J by rw [HST.out, if_neg k10])
    have k10' : (K == 10) = false := by simpa using k10
    clear k10
    by_cases k2 : K = 2
    · subst k2
      cases han : S.any
      · go_enter Tryd.func44, Tryd.ntmps44
        go_wp2_with fail
        refine HC.out.mono ?_
        rintro e w1 ⟨rfl, hb1⟩
        have hS1 : ScanAt w1 g S := hS.below hb1 (Blk.lt hS)
        obtain ⟨b, a, sp, f, an, jo⟩ := S
        have c0 : w1.cell? ⟨g, 0, none⟩ = some (.int .i64 b) := Blk.cell hS1 (i := 0) rfl
        have c1 : w1.cell? ⟨g, 1, none⟩ = some (.int .i64 a) := Blk.cell hS1 (i := 1) rfl
        have c2 : w1.cell? ⟨g, 2, none⟩ = some (.int .i64 sp) := Blk.cell hS1 (i := 2) rfl
        have c3 : w1.cell? ⟨g, 3, none⟩ = some (.int .i64 f) := Blk.cell hS1 (i := 3) rfl
        have c4 : w1.cell? ⟨g, 4, none⟩ = some (.bool an) := Blk.cell hS1 (i := 4) rfl
        have c5 : w1.cell? ⟨g, 5, none⟩ = some (.bool jo) := Blk.cell hS1 (i := 5) rfl
        have f0 := Blk.frozen hS1
        have hO1 : Only g w w1 := Only.of_below hb1 (Nat.le_refl _)
        try simp only [] at han hsp
        subst han
        go_wp2_with fail
        first | go_end0 | (simp only [Exit.inBlock, Exit.then]; refine bodyPost_ret (results_none rfl _ _ _) rfl ?_) | refine bodyPost_ret (results_none rfl _ _ _) rfl ?_
        exact ⟨rfl, by rw [HE.out]; exact ScanAt.of ((((hS1.set 5 _).set 0 _).set 4 _).set 2 _) rfl, (((hO1.set _ _).set _ _).set _ _).set _ _⟩
      · go_enter Tryd.func44, Tryd.ntmps44
        go_wp2_with fail
        refine HC.out.mono ?_
        rintro e w1 ⟨rfl, hb1⟩
        have hS1 : ScanAt w1 g S := hS.below hb1 (Blk.lt hS)
        obtain ⟨b, a, sp, f, an, jo⟩ := S
        have c0 : w1.cell? ⟨g, 0, none⟩ = some (.int .i64 b) := Blk.cell hS1 (i := 0) rfl
        have c1 : w1.cell? ⟨g, 1, none⟩ = some (.int .i64 a) := Blk.cell hS1 (i := 1) rfl
        have c2 : w1.cell? ⟨g, 2, none⟩ = some (.int .i64 sp) := Blk.cell hS1 (i := 2) rfl
        have c3 : w1.cell? ⟨g, 3, none⟩ = some (.int .i64 f) := Blk.cell hS1 (i := 3) rfl
        have c4 : w1.cell? ⟨g, 4, none⟩ = some (.bool an) := Blk.cell hS1 (i := 4) rfl
        have c5 : w1.cell? ⟨g, 5, none⟩ = some (.bool jo) := Blk.cell hS1 (i := 5) rfl
        have f0 := Blk.frozen hS1
        have hO1 : Only g w w1 := Only.of_below hb1 (Nat.le_refl _)
        try simp only [] at han hsp
        subst han
        go_wp2_with fail
        first | go_end0 | (simp only [Exit.inBlock, Exit.then]; refine bodyPost_ret (results_none rfl _ _ _) rfl ?_) | refine bodyPost_ret (results_none rfl _ _ _) rfl ?_
        exact ⟨rfl, by rw [HE.out]; exact ScanAt.of (((((hS1.set 5 _).set 1 _).set 0 _).set 4 _).set 2 _) rfl, ((((hO1.set _ _).set _ _).set _ _).set _ _).set _ _⟩
    · have k2' : (K == 2) = false := by simpa using k2
      have HK2 := Lib.hid k2
      clear k2
      cases han : S.any
      · go_enter Tryd.func44, Tryd.ntmps44
        go_wp2_with fail
        refine HC.out.mono ?_
        rintro e w1 ⟨rfl, hb1⟩
        have hS1 : ScanAt w1 g S := hS.below hb1 (Blk.lt hS)
        obtain ⟨b, a, sp, f, an, jo⟩ := S
        have c0 : w1.cell? ⟨g, 0, none⟩ = some (.int .i64 b) := Blk.cell hS1 (i := 0) rfl
        have c1 : w1.cell? ⟨g, 1, none⟩ = some (.int .i64 a) := Blk.cell hS1 (i := 1) rfl
        have c2 : w1.cell? ⟨g, 2, none⟩ = some (.int .i64 sp) := Blk.cell hS1 (i := 2) rfl
        have c3 : w1.cell? ⟨g, 3, none⟩ = some (.int .i64 f) := Blk.cell hS1 (i := 3) rfl
        have c4 : w1.cell? ⟨g, 4, none⟩ = some (.bool an) := Blk.cell hS1 (i := 4) rfl
        have c5 : w1.cell? ⟨g, 5, none⟩ = some (.bool jo) := Blk.cell hS1 (i := 5) rfl
        have f0 := Blk.frozen hS1
        have hO1 : Only g w w1 := Only.of_below hb1 (Nat.le_refl _)
        try simp only [] at han
        subst han
        go_wp2_with fail
        first | go_end0 | (simp only [Exit.inBlock, Exit.then]; refine bodyPost_ret (results_none rfl _ _ _) rfl ?_) | refine bodyPost_ret (results_none rfl _ _ _) rfl ?_
        exact ⟨rfl, by rw [HE.out]; exact ScanAt.of (((((hS1.set 5 _).set 0 _).set 4 _).set 2 _).set 3 _) (by simp [scanCells, Scan.put, HK2.out]), ((((hO1.set _ _).set _ _).set _ _).set _ _).set _ _⟩
      · go_enter Tryd.func44, Tryd.ntmps44
        go_wp2_with fail
        refine HC.out.mono ?_
        rintro e w1 ⟨rfl, hb1⟩
        have hS1 : ScanAt w1 g S := hS.below hb1 (Blk.lt hS)
        obtain ⟨b, a, sp, f, an, jo⟩ := S
        have c0 : w1.cell? ⟨g, 0, none⟩ = some (.int .i64 b) := Blk.cell hS1 (i := 0) rfl
        have c1 : w1.cell? ⟨g, 1, none⟩ = some (.int .i64 a) := Blk.cell hS1 (i := 1) rfl
        have c2 : w1.cell? ⟨g, 2, none⟩ = some (.int .i64 sp) := Blk.cell hS1 (i := 2) rfl
        have c3 : w1.cell? ⟨g, 3, none⟩ = some (.int .i64 f) := Blk.cell hS1 (i := 3) rfl
        have c4 : w1.cell? ⟨g, 4, none⟩ = some (.bool an) := Blk.cell hS1 (i := 4) rfl
        have c5 : w1.cell? ⟨g, 5, none⟩ = some (.bool jo) := Blk.cell hS1 (i := 5) rfl
        have f0 := Blk.frozen hS1
        have hO1 : Only g w w1 := Only.of_below hb1 (Nat.le_refl _)
        try simp only [] at han
        subst han
        go_wp2_with fail
        first | go_end0 | (simp only [Exit.inBlock, Exit.then]; refine bodyPost_ret (results_none rfl _ _ _) rfl ?_) | refine bodyPost_ret (results_none rfl _ _ _) rfl ?_
        exact ⟨rfl, by rw [HE.out]; exact ScanAt.of ((((((hS1.set 5 _).set 1 _).set 0 _).set 4 _).set 2 _).set 3 _) (by simp [scanCells, Scan.put, HK2.out]), (((((hO1.set _ _).set _ _).set _ _).set _ _).set _ _).set _ _⟩
/-- a kind, and whether a line can end -/
def MayPost (V : Int) (w : World) (e : Ending) (w' : World) : Prop := ∃ kd : Int, e = .returned (.tuple #[.int .i64 kd, .bool (decide (0 ≤ V))]) ∧ (0 ≤ V → kd = V) ∧ Below w.heap.size w w'
theorem retT {a : Int} {b c : Bool} (h : b = c) : Ending.returned (.tuple #[.int .i64 a, .bool b]) = .returned (.tuple #[.int .i64 a, .bool c]) := by rw [h]
set_option maxHeartbeats 8000000 in
theorem may_a (g : Nat) (S : Scan) (c : Int) (w : World) (hT : MarkT w) (hS : ScanAt w g S) (hsp : 0 ≤ S.spaces) (hb5 : S.base ≠ 5) :
    Calls Tryd.prog 43 #[.pointer (some ⟨g, 0, none⟩), .int .i64 c] w (MayPost (S.may (clsC c)) w) := by
  have hc := class_any c w hT
  obtain ⟨K, hK⟩ : ∃ K, K = clsC c := ⟨_, rfl⟩
  have hv := show S.may K = mayK S.base S.before S.firm K (decide (0 < S.spaces)) S.joined from rfl
  rw [← hK] at hc ⊢
  obtain ⟨V, hV⟩ : ∃ V, V = S.may K := ⟨_, rfl⟩
  rw [← hV] at hv ⊢
  have HV := Lib.hid hv
  have HC := Lib.hid hc
  have hb5' : (S.base == 5) = false := by simpa using hb5
  clear hv hc hT hV hK hb5
  go_enter Tryd.func43, Tryd.ntmps43
  go_wp2_with fail
  refine HC.out.mono ?_
  rintro e w1 ⟨rfl, hb1⟩
  have hS1 : ScanAt w1 g S := hS.below hb1 (Blk.lt hS)
  obtain ⟨b, a, sp, f, an, jo⟩ := S
  have c0 : w1.cell? ⟨g, 0, none⟩ = some (.int .i64 b) := Blk.cell hS1 (i := 0) rfl
  have c1 : w1.cell? ⟨g, 1, none⟩ = some (.int .i64 a) := Blk.cell hS1 (i := 1) rfl
  have c2 : w1.cell? ⟨g, 2, none⟩ = some (.int .i64 sp) := Blk.cell hS1 (i := 2) rfl
  have c3 : w1.cell? ⟨g, 3, none⟩ = some (.int .i64 f) := Blk.cell hS1 (i := 3) rfl
  have c4 : w1.cell? ⟨g, 4, none⟩ = some (.bool an) := Blk.cell hS1 (i := 4) rfl
  have c5 : w1.cell? ⟨g, 5, none⟩ = some (.bool jo) := Blk.cell hS1 (i := 5) rfl
  clear hS hS1
  try simp only [] at hb5' hsp
  unfold mayK at HV
  go_wp2_with fail
  all_goals
    go_ret2
    have e1 := HV.out
    clear HV
    go_tidy
    try simp only [beq_iff_eq, beq_eq_false_iff_ne, ne_eq, decide_eq_true_eq, decide_eq_false_iff_not] at *
    first
      | (simp [*] at e1; subst e1; exact ⟨_, rfl, by decide, hb1⟩)
      | ((repeat' split at e1) <;> first | (subst e1; exact ⟨_, rfl, by decide, hb1⟩) | (exfalso; omega) | (exfalso; simp_all; done))
set_option maxHeartbeats 8000000 in
theorem may_b (g : Nat) (S : Scan) (c : Int) (w : World) (hT : MarkT w) (hS : ScanAt w g S) (hsp : 0 ≤ S.spaces) (hbs : S.base = 5) :
    Calls Tryd.prog 43 #[.pointer (some ⟨g, 0, none⟩), .int .i64 c] w (MayPost (S.may (clsC c)) w) := by
  have hc := class_any c w hT
  obtain ⟨K, hK⟩ : ∃ K, K = clsC c := ⟨_, rfl⟩
  have hv := show S.may K = mayK S.base S.before S.firm K (decide (0 < S.spaces)) S.joined from rfl
  rw [← hK] at hc ⊢
  obtain ⟨V, hV⟩ : ∃ V, V = S.may K := ⟨_, rfl⟩
  rw [← hV] at hv ⊢
  have HV := Lib.hid hv
  have HC := Lib.hid hc
  clear hv hc hT hV hK
  by_cases k11 : K = 11
  · subst k11
    go_enter Tryd.func43, Tryd.ntmps43
    go_wp2_with fail
    refine HC.out.mono ?_
    rintro e w1 ⟨rfl, hb1⟩
    have hS1 : ScanAt w1 g S := hS.below hb1 (Blk.lt hS)
    obtain ⟨b, a, sp, f, an, jo⟩ := S
    have c0 : w1.cell? ⟨g, 0, none⟩ = some (.int .i64 b) := Blk.cell hS1 (i := 0) rfl
    have c1 : w1.cell? ⟨g, 1, none⟩ = some (.int .i64 a) := Blk.cell hS1 (i := 1) rfl
    have c2 : w1.cell? ⟨g, 2, none⟩ = some (.int .i64 sp) := Blk.cell hS1 (i := 2) rfl
    have c3 : w1.cell? ⟨g, 3, none⟩ = some (.int .i64 f) := Blk.cell hS1 (i := 3) rfl
    have c4 : w1.cell? ⟨g, 4, none⟩ = some (.bool an) := Blk.cell hS1 (i := 4) rfl
    have c5 : w1.cell? ⟨g, 5, none⟩ = some (.bool jo) := Blk.cell hS1 (i := 5) rfl
    clear hS hS1
    try simp only [] at hbs hsp
    subst hbs
    skip
    unfold mayK at HV
    go_wp2_with fail
    all_goals try (
      go_ret2
      have e1 := HV.out
      clear HV
      go_tidy
      try simp only [beq_iff_eq, beq_eq_false_iff_ne, ne_eq, decide_eq_true_eq, decide_eq_false_iff_not] at *
      first
        | (simp [*] at e1; subst e1; exact ⟨_, rfl, by decide, hb1⟩)
        | ((repeat' split at e1) <;> first | (subst e1; exact ⟨_, rfl, by decide, hb1⟩) | (exfalso; omega) | (exfalso; simp_all; done))
      )
    all_goals go_quiet (fail)
    all_goals go_wp2_with fail
    all_goals
      go_ret2
      have e1 := HV.out
      clear HV
      go_tidy
      try simp only [beq_iff_eq, beq_eq_false_iff_ne, ne_eq, decide_eq_true_eq, decide_eq_false_iff_not] at *
      first
        | (simp [*] at e1; subst e1; exact ⟨_, rfl, by decide, (below_drewN hb1 _)⟩)
        | ((repeat' split at e1) <;> first | (subst e1; exact ⟨_, rfl, by decide, (below_drewN hb1 _)⟩) | (exfalso; omega) | (exfalso; simp_all; done))
  · have k1 : (K != 11) = true := by simpa using k11
    by_cases a2 : S.before = 2
    · go_enter Tryd.func43, Tryd.ntmps43
      go_wp2_with fail
      refine HC.out.mono ?_
      rintro e w1 ⟨rfl, hb1⟩
      have hS1 : ScanAt w1 g S := hS.below hb1 (Blk.lt hS)
      obtain ⟨b, a, sp, f, an, jo⟩ := S
      have c0 : w1.cell? ⟨g, 0, none⟩ = some (.int .i64 b) := Blk.cell hS1 (i := 0) rfl
      have c1 : w1.cell? ⟨g, 1, none⟩ = some (.int .i64 a) := Blk.cell hS1 (i := 1) rfl
      have c2 : w1.cell? ⟨g, 2, none⟩ = some (.int .i64 sp) := Blk.cell hS1 (i := 2) rfl
      have c3 : w1.cell? ⟨g, 3, none⟩ = some (.int .i64 f) := Blk.cell hS1 (i := 3) rfl
      have c4 : w1.cell? ⟨g, 4, none⟩ = some (.bool an) := Blk.cell hS1 (i := 4) rfl
      have c5 : w1.cell? ⟨g, 5, none⟩ = some (.bool jo) := Blk.cell hS1 (i := 5) rfl
      clear hS hS1
      try simp only [] at hbs hsp
      subst hbs
      (try simp only [] at a2); subst a2
      unfold mayK at HV
      go_wp2_with fail
      all_goals try (
        go_ret2
        have e1 := HV.out
        clear HV
        go_tidy
        try simp only [beq_iff_eq, beq_eq_false_iff_ne, ne_eq, decide_eq_true_eq, decide_eq_false_iff_not] at *
        first
          | (simp [*] at e1; subst e1; exact ⟨_, rfl, by decide, hb1⟩)
          | ((repeat' split at e1) <;> first | (subst e1; exact ⟨_, rfl, by decide, hb1⟩) | (exfalso; omega) | (exfalso; simp_all; done))
        )
      all_goals go_quiet (fail)
      all_goals go_wp2_with fail
      all_goals
        go_ret2
        have e1 := HV.out
        clear HV
        go_tidy
        try simp only [beq_iff_eq, beq_eq_false_iff_ne, ne_eq, decide_eq_true_eq, decide_eq_false_iff_not] at *
        first
          | (simp [*] at e1; subst e1; exact ⟨_, rfl, by decide, (below_drewN hb1 _)⟩)
          | ((repeat' split at e1) <;> first | (subst e1; exact ⟨_, rfl, by decide, (below_drewN hb1 _)⟩) | (exfalso; omega) | (exfalso; simp_all; done))
    · by_cases a1 : S.before = 1
      · go_enter Tryd.func43, Tryd.ntmps43
        go_wp2_with fail
        refine HC.out.mono ?_
        rintro e w1 ⟨rfl, hb1⟩
        have hS1 : ScanAt w1 g S := hS.below hb1 (Blk.lt hS)
        obtain ⟨b, a, sp, f, an, jo⟩ := S
        have c0 : w1.cell? ⟨g, 0, none⟩ = some (.int .i64 b) := Blk.cell hS1 (i := 0) rfl
        have c1 : w1.cell? ⟨g, 1, none⟩ = some (.int .i64 a) := Blk.cell hS1 (i := 1) rfl
        have c2 : w1.cell? ⟨g, 2, none⟩ = some (.int .i64 sp) := Blk.cell hS1 (i := 2) rfl
        have c3 : w1.cell? ⟨g, 3, none⟩ = some (.int .i64 f) := Blk.cell hS1 (i := 3) rfl
        have c4 : w1.cell? ⟨g, 4, none⟩ = some (.bool an) := Blk.cell hS1 (i := 4) rfl
        have c5 : w1.cell? ⟨g, 5, none⟩ = some (.bool jo) := Blk.cell hS1 (i := 5) rfl
        clear hS hS1
        try simp only [] at hbs hsp
        subst hbs
        (try simp only [] at a1); subst a1
        unfold mayK at HV
        go_wp2_with fail
        all_goals try (
          go_ret2
          have e1 := HV.out
          clear HV
          go_tidy
          try simp only [beq_iff_eq, beq_eq_false_iff_ne, ne_eq, decide_eq_true_eq, decide_eq_false_iff_not] at *
          first
            | (simp [*] at e1; subst e1; exact ⟨_, rfl, by decide, hb1⟩)
            | ((repeat' split at e1) <;> first | (subst e1; exact ⟨_, rfl, by decide, hb1⟩) | (exfalso; omega) | (exfalso; simp_all; done))
          )
        all_goals go_quiet (fail)
        all_goals go_wp2_with fail
        all_goals
          go_ret2
          have e1 := HV.out
          clear HV
          go_tidy
          try simp only [beq_iff_eq, beq_eq_false_iff_ne, ne_eq, decide_eq_true_eq, decide_eq_false_iff_not] at *
          first
            | (simp [*] at e1; subst e1; exact ⟨_, rfl, by decide, (below_drewN hb1 _)⟩)
            | ((repeat' split at e1) <;> first | (subst e1; exact ⟨_, rfl, by decide, (below_drewN hb1 _)⟩) | (exfalso; omega) | (exfalso; simp_all; done))
      · have a2' : (S.before != 2) = true := by simpa using a2
        have a1' : (S.before != 1) = true := by simpa using a1
        go_enter Tryd.func43, Tryd.ntmps43
        go_wp2_with fail
        refine HC.out.mono ?_
        rintro e w1 ⟨rfl, hb1⟩
        have hS1 : ScanAt w1 g S := hS.below hb1 (Blk.lt hS)
        obtain ⟨b, a, sp, f, an, jo⟩ := S
        have c0 : w1.cell? ⟨g, 0, none⟩ = some (.int .i64 b) := Blk.cell hS1 (i := 0) rfl
        have c1 : w1.cell? ⟨g, 1, none⟩ = some (.int .i64 a) := Blk.cell hS1 (i := 1) rfl
        have c2 : w1.cell? ⟨g, 2, none⟩ = some (.int .i64 sp) := Blk.cell hS1 (i := 2) rfl
        have c3 : w1.cell? ⟨g, 3, none⟩ = some (.int .i64 f) := Blk.cell hS1 (i := 3) rfl
        have c4 : w1.cell? ⟨g, 4, none⟩ = some (.bool an) := Blk.cell hS1 (i := 4) rfl
        have c5 : w1.cell? ⟨g, 5, none⟩ = some (.bool jo) := Blk.cell hS1 (i := 5) rfl
        clear hS hS1
        try simp only [] at hbs hsp
        subst hbs
        (try simp only [] at a1' a2' a1 a2)
        unfold mayK at HV
        go_wp2_with fail
        all_goals try (
          go_ret2
          have e1 := HV.out
          clear HV
          go_tidy
          try simp only [beq_iff_eq, beq_eq_false_iff_ne, ne_eq, decide_eq_true_eq, decide_eq_false_iff_not] at *
          first
            | (simp [*] at e1; subst e1; exact ⟨_, rfl, by decide, hb1⟩)
            | ((repeat' split at e1) <;> first | (subst e1; exact ⟨_, rfl, by decide, hb1⟩) | (exfalso; omega) | (exfalso; simp_all; done))
          )
        all_goals go_quiet (fail)
        all_goals go_wp2_with fail
        all_goals
          go_ret2
          have e1 := HV.out
          clear HV
          go_tidy
          try simp only [beq_iff_eq, beq_eq_false_iff_ne, ne_eq, decide_eq_true_eq, decide_eq_false_iff_not] at *
          first
            | (simp [*] at e1; subst e1; exact ⟨_, rfl, by decide, (below_drewN hb1 _)⟩)
            | ((repeat' split at e1) <;> first | (subst e1; exact ⟨_, rfl, by decide, (below_drewN hb1 _)⟩) | (exfalso; omega) | (exfalso; simp_all; done))
theorem may_any (g : Nat) (S : Scan) (c : Int) (w : World) (hT : MarkT w) (hS : ScanAt w g S) (hsp : 0 ≤ S.spaces) :
    Calls Tryd.prog 43 #[.pointer (some ⟨g, 0, none⟩), .int .i64 c] w (MayPost (S.may (clsC c)) w) := by
  by_cases h : S.base = 5
  · exact may_b g S c w hT hS hsp h
  · exact may_a g S c w hT hS hsp h
end Go.Proofs.YtnigebnibikolaaDoor.BR
