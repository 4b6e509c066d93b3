
/-
  PrintingPlaces returns true for every page and part.
-/
import Derived.Test.YtpbnkkeplhgepaaPlaceWalk
import Derived.Test.YtpbnkkeplhgepaaCommon
namespace Go.Proofs.Ytpbnkkeplhgepaa.PP
open Go.RowKit Go.Law
set_option linter.unusedVariables false
set_option maxRecDepth 100000
def inB (n lo hi : Int) : Bool := decide (lo ≤ n ∧ n ≤ hi)
theorem inB_true {n lo hi : Int} : inB n lo hi = true ↔ lo ≤ n ∧ n ≤ hi := by simp [inB]
theorem inB_false {n lo hi : Int} : inB n lo hi = false ↔ ¬ (lo ≤ n ∧ n ≤ hi) := by simp only [inB, decide_eq_false_iff_not]
theorem in_any (n lo hi : Int) (w : World) : Calls Try.prog 14 #[.int .i64 n, .int .i64 lo, .int .i64 hi] w fun e w' => e = .returned (.bool (inB n lo hi)) ∧ w = w' := by
  go_enter Try.func14, Try.ntmps14
  go_wp2
  all_goals
    go_ret
    refine ⟨?_, rfl⟩
    simp [inB, *]
  omega

set_option maxHeartbeats 1000000 in
theorem law_bad (pw ph x0 y0 x1 y1 : Int) (w : World) (h : ¬ ((0 ≤ x0 ∧ x0 ≤ 31680) ∧ (0 ≤ y0 ∧ y0 ≤ 31680) ∧ (0 ≤ x1 ∧ x1 ≤ 31680) ∧ (0 ≤ y1 ∧ y1 ≤ 31680) ∧ (1 ≤ pw ∧ pw ≤ 31680) ∧ (1 ≤ ph ∧ ph ≤ 31680))) :
   Calls Try.prog 3 #[.int .i64 pw, .int .i64 ph, .agg #[.int .i64 x0, .int .i64 y0, .int .i64 x1, .int .i64 y1]] w fun e w' => e = .returned (.bool true) ∧ Below w.heap.size w w' := by
  have H := Lib.hid h
  clear h
  cases i1 : inB x0 0 31680
  · go_enter Try.func3, Try.ntmps3
    go_wp2_with fail
    refine (place_ok _ _ _ _ _ _ _ (by omega) (by omega) (by omega) (by omega) (by omega) (by omega) (by omega) (by omega)).mono ?_
    rintro e w1 ⟨rfl, hb1⟩
    rw [show placed 200 100 0 0 100 100 = .tuple #[.agg #[.int .i64 0, .int .i64 25, .int .i64 100, .int .i64 75], .int .i64 0] from rfl]
    obtain ⟨hc_hb1, hf_hb1⟩ := bcell hb1
    have hs_hb1 := (hb1).size
    simp at hs_hb1
    have z_a1 : w.heap.size < w1.heap.size := by omega
    have zk_a1 : ∀ k, w.heap.size < w1.heap.size + k := fun k => by omega
    go_wp2_with fail
    refine (place_bad _ _ _ _ _ _ _ H.out).mono ?_
    rintro e w2 ⟨rfl, hb2⟩
    obtain ⟨hc_hb2, hf_hb2⟩ := bcell hb2
    have hs_hb2 := (hb2).size
    simp at hs_hb2
    have z_a2 : w.heap.size < w2.heap.size := by omega
    have zk_a2 : ∀ k, w.heap.size < w2.heap.size + k := fun k => by omega
    go_wp2_with fail
    go_quiet (fail)
    go_wp2_with (go_at_call 14; refine (in_any _ _ _ _).mono ?_; rintro e w3 ⟨rfl, rfl⟩)
    go_ret
    refine ⟨rfl, ?_⟩
    clear hs_hb1 hs_hb2 hc_hb1 hf_hb1 hc_hb2 hf_hb2
    repeat' (with_reducible first | exact Below.refl _ _ | refine Below.setCell ?_ ?_ _ | refine Below.alloc ?_ ?_ _ | refine below_drewN ?_ _ | refine Below.drew ?_ | refine Below.trans ?_ (Below.mono hb2 ?_) | refine Below.trans ?_ (Below.mono hb1 ?_))
    all_goals first | omega | (simp; done) | (simp; omega)
  cases i2 : inB y0 0 31680
  · go_enter Try.func3, Try.ntmps3
    go_wp2_with fail
    refine (place_ok _ _ _ _ _ _ _ (by omega) (by omega) (by omega) (by omega) (by omega) (by omega) (by omega) (by omega)).mono ?_
    rintro e w1 ⟨rfl, hb1⟩
    rw [show placed 200 100 0 0 100 100 = .tuple #[.agg #[.int .i64 0, .int .i64 25, .int .i64 100, .int .i64 75], .int .i64 0] from rfl]
    obtain ⟨hc_hb1, hf_hb1⟩ := bcell hb1
    have hs_hb1 := (hb1).size
    simp at hs_hb1
    have z_a1 : w.heap.size < w1.heap.size := by omega
    have zk_a1 : ∀ k, w.heap.size < w1.heap.size + k := fun k => by omega
    go_wp2_with fail
    refine (place_bad _ _ _ _ _ _ _ H.out).mono ?_
    rintro e w2 ⟨rfl, hb2⟩
    obtain ⟨hc_hb2, hf_hb2⟩ := bcell hb2
    have hs_hb2 := (hb2).size
    simp at hs_hb2
    have z_a2 : w.heap.size < w2.heap.size := by omega
    have zk_a2 : ∀ k, w.heap.size < w2.heap.size + k := fun k => by omega
    go_wp2_with fail
    go_quiet (fail)
    go_wp2_with (go_at_call 14; refine (in_any _ _ _ _).mono ?_; rintro e w3 ⟨rfl, rfl⟩)
    go_ret
    refine ⟨rfl, ?_⟩
    clear hs_hb1 hs_hb2 hc_hb1 hf_hb1 hc_hb2 hf_hb2
    repeat' (with_reducible first | exact Below.refl _ _ | refine Below.setCell ?_ ?_ _ | refine Below.alloc ?_ ?_ _ | refine below_drewN ?_ _ | refine Below.drew ?_ | refine Below.trans ?_ (Below.mono hb2 ?_) | refine Below.trans ?_ (Below.mono hb1 ?_))
    all_goals first | omega | (simp; done) | (simp; omega)
  cases i3 : inB x1 0 31680
  · go_enter Try.func3, Try.ntmps3
    go_wp2_with fail
    refine (place_ok _ _ _ _ _ _ _ (by omega) (by omega) (by omega) (by omega) (by omega) (by omega) (by omega) (by omega)).mono ?_
    rintro e w1 ⟨rfl, hb1⟩
    rw [show placed 200 100 0 0 100 100 = .tuple #[.agg #[.int .i64 0, .int .i64 25, .int .i64 100, .int .i64 75], .int .i64 0] from rfl]
    obtain ⟨hc_hb1, hf_hb1⟩ := bcell hb1
    have hs_hb1 := (hb1).size
    simp at hs_hb1
    have z_a1 : w.heap.size < w1.heap.size := by omega
    have zk_a1 : ∀ k, w.heap.size < w1.heap.size + k := fun k => by omega
    go_wp2_with fail
    refine (place_bad _ _ _ _ _ _ _ H.out).mono ?_
    rintro e w2 ⟨rfl, hb2⟩
    obtain ⟨hc_hb2, hf_hb2⟩ := bcell hb2
    have hs_hb2 := (hb2).size
    simp at hs_hb2
    have z_a2 : w.heap.size < w2.heap.size := by omega
    have zk_a2 : ∀ k, w.heap.size < w2.heap.size + k := fun k => by omega
    go_wp2_with fail
    go_quiet (fail)
    go_wp2_with (go_at_call 14; refine (in_any _ _ _ _).mono ?_; rintro e w3 ⟨rfl, rfl⟩)
    go_ret
    refine ⟨rfl, ?_⟩
    clear hs_hb1 hs_hb2 hc_hb1 hf_hb1 hc_hb2 hf_hb2
    repeat' (with_reducible first | exact Below.refl _ _ | refine Below.setCell ?_ ?_ _ | refine Below.alloc ?_ ?_ _ | refine below_drewN ?_ _ | refine Below.drew ?_ | refine Below.trans ?_ (Below.mono hb2 ?_) | refine Below.trans ?_ (Below.mono hb1 ?_))
    all_goals first | omega | (simp; done) | (simp; omega)
  cases i4 : inB y1 0 31680
  · go_enter Try.func3, Try.ntmps3
    go_wp2_with fail
    refine (place_ok _ _ _ _ _ _ _ (by omega) (by omega) (by omega) (by omega) (by omega) (by omega) (by omega) (by omega)).mono ?_
    rintro e w1 ⟨rfl, hb1⟩
    rw [show placed 200 100 0 0 100 100 = .tuple #[.agg #[.int .i64 0, .int .i64 25, .int .i64 100, .int .i64 75], .int .i64 0] from rfl]
    obtain ⟨hc_hb1, hf_hb1⟩ := bcell hb1
    have hs_hb1 := (hb1).size
    simp at hs_hb1
    have z_a1 : w.heap.size < w1.heap.size := by omega
    have zk_a1 : ∀ k, w.heap.size < w1.heap.size + k := fun k => by omega
    go_wp2_with fail
    refine (place_bad _ _ _ _ _ _ _ H.out).mono ?_
    rintro e w2 ⟨rfl, hb2⟩
    obtain ⟨hc_hb2, hf_hb2⟩ := bcell hb2
    have hs_hb2 := (hb2).size
    simp at hs_hb2
    have z_a2 : w.heap.size < w2.heap.size := by omega
    have zk_a2 : ∀ k, w.heap.size < w2.heap.size + k := fun k => by omega
    go_wp2_with fail
    go_quiet (fail)
    go_wp2_with (go_at_call 14; refine (in_any _ _ _ _).mono ?_; rintro e w3 ⟨rfl, rfl⟩)
    go_ret
    refine ⟨rfl, ?_⟩
    clear hs_hb1 hs_hb2 hc_hb1 hf_hb1 hc_hb2 hf_hb2
    repeat' (with_reducible first | exact Below.refl _ _ | refine Below.setCell ?_ ?_ _ | refine Below.alloc ?_ ?_ _ | refine below_drewN ?_ _ | refine Below.drew ?_ | refine Below.trans ?_ (Below.mono hb2 ?_) | refine Below.trans ?_ (Below.mono hb1 ?_))
    all_goals first | omega | (simp; done) | (simp; omega)
  cases i5 : inB pw 1 31680
  · go_enter Try.func3, Try.ntmps3
    go_wp2_with fail
    refine (place_ok _ _ _ _ _ _ _ (by omega) (by omega) (by omega) (by omega) (by omega) (by omega) (by omega) (by omega)).mono ?_
    rintro e w1 ⟨rfl, hb1⟩
    rw [show placed 200 100 0 0 100 100 = .tuple #[.agg #[.int .i64 0, .int .i64 25, .int .i64 100, .int .i64 75], .int .i64 0] from rfl]
    obtain ⟨hc_hb1, hf_hb1⟩ := bcell hb1
    have hs_hb1 := (hb1).size
    simp at hs_hb1
    have z_a1 : w.heap.size < w1.heap.size := by omega
    have zk_a1 : ∀ k, w.heap.size < w1.heap.size + k := fun k => by omega
    go_wp2_with fail
    refine (place_bad _ _ _ _ _ _ _ H.out).mono ?_
    rintro e w2 ⟨rfl, hb2⟩
    obtain ⟨hc_hb2, hf_hb2⟩ := bcell hb2
    have hs_hb2 := (hb2).size
    simp at hs_hb2
    have z_a2 : w.heap.size < w2.heap.size := by omega
    have zk_a2 : ∀ k, w.heap.size < w2.heap.size + k := fun k => by omega
    go_wp2_with fail
    go_quiet (fail)
    go_wp2_with (go_at_call 14; refine (in_any _ _ _ _).mono ?_; rintro e w3 ⟨rfl, rfl⟩)
    go_ret
    refine ⟨rfl, ?_⟩
    clear hs_hb1 hs_hb2 hc_hb1 hf_hb1 hc_hb2 hf_hb2
    repeat' (with_reducible first | exact Below.refl _ _ | refine Below.setCell ?_ ?_ _ | refine Below.alloc ?_ ?_ _ | refine below_drewN ?_ _ | refine Below.drew ?_ | refine Below.trans ?_ (Below.mono hb2 ?_) | refine Below.trans ?_ (Below.mono hb1 ?_))
    all_goals first | omega | (simp; done) | (simp; omega)
  cases i6 : inB ph 1 31680
  · go_enter Try.func3, Try.ntmps3
    go_wp2_with fail
    refine (place_ok _ _ _ _ _ _ _ (by omega) (by omega) (by omega) (by omega) (by omega) (by omega) (by omega) (by omega)).mono ?_
    rintro e w1 ⟨rfl, hb1⟩
    rw [show placed 200 100 0 0 100 100 = .tuple #[.agg #[.int .i64 0, .int .i64 25, .int .i64 100, .int .i64 75], .int .i64 0] from rfl]
    obtain ⟨hc_hb1, hf_hb1⟩ := bcell hb1
    have hs_hb1 := (hb1).size
    simp at hs_hb1
    have z_a1 : w.heap.size < w1.heap.size := by omega
    have zk_a1 : ∀ k, w.heap.size < w1.heap.size + k := fun k => by omega
    go_wp2_with fail
    refine (place_bad _ _ _ _ _ _ _ H.out).mono ?_
    rintro e w2 ⟨rfl, hb2⟩
    obtain ⟨hc_hb2, hf_hb2⟩ := bcell hb2
    have hs_hb2 := (hb2).size
    simp at hs_hb2
    have z_a2 : w.heap.size < w2.heap.size := by omega
    have zk_a2 : ∀ k, w.heap.size < w2.heap.size + k := fun k => by omega
    go_wp2_with fail
    go_quiet (fail)
    go_wp2_with (go_at_call 14; refine (in_any _ _ _ _).mono ?_; rintro e w3 ⟨rfl, rfl⟩)
    go_ret
    refine ⟨rfl, ?_⟩
    clear hs_hb1 hs_hb2 hc_hb1 hf_hb1 hc_hb2 hf_hb2
    repeat' (with_reducible first | exact Below.refl _ _ | refine Below.setCell ?_ ?_ _ | refine Below.alloc ?_ ?_ _ | refine below_drewN ?_ _ | refine Below.drew ?_ | refine Below.trans ?_ (Below.mono hb2 ?_) | refine Below.trans ?_ (Below.mono hb1 ?_))
    all_goals first | omega | (simp; done) | (simp; omega)
  exact absurd ⟨inB_true.1 i1, inB_true.1 i2, inB_true.1 i3, inB_true.1 i4, inB_true.1 i5, inB_true.1 i6⟩ H.out

set_option maxHeartbeats 1000000 in
theorem law_order (pw ph x0 y0 x1 y1 : Int) (w : World) (h1 : 0 ≤ x0 ∧ x0 ≤ 31680) (h2 : 0 ≤ y0 ∧ y0 ≤ 31680) (h3 : 0 ≤ x1 ∧ x1 ≤ 31680) (h4 : 0 ≤ y1 ∧ y1 ≤ 31680) (h5 : 1 ≤ pw ∧ pw ≤ 31680) (h6 : 1 ≤ ph ∧ ph ≤ 31680)
   (h7 : ¬ (1 ≤ x1 - x0 ∧ 1 ≤ y1 - y0)) :
   Calls Try.prog 3 #[.int .i64 pw, .int .i64 ph, .agg #[.int .i64 x0, .int .i64 y0, .int .i64 x1, .int .i64 y1]] w fun e w' => e = .returned (.bool true) ∧ Below w.heap.size w w' := by
  have H := Lib.hid h7
  have i1 := inB_true.2 h1
  have i2 := inB_true.2 h2
  have i3 := inB_true.2 h3
  have i4 := inB_true.2 h4
  have i5 := inB_true.2 h5
  have i6 := inB_true.2 h6
  clear h7
  by_cases c : x1 - x0 < 1
  · go_enter Try.func3, Try.ntmps3
    go_wp2_with fail
    refine (place_ok _ _ _ _ _ _ _ (by omega) (by omega) (by omega) (by omega) (by omega) (by omega) (by omega) (by omega)).mono ?_
    rintro e w1 ⟨rfl, hb1⟩
    rw [show placed 200 100 0 0 100 100 = .tuple #[.agg #[.int .i64 0, .int .i64 25, .int .i64 100, .int .i64 75], .int .i64 0] from rfl]
    obtain ⟨hc_hb1, hf_hb1⟩ := bcell hb1
    have hs_hb1 := (hb1).size
    simp at hs_hb1
    have z_a1 : w.heap.size < w1.heap.size := by omega
    have zk_a1 : ∀ k, w.heap.size < w1.heap.size + k := fun k => by omega
    go_wp2_with fail
    refine (place_order _ _ _ _ _ _ _ h1 h2 h3 h4 h5 h6 H.out).mono ?_
    rintro e w2 ⟨rfl, hb2⟩
    obtain ⟨hc_hb2, hf_hb2⟩ := bcell hb2
    have hs_hb2 := (hb2).size
    simp at hs_hb2
    have z_a2 : w.heap.size < w2.heap.size := by omega
    have zk_a2 : ∀ k, w.heap.size < w2.heap.size + k := fun k => by omega
    go_wp2_with fail
    go_quiet (fail)
    go_wp2_with (go_at_call 14; refine (in_any _ _ _ _).mono ?_; rintro e w3 ⟨rfl, rfl⟩)
    go_ret
    refine ⟨rfl, ?_⟩
    clear hs_hb1 hs_hb2 hc_hb1 hf_hb1 hc_hb2 hf_hb2
    repeat' (with_reducible first | exact Below.refl _ _ | refine Below.setCell ?_ ?_ _ | refine Below.alloc ?_ ?_ _ | refine below_drewN ?_ _ | refine Below.drew ?_ | refine Below.trans ?_ (Below.mono hb2 ?_) | refine Below.trans ?_ (Below.mono hb1 ?_))
    all_goals first | omega | (simp; done) | (simp; omega)
  · have c' : y1 - y0 < 1 := by have := H.out; omega
    go_enter Try.func3, Try.ntmps3
    go_wp2_with fail
    refine (place_ok _ _ _ _ _ _ _ (by omega) (by omega) (by omega) (by omega) (by omega) (by omega) (by omega) (by omega)).mono ?_
    rintro e w1 ⟨rfl, hb1⟩
    rw [show placed 200 100 0 0 100 100 = .tuple #[.agg #[.int .i64 0, .int .i64 25, .int .i64 100, .int .i64 75], .int .i64 0] from rfl]
    obtain ⟨hc_hb1, hf_hb1⟩ := bcell hb1
    have hs_hb1 := (hb1).size
    simp at hs_hb1
    have z_a1 : w.heap.size < w1.heap.size := by omega
    have zk_a1 : ∀ k, w.heap.size < w1.heap.size + k := fun k => by omega
    go_wp2_with fail
    refine (place_order _ _ _ _ _ _ _ h1 h2 h3 h4 h5 h6 H.out).mono ?_
    rintro e w2 ⟨rfl, hb2⟩
    obtain ⟨hc_hb2, hf_hb2⟩ := bcell hb2
    have hs_hb2 := (hb2).size
    simp at hs_hb2
    have z_a2 : w.heap.size < w2.heap.size := by omega
    have zk_a2 : ∀ k, w.heap.size < w2.heap.size + k := fun k => by omega
    go_wp2_with fail
    go_quiet (fail)
    go_wp2_with (go_at_call 14; refine (in_any _ _ _ _).mono ?_; rintro e w3 ⟨rfl, rfl⟩)
    go_ret
    refine ⟨rfl, ?_⟩
    clear hs_hb1 hs_hb2 hc_hb1 hf_hb1 hc_hb2 hf_hb2
    repeat' (with_reducible first | exact Below.refl _ _ | refine Below.setCell ?_ ?_ _ | refine Below.alloc ?_ ?_ _ | refine below_drewN ?_ _ | refine Below.drew ?_ | refine Below.trans ?_ (Below.mono hb2 ?_) | refine Below.trans ?_ (Below.mono hb1 ?_))
    all_goals first | omega | (simp; done) | (simp; omega)

set_option maxHeartbeats 2000000 in
theorem law_ok (pw ph x0 y0 x1 y1 : Int) (w : World) (h1 : 0 ≤ x0 ∧ x0 ≤ 31680) (h2 : 0 ≤ y0 ∧ y0 ≤ 31680) (h3 : 0 ≤ x1 ∧ x1 ≤ 31680) (h4 : 0 ≤ y1 ∧ y1 ≤ 31680) (h5 : 1 ≤ pw ∧ pw ≤ 31680) (h6 : 1 ≤ ph ∧ ph ≤ 31680)
   (h7 : 1 ≤ x1 - x0) (h8 : 1 ≤ y1 - y0) :
   Calls Try.prog 3 #[.int .i64 pw, .int .i64 ph, .agg #[.int .i64 x0, .int .i64 y0, .int .i64 x1, .int .i64 y1]] w fun e w' => e = .returned (.bool true) ∧ Below w.heap.size w w' := by
  have m1 := mulb (a := y1 - y0) (b := pw) (by omega) (by omega)
  have m2 := mulb (a := x1 - x0) (b := ph) (by omega) (by omega)
  have m3 := mulb (a := pw) (b := y1 - y0) (by omega) (by omega)
  have m4 := mulb (a := pw) (b := x1 - x0) (by omega) (by omega)
  have m5 := mulb (a := ph) (b := y1 - y0) (by omega) (by omega)
  have m6 := mulb (a := ph) (b := x1 - x0) (by omega) (by omega)
  have q1 := divb m3 h6.1
  have q2 := divb m6 h5.1
  have i1 := inB_true.2 h1
  have i2 := inB_true.2 h2
  have i3 := inB_true.2 h3
  have i4 := inB_true.2 h4
  have i5 := inB_true.2 h5
  have i6 := inB_true.2 h6
  have hmax : ∀ x y : Int, (if x < y then y else x) = max x y := fun x y => by omega
  by_cases c1 : x1 - x0 < pw
  · by_cases c2 : (y1 - y0) * pw < (x1 - x0) * ph
    · have d1 := way1 h5.1 h6.1 h7 c2
      have s1 : Hid (fitA pw ph (x1 - x0) (y1 - y0) = max (pw * (y1 - y0) / ph) 1) := by show _ = _; unfold fitA; rw [if_pos (.inl c1), if_neg (by omega)]
      have s2 : Hid (fitB pw ph (x1 - x0) (y1 - y0) = max (y1 - y0) 1) := by show _ = _; unfold fitB; rw [if_pos (.inl c1), if_neg (by omega)]
      go_enter Try.func3, Try.ntmps3
      go_wp2_with fail
      refine (place_ok _ _ _ _ _ _ _ (by omega) (by omega) (by omega) (by omega) (by omega) (by omega) (by omega) (by omega)).mono ?_
      rintro e w1 ⟨rfl, hb1⟩
      rw [show placed 200 100 0 0 100 100 = .tuple #[.agg #[.int .i64 0, .int .i64 25, .int .i64 100, .int .i64 75], .int .i64 0] from rfl]
      obtain ⟨hc_hb1, hf_hb1⟩ := bcell hb1
      have hs_hb1 := (hb1).size
      simp at hs_hb1
      have z_a1 : w.heap.size < w1.heap.size := by omega
      have zk_a1 : ∀ k, w.heap.size < w1.heap.size + k := fun k => by omega
      go_wp2_with fail
      refine (place_ok _ _ _ _ _ _ _ h1 h2 h3 h4 h5 h6 h7 h8).mono ?_
      unfold placed
      rw [s1.out, s2.out]
      rintro e w2 ⟨rfl, hb2⟩
      obtain ⟨hc_hb2, hf_hb2⟩ := bcell hb2
      have hs_hb2 := (hb2).size
      simp at hs_hb2
      have z_a2 : w.heap.size < w2.heap.size := by omega
      have zk_a2 : ∀ k, w.heap.size < w2.heap.size + k := fun k => by omega
      go_wp2_with fail
      go_quiet (fail)
      go_wp2_with (go_at_call 14; refine (in_any _ _ _ _).mono ?_; rintro e w3 ⟨rfl, rfl⟩)
      try any_goals (go_quiet (fail); go_wp2)
      try any_goals (go_quiet (fail); go_wp2)
      go_ret
      refine ⟨rfl, ?_⟩
      clear hs_hb1 hs_hb2 hc_hb1 hf_hb1 hc_hb2 hf_hb2
      repeat' (with_reducible first | exact Below.refl _ _ | refine Below.setCell ?_ ?_ _ | refine Below.alloc ?_ ?_ _ | refine below_drewN ?_ _ | refine Below.drew ?_ | refine Below.trans ?_ (Below.mono hb2 ?_) | refine Below.trans ?_ (Below.mono hb1 ?_))
      all_goals first | omega | (simp; done) | (simp; omega)
    · have d1 := way2 (W := x1 - x0) h5.1 h6.1 h8 (by omega)
      have s1 : Hid (fitA pw ph (x1 - x0) (y1 - y0) = max (x1 - x0) 1) := by show _ = _; unfold fitA; rw [if_pos (.inl c1), if_pos (by omega)]
      have s2 : Hid (fitB pw ph (x1 - x0) (y1 - y0) = max (ph * (x1 - x0) / pw) 1) := by show _ = _; unfold fitB; rw [if_pos (.inl c1), if_pos (by omega)]
      go_enter Try.func3, Try.ntmps3
      go_wp2_with fail
      refine (place_ok _ _ _ _ _ _ _ (by omega) (by omega) (by omega) (by omega) (by omega) (by omega) (by omega) (by omega)).mono ?_
      rintro e w1 ⟨rfl, hb1⟩
      rw [show placed 200 100 0 0 100 100 = .tuple #[.agg #[.int .i64 0, .int .i64 25, .int .i64 100, .int .i64 75], .int .i64 0] from rfl]
      obtain ⟨hc_hb1, hf_hb1⟩ := bcell hb1
      have hs_hb1 := (hb1).size
      simp at hs_hb1
      have z_a1 : w.heap.size < w1.heap.size := by omega
      have zk_a1 : ∀ k, w.heap.size < w1.heap.size + k := fun k => by omega
      go_wp2_with fail
      refine (place_ok _ _ _ _ _ _ _ h1 h2 h3 h4 h5 h6 h7 h8).mono ?_
      unfold placed
      rw [s1.out, s2.out]
      rintro e w2 ⟨rfl, hb2⟩
      obtain ⟨hc_hb2, hf_hb2⟩ := bcell hb2
      have hs_hb2 := (hb2).size
      simp at hs_hb2
      have z_a2 : w.heap.size < w2.heap.size := by omega
      have zk_a2 : ∀ k, w.heap.size < w2.heap.size + k := fun k => by omega
      go_wp2_with fail
      go_quiet (fail)
      go_wp2_with (go_at_call 14; refine (in_any _ _ _ _).mono ?_; rintro e w3 ⟨rfl, rfl⟩)
      try any_goals (go_quiet (fail); go_wp2)
      try any_goals (go_quiet (fail); go_wp2)
      go_ret
      refine ⟨rfl, ?_⟩
      clear hs_hb1 hs_hb2 hc_hb1 hf_hb1 hc_hb2 hf_hb2
      repeat' (with_reducible first | exact Below.refl _ _ | refine Below.setCell ?_ ?_ _ | refine Below.alloc ?_ ?_ _ | refine below_drewN ?_ _ | refine Below.drew ?_ | refine Below.trans ?_ (Below.mono hb2 ?_) | refine Below.trans ?_ (Below.mono hb1 ?_))
      all_goals first | omega | (simp; done) | (simp; omega)
  · by_cases c2 : y1 - y0 < ph
    · have d1 := way3 h5.1 h6.1 h8 c2
      have c3 := cross h5.1 h8 (Int.not_lt.1 c1) c2
      have s1 : Hid (fitA pw ph (x1 - x0) (y1 - y0) = max (pw * (y1 - y0) / ph) 1) := by show _ = _; unfold fitA; rw [if_pos (.inr c2), if_neg c3]
      have s2 : Hid (fitB pw ph (x1 - x0) (y1 - y0) = max (y1 - y0) 1) := by show _ = _; unfold fitB; rw [if_pos (.inr c2), if_neg c3]
      go_enter Try.func3, Try.ntmps3
      go_wp2_with fail
      refine (place_ok _ _ _ _ _ _ _ (by omega) (by omega) (by omega) (by omega) (by omega) (by omega) (by omega) (by omega)).mono ?_
      rintro e w1 ⟨rfl, hb1⟩
      rw [show placed 200 100 0 0 100 100 = .tuple #[.agg #[.int .i64 0, .int .i64 25, .int .i64 100, .int .i64 75], .int .i64 0] from rfl]
      obtain ⟨hc_hb1, hf_hb1⟩ := bcell hb1
      have hs_hb1 := (hb1).size
      simp at hs_hb1
      have z_a1 : w.heap.size < w1.heap.size := by omega
      have zk_a1 : ∀ k, w.heap.size < w1.heap.size + k := fun k => by omega
      go_wp2_with fail
      refine (place_ok _ _ _ _ _ _ _ h1 h2 h3 h4 h5 h6 h7 h8).mono ?_
      unfold placed
      rw [s1.out, s2.out]
      rintro e w2 ⟨rfl, hb2⟩
      obtain ⟨hc_hb2, hf_hb2⟩ := bcell hb2
      have hs_hb2 := (hb2).size
      simp at hs_hb2
      have z_a2 : w.heap.size < w2.heap.size := by omega
      have zk_a2 : ∀ k, w.heap.size < w2.heap.size + k := fun k => by omega
      go_wp2_with fail
      go_quiet (fail)
      go_wp2_with (go_at_call 14; refine (in_any _ _ _ _).mono ?_; rintro e w3 ⟨rfl, rfl⟩)
      try any_goals (go_quiet (fail); go_wp2)
      try any_goals (go_quiet (fail); go_wp2)
      go_ret
      refine ⟨rfl, ?_⟩
      clear hs_hb1 hs_hb2 hc_hb1 hf_hb1 hc_hb2 hf_hb2
      repeat' (with_reducible first | exact Below.refl _ _ | refine Below.setCell ?_ ?_ _ | refine Below.alloc ?_ ?_ _ | refine below_drewN ?_ _ | refine Below.drew ?_ | refine Below.trans ?_ (Below.mono hb2 ?_) | refine Below.trans ?_ (Below.mono hb1 ?_))
      all_goals first | omega | (simp; done) | (simp; omega)
    · have s1 : Hid (fitA pw ph (x1 - x0) (y1 - y0) = max pw 1) := by show _ = _; unfold fitA; rw [if_neg (by omega)]
      have s2 : Hid (fitB pw ph (x1 - x0) (y1 - y0) = max ph 1) := by show _ = _; unfold fitB; rw [if_neg (by omega)]
      go_enter Try.func3, Try.ntmps3
      go_wp2_with fail
      refine (place_ok _ _ _ _ _ _ _ (by omega) (by omega) (by omega) (by omega) (by omega) (by omega) (by omega) (by omega)).mono ?_
      rintro e w1 ⟨rfl, hb1⟩
      rw [show placed 200 100 0 0 100 100 = .tuple #[.agg #[.int .i64 0, .int .i64 25, .int .i64 100, .int .i64 75], .int .i64 0] from rfl]
      obtain ⟨hc_hb1, hf_hb1⟩ := bcell hb1
      have hs_hb1 := (hb1).size
      simp at hs_hb1
      have z_a1 : w.heap.size < w1.heap.size := by omega
      have zk_a1 : ∀ k, w.heap.size < w1.heap.size + k := fun k => by omega
      go_wp2_with fail
      refine (place_ok _ _ _ _ _ _ _ h1 h2 h3 h4 h5 h6 h7 h8).mono ?_
      unfold placed
      rw [s1.out, s2.out]
      rintro e w2 ⟨rfl, hb2⟩
      obtain ⟨hc_hb2, hf_hb2⟩ := bcell hb2
      have hs_hb2 := (hb2).size
      simp at hs_hb2
      have z_a2 : w.heap.size < w2.heap.size := by omega
      have zk_a2 : ∀ k, w.heap.size < w2.heap.size + k := fun k => by omega
      go_wp2_with fail
      go_quiet (fail)
      go_wp2_with (go_at_call 14; refine (in_any _ _ _ _).mono ?_; rintro e w3 ⟨rfl, rfl⟩)
      try any_goals (go_quiet (fail); go_wp2)
      try any_goals (go_quiet (fail); go_wp2)
      go_ret
      refine ⟨rfl, ?_⟩
      clear hs_hb1 hs_hb2 hc_hb1 hf_hb1 hc_hb2 hf_hb2
      repeat' (with_reducible first | exact Below.refl _ _ | refine Below.setCell ?_ ?_ _ | refine Below.alloc ?_ ?_ _ | refine below_drewN ?_ _ | refine Below.drew ?_ | refine Below.trans ?_ (Below.mono hb2 ?_) | refine Below.trans ?_ (Below.mono hb1 ?_))
      all_goals first | omega | (simp; done) | (simp; omega)
end Go.Proofs.Ytpbnkkeplhgepaa.PP
