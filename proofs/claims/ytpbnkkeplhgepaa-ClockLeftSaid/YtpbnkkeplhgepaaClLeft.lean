
/-
  clock.Left.
-/
import Derived.Test.YtpbnkkeplhgepaaClReport
import Derived.Test.YtpbnkkeplhgepaaLfPlain
import Derived.BigQuiet
import Derived.BigRegion
namespace Go.Proofs.Ytpbnkkeplhgepaa.CL
open Go.RowKit Go.Law Go.Law.Cl
set_option linter.unusedVariables false
set_option linter.unusedSimpArgs false
set_option maxRecDepth 100000
def repE (n : Nat) (E : Nat → Nat → Int) (T : Int) : Int := if clE n E ≠ 0 then clE n E else if T < 0 ∨ 10000000 < T then 2 else 0
theorem repE_zero {n : Nat} {E : Nat → Nat → Int} {T : Int} (h : repE n E T = 0) : clE n E = 0 ∧ 0 ≤ T ∧ T ≤ 10000000 := by
  unfold repE at h
  by_cases h1 : clE n E = 0
  · rw [if_neg (by simpa using h1)] at h
    by_cases h2 : T < 0 ∨ 10000000 < T
    · rw [if_pos h2] at h; omega
    · exact ⟨h1, by omega, by omega⟩
  · rw [if_pos h1] at h; exact absurd h h1
theorem report_err (n : Nat) (E : Nat → Nat → Int) (T : Int) (a : Option Addr) (c : Nat) (w : World) (ha : StrF w a n 3 E) (hn : n ≤ 1000000000000000000) (he : repE n E T ≠ 0) :
    Calls Try.prog 34 #[.slice a n c, .int .i64 T] w fun e w' => e = .returned (.tuple #[.agg #[.bool false, .int .i64 0, .int .i64 0, .slice none 0 0], .int .i64 (repE n E T)]) ∧ Below w.heap.size w w' := by
  unfold repE at *
  by_cases h1 : clE n E = 0
  · rw [if_neg (by simpa using h1)] at he ⊢
    by_cases h2 : T < 0 ∨ 10000000 < T
    · rw [if_pos h2]
      exact report_range n E T a c w ha hn h1 h2
    · rw [if_neg h2] at he; exact absurd rfl he
  · rw [if_pos h1]
    exact report_bad n E T a c w ha hn h1
set_option maxHeartbeats 4000000 in
theorem left_err (n : Nat) (E : Nat → Nat → Int) (T : Int) (a : Option Addr) (c : Nat) (b : Option Addr) (m d : Nat) (w : World) (ha : StrF w a n 3 E) (hn : n ≤ 1000000000000000000) (he : repE n E T ≠ 0) :
    Calls Try.prog 37 #[.slice a n c, .int .i64 T, .slice b m d] w fun e w' => e = .returned (.tuple #[.int .i64 0, .int .i64 0, .int .i64 (repE n E T)]) ∧ Below w.heap.size w w' := by
  have hrep := report_err n E T a c w ha hn he
  obtain ⟨V, hV⟩ : ∃ V, V = repE n E T := ⟨_, rfl⟩
  rw [← hV] at hrep he ⊢
  have v2 : (V != 0) = true := by simpa using he
  clear hV he
  go_enter Try.func37, Try.ntmps37
  go_wp2_with fail
  refine hrep.mono ?_
  rintro e w1 ⟨rfl, hb1⟩
  have hs1 := hb1.size
  clear hrep
  go_wp2_with fail
  go_ret3
  refine ⟨rfl, ?_⟩
  repeat' (with_reducible first | exact Below.refl _ _ | assumption | refine Below.setCell ?_ ?_ _ | refine Below.alloc ?_ ?_ _ | refine below_drewN ?_ _ | refine Below.drew ?_)
  all_goals first | omega | (simp; done) | (simp; omega)
set_option maxHeartbeats 4000000 in
theorem left_large (n : Nat) (E : Nat → Nat → Int) (T : Int) (a : Option Addr) (c : Nat) (b : Option Addr) (m d : Nat) (w : World) (ha : StrF w a n 3 E) (hnil : a = none → n = 0 ∧ c = 0) (he : repE n E T = 0) (hm : 1000 < m) :
    Calls Try.prog 37 #[.slice a n c, .int .i64 T, .slice b m d] w fun e w' => e = .returned (.tuple #[.int .i64 0, .int .i64 0, .int .i64 3]) ∧ Below w.heap.size w w' := by
  obtain ⟨hcl, hT1, hT2⟩ := repE_zero he
  have hrep := report_ok n E T a c w ha hnil hcl ⟨hT1, hT2⟩
  have hgood := fin_good hcl hT1
  obtain ⟨s, hs⟩ : ∃ s, s = finS n E T := ⟨_, rfl⟩
  rw [← hs] at hrep hgood
  try rw [← hs]
  clear hs he hcl
  go_enter Try.func37, Try.ntmps37
  go_wp2_with fail
  refine hrep.mono ?_
  rintro e w1 ⟨hb1, v, rfl, hrow⟩
  obtain ⟨av, cv, rfl, _, _⟩ := hrow.slice
  have hs1 := hb1.size
  obtain ⟨ht1, ht2⟩ := hgood.tot
  have hsl := hgood.sl_nonneg
  clear hrep hrow hgood
  go_wp2_with fail
  go_ret3
  refine ⟨rfl, ?_⟩
  repeat' (with_reducible first | exact Below.refl _ _ | assumption | refine Below.setCell ?_ ?_ _ | refine Below.alloc ?_ ?_ _ | refine below_drewN ?_ _ | refine Below.drew ?_)
  all_goals first | omega | (simp; done) | (simp; omega)
set_option maxHeartbeats 8000000 in
theorem left_any (n : Nat) (E : Nat → Nat → Int) (T : Int) (a : Option Addr) (c : Nat) (b : Option Addr) (m d : Nat) (p : Nat → Int) (w : World) (ha : StrF w a n 3 E) (hnil : a = none → n = 0 ∧ c = 0) (he : repE n E T = 0) (hm : m ≤ 1000) (hp : IntsF w b m p) :
    Calls Try.prog 37 #[.slice a n c, .int .i64 T, .slice b m d] w fun e w' => (okP m p → e = .returned (.tuple #[.int .i64 (sumP p m - (finS n E T).tot), .int .i64 (max ((finS n E T).tot - dueP p (finS n E T).sl m) 0), .int .i64 0])) ∧ (¬ okP m p → e = .returned (.tuple #[.int .i64 0, .int .i64 0, .int .i64 2])) ∧ Below w.heap.size w w' := by
  have hmax : ∀ x y : Int, (if x < y then y else x) = max x y := fun x y => by omega
  obtain ⟨hcl, hT1, hT2⟩ := repE_zero he
  have hrep := report_ok n E T a c w ha hnil hcl ⟨hT1, hT2⟩
  have hgood := fin_good hcl hT1
  obtain ⟨s, hs⟩ : ∃ s, s = finS n E T := ⟨_, rfl⟩
  rw [← hs] at hrep hgood
  try rw [← hs]
  clear hs he hcl
  go_enter Try.func37, Try.ntmps37
  go_wp2_with fail
  refine hrep.mono ?_
  rintro e w1 ⟨hb1, v, rfl, hrow⟩
  obtain ⟨av, cv, rfl, _, _⟩ := hrow.slice
  have hs1 := hb1.size
  obtain ⟨ht1, ht2⟩ := hgood.tot
  have hsl := hgood.sl_nonneg
  clear hrep hrow hgood
  obtain ⟨run, tot, sl, ms, Fs⟩ := s
  try simp only at ht1 ht2 hsl
  obtain ⟨wx, hwx⟩ : ∃ wx, wx = w1.alloc (Obj.cells #[.bool run, .int .i64 tot, .int .i64 sl, .slice av ms cv] 67) := ⟨_, rfl⟩
  have hbel : Below w.heap.size w wx := by rw [hwx]; exact hb1.alloc hs1 _
  have HPL := Lib.hid (hp.below (Nat.le_refl _) hbel)
  have HBL := Lib.hid hbel
  have x1 : wx.cell? ⟨w1.heap.size, 1, none⟩ = some (.int .i64 tot) := by rw [hwx]; simp
  have x2 : wx.cell? ⟨w1.heap.size, 2, none⟩ = some (.int .i64 sl) := by rw [hwx]; simp
  clear hbel hb1 hp
  go_wp2_with fail
  rw [← hwx]
  clear hwx
  go_loopw [11, 12, 30] (fun sv dv ix wr => ∃ k : Nat, ix = .int .i64 k ∧ sv = .int .i64 (sumP p k) ∧ dv = .int .i64 (dueP p (sl - 1) k) ∧ k ≤ m ∧ (∀ i, i < k → 0 ≤ p i ∧ p i ≤ 10000000) ∧ wx = wr) (fun _ _ ix _ => m - (intOf ix).toNat)
  case atStart => exact ⟨0, rfl, rfl, rfl, by omega, fun i hi => by omega, rfl⟩
  case round =>
    obtain ⟨k, rfl, rfl, rfl, hk, hall, rfl⟩ := hrel
    have HALL := Lib.hid hall
    obtain ⟨hS1, hS2⟩ := sumP_bd hall
    obtain ⟨hD1, hD2⟩ := dueP_bd (x := sl - 1) hall
    clear hall
    by_cases hkm : k < m
    · obtain ⟨b3, off, rfl, hcell⟩ := HPL.out (by omega)
      have d1 := hcell k hkm
      clear hcell
      by_cases hr : 0 ≤ p k ∧ p k ≤ 10000000
      · obtain ⟨hr1, hr2⟩ := hr
        by_cases hx : (k : Int) + 1 < sl
        · have HD := Lib.hid (dueP_step (p := p) (x := sl - 1) (k := k) (by omega))
          go_wp2_with fail
          go_roundw
          case rel => exact ⟨k + 1, by go_num, rfl, by rw [HD.out], by omega, fun i hi => by rcases Nat.lt_or_ge i k with h | h; exact HALL.out i h; rw [show i = k by omega]; exact ⟨hr1, hr2⟩, trivial⟩
          case measure => simp [intOf]; omega
        · have HD := Lib.hid (dueP_stay (p := p) (x := sl - 1) (k := k) (by omega))
          go_wp2_with fail
          go_roundw
          case rel => exact ⟨k + 1, by go_num, rfl, by rw [HD.out], by omega, fun i hi => by rcases Nat.lt_or_ge i k with h | h; exact HALL.out i h; rw [show i = k by omega]; exact ⟨hr1, hr2⟩, trivial⟩
          case measure => simp [intOf]; omega
      · have HR := Lib.hid hr
        have hr2 : p k < 0 ∨ 10000000 < p k := by omega
        clear hr
        rcases hr2 with hr2 | hr2
        · go_wp2_with fail
          go_ret3
          exact ⟨fun h => absurd (h k hkm) HR.out, fun _ => rfl, HBL.out⟩
        · have hr3 : ¬ p k < 0 := by omega
          go_wp2_with fail
          go_ret3
          exact ⟨fun h => absurd (h k hkm) HR.out, fun _ => rfl, HBL.out⟩
    · obtain rfl : m = k := by omega
      by_cases x0 : 0 < sl
      · by_cases xm : sl ≤ (m : Int)
        · obtain ⟨q, rfl⟩ : ∃ q : Nat, sl = (q : Int) + 1 := ⟨(sl - 1).toNat, by omega⟩
          have hqm : q < m := by omega
          obtain ⟨b3, off, rfl, hcell⟩ := HPL.out (by omega)
          have d1 := hcell q hqm
          obtain ⟨hr1, hr2⟩ := HALL.out q hqm
          have HD := Lib.hid (dueP_next (p := p) m hqm)
          have hq1 : ((q : Int) + 1 - 1) = (q : Int) := by omega
          rw [hq1] at hD1 hD2 ⊢
          clear hcell hq1
          go_wp2_with fail
          go_region
          all_goals (try go_wp2_with fail)
          all_goals go_ret3
          all_goals exact ⟨fun _ => by rw [HD.out]; rfl, fun h => absurd HALL.out h, HBL.out.drew⟩
        · have HD := Lib.hid (dueP_far (p := p) (x := sl) (m := m) (by omega))
          go_wp2_with fail
          go_region
          all_goals (try go_wp2_with fail)
          all_goals go_ret3
          all_goals exact ⟨fun _ => by rw [HD.out]; rfl, fun h => absurd HALL.out h, HBL.out.drew⟩
      · have HD := Lib.hid ((dueP_none (p := p) (x := sl - 1) (by omega) m).trans (dueP_none (p := p) (x := sl) (by omega) m).symm)
        go_wp2_with fail
        go_region
        all_goals (try go_wp2_with fail)
        all_goals go_ret3
        all_goals exact ⟨fun _ => by rw [HD.out]; rfl, fun h => absurd HALL.out h, HBL.out.drew⟩
end Go.Proofs.Ytpbnkkeplhgepaa.CL
