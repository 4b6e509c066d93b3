
/-
  ClockLeft returns true for every list of events, every time and every plan: the walk.
-/
import Derived.Test.YtpbnkkeplhgepaaClClocked
import Derived.Test.YtpbnkkeplhgepaaClLeft
import Derived.Test.YtpbnkkeplhgepaaIn
namespace Go.Proofs.Ytpbnkkeplhgepaa.CL
open Go.RowKit Go.Law Go.Law.Cl Ref
set_option linter.unusedVariables false
set_option linter.unusedSimpArgs false
set_option maxRecDepth 100000
set_option maxHeartbeats 4000000 in
theorem lf_err (n : Nat) (E : Nat → Nat → Int) (T : Int) (a : Option Addr) (c : Nat) (b : Option Addr) (m d : Nat) (p : Nat → Int) (w : World) (ha : StrF w a n 3 E) (hn : n ≤ 1000000000000000000) (hp : IntsF w b m p) (hm : m ≤ 1000000000000000000) (he : repE n E T ≠ 0) :
    Calls Try.prog 10 #[.slice a n c, .int .i64 T, .slice b m d] w fun e w' => e = .returned (.bool true) ∧ Below w.heap.size w w' := by
  have hleft := fun w1 (hb : Below w.heap.size w w1) => left_err n E T a c b m d w1 (ha.below (Nat.le_refl _) hb) hn he
  have hrep := fun w1 (hb : Below w.heap.size w w1) => report_err n E T a c w1 (ha.below (Nat.le_refl _) hb) hn he
  obtain ⟨V, hV⟩ : ∃ V, V = repE n E T := ⟨_, rfl⟩
  rw [← hV] at hleft hrep he
  have v1 : (V == 0) = false := by simpa using he
  have v2 : (V != 0) = true := by simpa using he
  have v3 : (V == V) = true := by simp
  have HLF := Lib.hid hleft
  have HRP := Lib.hid hrep
  clear hV he hleft hrep
  go_enter Try.func10, Try.ntmps10
  go_wp2_with fail
  refine (clocked_any _).mono ?_
  rintro e w1 ⟨rfl, hb1⟩
  go_wp2_with fail
  refine (HLF.out _ hb1).mono ?_
  rintro e w2 ⟨rfl, hb2'⟩
  have hb2 := hb1.trans (hb2'.mono hb1.size)
  go_wp2_with fail
  refine (HRP.out _ hb2).mono ?_
  rintro e w3 ⟨rfl, hb3'⟩
  have hb3 := hb2.trans (hb3'.mono hb2.size)
  have hs3 := hb3.size
  obtain ⟨wy, hwy⟩ : ∃ wy, wy = w3.alloc (Obj.cells #[.bool false, .int .i64 0, .int .i64 0, .slice none 0 0] 67) := ⟨_, rfl⟩
  have hbel : Below w.heap.size w wy := by rw [hwy]; exact hb3.alloc hs3 _
  have HPL := Lib.hid (hp.below (Nat.le_refl _) hbel)
  have HBL := Lib.hid hbel
  clear hbel hb1 hb2 hb3 hb2' hb3' HLF HRP hp
  go_wp2_with fail
  rw [← hwy]
  clear hwy
  go_loopw [11, 41] (fun fv ix wr => ∃ k : Nat, fv = .int .i64 (V) ∧ ix = .int .i64 k ∧ k ≤ m ∧ wy = wr) (fun _ ix _ => m - (intOf ix).toNat)
  case atStart => exact ⟨0, rfl, rfl, by omega, rfl⟩
  case round =>
    obtain ⟨k, rfl, rfl, hk, rfl⟩ := hrel
    by_cases hkm : k < m
    · obtain ⟨b3, off, rfl, hcell⟩ := HPL.out (by omega)
      have d1 := hcell k hkm
      clear hcell
      go_wp2_with fail
      go_roundw
      case rel => exact ⟨k + 1, rfl, by go_num, by omega, trivial⟩
      case measure => simp [intOf]; omega
    · obtain rfl : m = k := by omega
      go_wp2_with fail
      go_ret
      exact ⟨rfl, HBL.out⟩
set_option maxHeartbeats 4000000 in
theorem lf_large (n : Nat) (E : Nat → Nat → Int) (T : Int) (a : Option Addr) (c : Nat) (b : Option Addr) (m d : Nat) (p : Nat → Int) (w : World) (ha : StrF w a n 3 E) (hnil : a = none → n = 0 ∧ c = 0) (hp : IntsF w b m p) (hm : m ≤ 1000000000000000000) (he : repE n E T = 0) (hm2 : 1000 < m) :
    Calls Try.prog 10 #[.slice a n c, .int .i64 T, .slice b m d] w fun e w' => e = .returned (.bool true) ∧ Below w.heap.size w w' := by
  obtain ⟨hcl, hT1, hT2⟩ := repE_zero he
  have HA := Lib.hid ha
  have HNIL := Lib.hid hnil
  have HP := Lib.hid hp
  have HE := Lib.hid he
  have hgood := fin_good hcl hT1
  obtain ⟨s, hs⟩ : ∃ s, s = finS n E T := ⟨_, rfl⟩
  rw [← hs] at hgood
  obtain ⟨ht1, ht2⟩ := hgood.tot
  have hsl := hgood.sl_nonneg
  clear hgood ha hnil hp he
  go_enter Try.func10, Try.ntmps10
  go_wp2_with fail
  refine (clocked_any _).mono ?_
  rintro e w1 ⟨rfl, hb1⟩
  go_wp2_with fail
  refine (left_large n E T a c b m d _ (HA.out.below (Nat.le_refl _) hb1) HNIL.out HE.out hm2).mono ?_
  rintro e w2 ⟨rfl, hb2'⟩
  have hb2 := hb1.trans (hb2'.mono hb1.size)
  go_wp2_with fail
  refine (report_ok n E T a c _ (HA.out.below (Nat.le_refl _) hb2) HNIL.out hcl ⟨hT1, hT2⟩).mono ?_
  rintro e w3 ⟨hb3', v, rfl, hrow⟩
  rw [← hs] at hrow ⊢
  obtain ⟨av, cv, rfl, _, _⟩ := hrow.slice
  have hb3 := hb2.trans (hb3'.mono hb2.size)
  have hs3 := hb3.size
  obtain ⟨run, tot, sl, ms, Fs⟩ := s
  try simp only at ht1 ht2 hsl
  obtain ⟨wy, hwy⟩ : ∃ wy, wy = w3.alloc (Obj.cells #[.bool run, .int .i64 tot, .int .i64 sl, .slice av ms cv] 67) := ⟨_, rfl⟩
  have hbel : Below w.heap.size w wy := by rw [hwy]; exact hb3.alloc hs3 _
  have x1 : wy.cell? ⟨w3.heap.size, 1, none⟩ = some (.int .i64 tot) := by rw [hwy]; simp
  have x2 : wy.cell? ⟨w3.heap.size, 2, none⟩ = some (.int .i64 sl) := by rw [hwy]; simp
  have HPL := Lib.hid (HP.out.below (Nat.le_refl _) hbel)
  have HBL := Lib.hid hbel
  clear hbel hb1 hb2 hb3 hb2' hb3' HP HA HNIL hrow hs hcl
  go_wp2_with fail
  rw [← hwy]
  clear hwy
  go_loopw [11, 41] (fun fv ix wr => ∃ k : Nat, fv = .int .i64 (3) ∧ ix = .int .i64 k ∧ k ≤ m ∧ wy = wr) (fun _ ix _ => m - (intOf ix).toNat)
  case atStart => exact ⟨0, rfl, rfl, by omega, rfl⟩
  case round =>
    obtain ⟨k, rfl, rfl, hk, rfl⟩ := hrel
    by_cases hkm : k < m
    · obtain ⟨b3, off, rfl, hcell⟩ := HPL.out (by omega)
      have d1 := hcell k hkm
      clear hcell
      go_wp2_with fail
      go_roundw
      case rel => exact ⟨k + 1, rfl, by go_num, by omega, trivial⟩
      case measure => simp [intOf]; omega
    · obtain rfl : m = k := by omega
      go_wp2_with fail
      go_ret
      exact ⟨rfl, HBL.out⟩
set_option maxHeartbeats 8000000 in
theorem lf_plan (n : Nat) (E : Nat → Nat → Int) (T : Int) (a : Option Addr) (c : Nat) (b : Option Addr) (m d : Nat) (p : Nat → Int) (w : World) (ha : StrF w a n 3 E) (hnil : a = none → n = 0 ∧ c = 0) (hp : IntsF w b m p) (he : repE n E T = 0) (hm : m ≤ 1000) :
    Calls Try.prog 10 #[.slice a n c, .int .i64 T, .slice b m d] w fun e w' => e = .returned (.bool true) ∧ Below w.heap.size w w' := by
  have hmax : ∀ x y : Int, (if x < y then y else x) = max x y := fun x y => by omega
  obtain ⟨hcl, hT1, hT2⟩ := repE_zero he
  have HA := Lib.hid ha
  have HNIL := Lib.hid hnil
  have HP := Lib.hid hp
  have HE := Lib.hid he
  have hgood := fin_good hcl hT1
  obtain ⟨s, hs⟩ : ∃ s, s = finS n E T := ⟨_, rfl⟩
  rw [← hs] at hgood
  obtain ⟨ht1, ht2⟩ := hgood.tot
  have hsl := hgood.sl_nonneg
  clear hgood ha hnil hp he
  go_enter Try.func10, Try.ntmps10
  go_wp2_with fail
  refine (clocked_any _).mono ?_
  rintro e w1 ⟨rfl, hb1⟩
  go_wp2_with fail
  refine (left_any n E T a c b m d p _ (HA.out.below (Nat.le_refl _) hb1) HNIL.out HE.out hm (HP.out.below (Nat.le_refl _) hb1)).mono ?_
  rintro e w2 ⟨hy, hno, hb2'⟩
  rw [← hs] at hy
  by_cases hok : okP m p
  · obtain rfl := hy hok
    have HOK := Lib.hid hok
    clear hy hno hok
    have hb2 := hb1.trans (hb2'.mono hb1.size)
    go_wp2_with fail
    refine (report_ok n E T a c _ (HA.out.below (Nat.le_refl _) hb2) HNIL.out hcl ⟨hT1, hT2⟩).mono ?_
    rintro e w3 ⟨hb3', v, rfl, hrow⟩
    rw [← hs] at hrow ⊢
    obtain ⟨av, cv, rfl, _, _⟩ := hrow.slice
    have hb3 := hb2.trans (hb3'.mono hb2.size)
    have hs3 := hb3.size
    obtain ⟨run, tot, sl, ms, Fs⟩ := s
    try simp only at ht1 ht2 hsl
    obtain ⟨wy, hwy⟩ : ∃ wy, wy = w3.alloc (Obj.cells #[.bool run, .int .i64 tot, .int .i64 sl, .slice av ms cv] 67) := ⟨_, rfl⟩
    have hbel : Below w.heap.size w wy := by rw [hwy]; exact hb3.alloc hs3 _
    have x1 : wy.cell? ⟨w3.heap.size, 1, none⟩ = some (.int .i64 tot) := by rw [hwy]; simp
    have x2 : wy.cell? ⟨w3.heap.size, 2, none⟩ = some (.int .i64 sl) := by rw [hwy]; simp
    have HPL := Lib.hid (HP.out.below (Nat.le_refl _) hbel)
    have HBL := Lib.hid hbel
    clear hbel hb1 hb2 hb3 hb2' hb3' HP HA HNIL hrow hs hcl
    go_wp2_with fail
    rw [← hwy]
    clear hwy
    go_loopw [11, 12, 13, 41] (fun fv sv dv ix wr => ∃ k : Nat, ix = .int .i64 k ∧ k ≤ m ∧ wy = wr ∧ ((fv = .int .i64 0 ∧ sv = .int .i64 (sumP p k) ∧ dv = .int .i64 (dueP p sl k) ∧ ∀ i, i < k → 0 ≤ p i ∧ p i ≤ 10000000) ∨ (fv = .int .i64 2 ∧ ∃ i, i < k ∧ ¬ (0 ≤ p i ∧ p i ≤ 10000000)))) (fun _ _ _ ix _ => m - (intOf ix).toNat)
    case atStart => exact ⟨0, rfl, by omega, rfl, .inl ⟨rfl, rfl, rfl, fun i hi => by omega⟩⟩
    case round =>
      obtain ⟨k, rfl, hk, rfl, hst⟩ := hrel
      have HST := Lib.hid hst
      clear hst
      by_cases hkm : k < m
      · obtain ⟨b3, off, rfl, hcell⟩ := HPL.out (by omega)
        have d1 := hcell k hkm
        clear hcell
        rcases HST.out with ⟨rfl, rfl, rfl, hall⟩ | ⟨rfl, i, hi, hbad⟩
        · have HALL := Lib.hid hall
          obtain ⟨hS1, hS2⟩ := sumP_bd hall
          obtain ⟨hD1, hD2⟩ := dueP_bd (x := sl) hall
          clear hall HST
          cases i1 : inB (p k) 0 10000000
          · have HB := Lib.hid (inB_false.1 i1)
            go_wp2_with (go_at_call 14; refine (in_any _ _ _ _).mono ?_; rintro e w9 ⟨rfl, rfl⟩)
            go_roundw
            case rel => exact ⟨k + 1, by go_num, by omega, trivial, .inr ⟨rfl, k, by omega, HB.out⟩⟩
            case measure => simp [intOf]; omega
          · obtain ⟨hr1, hr2⟩ := inB_true.1 i1
            by_cases hx : (k : Int) < sl
            · have HD := Lib.hid (dueP_step (p := p) hx)
              go_wp2_with (go_at_call 14; refine (in_any _ _ _ _).mono ?_; rintro e w9 ⟨rfl, rfl⟩)
              go_roundw
              case rel => exact ⟨k + 1, by go_num, by omega, trivial, .inl ⟨rfl, rfl, by rw [HD.out], fun i hi => by rcases Nat.lt_or_ge i k with h | h; exact HALL.out i h; rw [show i = k by omega]; exact ⟨hr1, hr2⟩⟩⟩
              case measure => simp [intOf]; omega
            · have HD := Lib.hid (dueP_stay (p := p) hx)
              go_wp2_with (go_at_call 14; refine (in_any _ _ _ _).mono ?_; rintro e w9 ⟨rfl, rfl⟩)
              go_roundw
              case rel => exact ⟨k + 1, by go_num, by omega, trivial, .inl ⟨rfl, rfl, by rw [HD.out], fun i hi => by rcases Nat.lt_or_ge i k with h | h; exact HALL.out i h; rw [show i = k by omega]; exact ⟨hr1, hr2⟩⟩⟩
              case measure => simp [intOf]; omega
        · have HB := Lib.hid hbad
          clear hbad HST
          go_wp2_with fail
          go_roundw
          case rel => exact ⟨k + 1, by go_num, by omega, trivial, .inr ⟨rfl, i, by omega, HB.out⟩⟩
          case measure => simp [intOf]; omega
      · obtain rfl : m = k := by omega
        rcases HST.out with ⟨rfl, rfl, rfl, _⟩ | ⟨rfl, i, hi, hbad⟩
        · obtain ⟨hD1, hD2⟩ := dueP_bd (x := sl) HOK.out
          obtain ⟨M, hM⟩ : ∃ M, M = max (tot - dueP p sl m) 0 := ⟨_, rfl⟩
          have hM2 : max 0 (tot - dueP p sl m) = M := by omega
          rw [← hM]
          obtain ⟨D, hD⟩ : ∃ D, D = dueP p sl m := ⟨_, rfl⟩
          obtain ⟨S, hS⟩ : ∃ S, S = sumP p m := ⟨_, rfl⟩
          rw [← hD] at hM2 hD1 hD2 ⊢
          obtain ⟨hS1, hS2⟩ := sumP_bd HOK.out
          rw [← hS] at hS1 hS2 ⊢
          clear hM hD hS
          by_cases hg : 0 < tot - D
          · have hM3 : M = tot - D := by omega
            have hM4 : (M == tot - D) = true := by simpa using hM3
            clear hM2 hM3 hmax
            go_wp2_with fail
            go_ret
            exact ⟨by first | rfl | simp [hM4], HBL.out⟩
          · obtain rfl : M = 0 := by omega
            clear hM2 hmax
            go_wp2_with fail
            go_ret
            exact ⟨rfl, HBL.out⟩
        · exact absurd (HOK.out i hi) hbad
  · obtain rfl := hno hok
    have HOK := Lib.hid hok
    clear hy hno hok
    have hb2 := hb1.trans (hb2'.mono hb1.size)
    go_wp2_with fail
    refine (report_ok n E T a c _ (HA.out.below (Nat.le_refl _) hb2) HNIL.out hcl ⟨hT1, hT2⟩).mono ?_
    rintro e w3 ⟨hb3', v, rfl, hrow⟩
    rw [← hs] at hrow ⊢
    obtain ⟨av, cv, rfl, _, _⟩ := hrow.slice
    have hb3 := hb2.trans (hb3'.mono hb2.size)
    have hs3 := hb3.size
    obtain ⟨run, tot, sl, ms, Fs⟩ := s
    try simp only at ht1 ht2 hsl
    obtain ⟨wy, hwy⟩ : ∃ wy, wy = w3.alloc (Obj.cells #[.bool run, .int .i64 tot, .int .i64 sl, .slice av ms cv] 67) := ⟨_, rfl⟩
    have hbel : Below w.heap.size w wy := by rw [hwy]; exact hb3.alloc hs3 _
    have x1 : wy.cell? ⟨w3.heap.size, 1, none⟩ = some (.int .i64 tot) := by rw [hwy]; simp
    have x2 : wy.cell? ⟨w3.heap.size, 2, none⟩ = some (.int .i64 sl) := by rw [hwy]; simp
    have HPL := Lib.hid (HP.out.below (Nat.le_refl _) hbel)
    have HBL := Lib.hid hbel
    clear hbel hb1 hb2 hb3 hb2' hb3' HP HA HNIL hrow hs hcl
    go_wp2_with fail
    rw [← hwy]
    clear hwy
    go_loopw [11, 12, 13, 41] (fun fv sv dv ix wr => ∃ k : Nat, ix = .int .i64 k ∧ k ≤ m ∧ wy = wr ∧ ((fv = .int .i64 0 ∧ sv = .int .i64 (sumP p k) ∧ dv = .int .i64 (dueP p sl k) ∧ ∀ i, i < k → 0 ≤ p i ∧ p i ≤ 10000000) ∨ (fv = .int .i64 2 ∧ ∃ i, i < k ∧ ¬ (0 ≤ p i ∧ p i ≤ 10000000)))) (fun _ _ _ ix _ => m - (intOf ix).toNat)
    case atStart => exact ⟨0, rfl, by omega, rfl, .inl ⟨rfl, rfl, rfl, fun i hi => by omega⟩⟩
    case round =>
      obtain ⟨k, rfl, hk, rfl, hst⟩ := hrel
      have HST := Lib.hid hst
      clear hst
      by_cases hkm : k < m
      · obtain ⟨b3, off, rfl, hcell⟩ := HPL.out (by omega)
        have d1 := hcell k hkm
        clear hcell
        rcases HST.out with ⟨rfl, rfl, rfl, hall⟩ | ⟨rfl, i, hi, hbad⟩
        · have HALL := Lib.hid hall
          obtain ⟨hS1, hS2⟩ := sumP_bd hall
          obtain ⟨hD1, hD2⟩ := dueP_bd (x := sl) hall
          clear hall HST
          cases i1 : inB (p k) 0 10000000
          · have HB := Lib.hid (inB_false.1 i1)
            go_wp2_with (go_at_call 14; refine (in_any _ _ _ _).mono ?_; rintro e w9 ⟨rfl, rfl⟩)
            go_roundw
            case rel => exact ⟨k + 1, by go_num, by omega, trivial, .inr ⟨rfl, k, by omega, HB.out⟩⟩
            case measure => simp [intOf]; omega
          · obtain ⟨hr1, hr2⟩ := inB_true.1 i1
            by_cases hx : (k : Int) < sl
            · have HD := Lib.hid (dueP_step (p := p) hx)
              go_wp2_with (go_at_call 14; refine (in_any _ _ _ _).mono ?_; rintro e w9 ⟨rfl, rfl⟩)
              go_roundw
              case rel => exact ⟨k + 1, by go_num, by omega, trivial, .inl ⟨rfl, rfl, by rw [HD.out], fun i hi => by rcases Nat.lt_or_ge i k with h | h; exact HALL.out i h; rw [show i = k by omega]; exact ⟨hr1, hr2⟩⟩⟩
              case measure => simp [intOf]; omega
            · have HD := Lib.hid (dueP_stay (p := p) hx)
              go_wp2_with (go_at_call 14; refine (in_any _ _ _ _).mono ?_; rintro e w9 ⟨rfl, rfl⟩)
              go_roundw
              case rel => exact ⟨k + 1, by go_num, by omega, trivial, .inl ⟨rfl, rfl, by rw [HD.out], fun i hi => by rcases Nat.lt_or_ge i k with h | h; exact HALL.out i h; rw [show i = k by omega]; exact ⟨hr1, hr2⟩⟩⟩
              case measure => simp [intOf]; omega
        · have HB := Lib.hid hbad
          clear hbad HST
          go_wp2_with fail
          go_roundw
          case rel => exact ⟨k + 1, by go_num, by omega, trivial, .inr ⟨rfl, i, by omega, HB.out⟩⟩
          case measure => simp [intOf]; omega
      · obtain rfl : m = k := by omega
        rcases HST.out with ⟨rfl, rfl, rfl, h3⟩ | ⟨rfl, i, hi, hbad⟩
        · exact absurd h3 HOK.out
        · clear hbad
          go_wp2_with fail
          go_ret
          exact ⟨rfl, HBL.out⟩
end Go.Proofs.Ytpbnkkeplhgepaa.CL
