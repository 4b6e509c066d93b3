
/-
  chart.Shares.
-/
import Derived.Test.YtpbnkkeplhgepaaMake
import Derived.Test.YtpbnkkeplhgepaaOwnB
import Derived.Test.YtpbnkkeplhgepaaChPlain
import Derived.Test.YtpbnkkeplhgepaaIn
namespace Go.Proofs.Ytpbnkkeplhgepaa.CH
open Go.RowKit Go.Law Go.Law.Ch Ref
set_option linter.unusedVariables false
set_option linter.unusedSimpArgs false
set_option maxRecDepth 100000
theorem make_bools (n : Nat) (hn : n ≤ 1000000000000) (w : World) : (Instr.makeSlice 89 (.int .i64 (n : Int)) (.int .i64 (n : Int))).run Try.prog w = .ok (.slice (some ⟨w.heap.size, 0, none⟩) n n) (w.alloc (.cells (madeCells #[.bool false] n) 4)) := by
  obtain ⟨i0, hi, hz0, hz1, hz2⟩ := info_parts (show (Try.prog.info? 4).map (fun i => (i.zero, i.size, i.bytes)) = some (some (.bool false), 1, 1) by kernel_rfl)
  have := run_make (P := Try.prog) w 89 4 i0 (.bool false) Try.underlying89 hi hz0 .i64 .i64 (n : Int) (n : Int) (by omega) (by omega) (by rw [hz2]; omega) (by omega)
  rw [hz1] at this
  simpa [Value.cells] using this
def okV (n : Nat) (f : Nat → Int) : Prop := ∀ i, i < n → 0 ≤ f i ∧ f i ≤ 83333333333
open Classical in
noncomputable def shErr (n : Nat) (f : Nat → Int) : Int := if n = 0 then 7 else if 200 < n then 3 else if okV n f then 0 else 2
theorem shErr_none {n : Nat} {f : Nat → Int} (h : n = 0) : shErr n f = 7 := by unfold shErr; rw [if_pos h]
theorem shErr_large {n : Nat} {f : Nat → Int} (h : 200 < n) : shErr n f = 3 := by unfold shErr; rw [if_neg (by omega), if_pos h]
theorem shErr_ok {n : Nat} {f : Nat → Int} (h0 : 0 < n) (h : n ≤ 200) (k : okV n f) : shErr n f = 0 := by unfold shErr; rw [if_neg (by omega), if_neg (by omega), if_pos k]
theorem shErr_bad {n : Nat} {f : Nat → Int} (h0 : 0 < n) (h : n ≤ 200) (k : ¬ okV n f) : shErr n f = 2 := by unfold shErr; rw [if_neg (by omega), if_neg (by omega), if_neg k]
theorem shErr_zero {n : Nat} {f : Nat → Int} (h : shErr n f = 0) : 0 < n ∧ n ≤ 200 ∧ okV n f := by
  unfold shErr at h
  by_cases h1 : n = 0
  · rw [if_pos h1] at h; omega
  · rw [if_neg h1] at h
    by_cases h2 : 200 < n
    · rw [if_pos h2] at h; omega
    · rw [if_neg h2] at h
      by_cases h3 : okV n f
      · exact ⟨by omega, by omega, h3⟩
      · rw [if_neg h3] at h; omega
theorem okV_sum {n k : Nat} {f : Nat → Int} (h : ∀ i, i < k → 0 ≤ f i ∧ f i ≤ 83333333333) (hn : k ≤ n) (h2 : n ≤ 200) : 0 ≤ sumI f k ∧ sumI f k ≤ 20000000000000 := by
  have h3 := sumI_bounds h
  refine ⟨h3.1, Int.le_trans h3.2 ?_⟩
  omega
set_option maxHeartbeats 1000000 in
theorem shares_bad (n : Nat) (f : Nat → Int) (a : Option Addr) (c : Nat) (w : World) (ha : IntsF w a n f) (hb : n ≤ 1000000000000000000) (he : shErr n f ≠ 0) :
    Calls Try.prog 29 #[.slice a n c] w fun e w' => e = .returned (.tuple #[.slice none 0 0, .int .i64 (shErr n f)]) ∧ w = w' := by
  by_cases h0 : n = 0
  · have HE := Lib.hid (shErr_none (f := f) h0)
    subst h0
    clear he
    go_enter Try.func29, Try.ntmps29
    go_wp2_with fail
    go_ret2
    exact ⟨by rw [HE.out]; rfl, rfl⟩
  · by_cases hl : 200 < n
    · have HE := Lib.hid (shErr_large (f := f) hl)
      clear he
      go_enter Try.func29, Try.ntmps29
      go_wp2_with fail
      go_ret2
      exact ⟨by rw [HE.out]; rfl, rfl⟩
    · obtain ⟨b, off, rfl, hc⟩ := ha (by omega)
      have hno : ¬ okV n f := fun h => he (shErr_ok (by omega) (by omega) h)
      have HE := Lib.hid (shErr_bad (f := f) (by omega) (by omega) hno)
      have HNO := Lib.hid hno
      clear he hno
      have hn00 : ((n : Int) == 0) = false := by simp; omega
      go_enter Try.func29, Try.ntmps29
      go_wp2_with fail
      go_loopw [4, 23] (fun ax ix wr => ∃ k : Nat, ix = .int .i64 k ∧ ax = .int .i64 (sumI f k) ∧ k ≤ n ∧ w = wr ∧ ∀ j, j < k → 0 ≤ f j ∧ f j ≤ 83333333333) (fun _ ix _ => n - (intOf ix).toNat)
      case atStart => exact ⟨0, rfl, rfl, by omega, rfl, fun j hj => by omega⟩
      case round =>
        obtain ⟨k, rfl, rfl, hk, rfl, hall⟩ := hrel
        obtain ⟨hs1, hs2⟩ := okV_sum hall hk (by omega)
        have HA := Lib.hid hall
        clear hall
        by_cases hkn : k < n
        · have d1 := hc k hkn
          clear hc
          by_cases hr : 0 ≤ f k ∧ f k ≤ 83333333333
          · go_wp2_with fail
            go_roundw
            case rel => exact ⟨k + 1, by go_num, rfl, by omega, trivial, fun j hj => by rcases Nat.lt_or_ge j k with h | h; exact HA.out j h; rw [show j = k by omega]; exact hr⟩
            case measure => simp [intOf]; omega
          · have HR := Lib.hid hr
            clear hr
            go_wp2_with fail
            all_goals first | (exfalso; have := HR.out; omega) | skip
            all_goals
              go_ret2
              exact ⟨by rw [HE.out]; rfl, rfl⟩
        · exfalso
          exact HNO.out fun i hi => HA.out i (by omega)
def SharesPost (n : Nat) (f : Nat → Int) (w : World) (e : Ending) (w' : World) : Prop :=
  Below w.heap.size w w' ∧ ∃ g, e = .returned (.tuple #[.slice (some ⟨g, 0, none⟩) n n, .int .i64 0]) ∧ w.heap.size ≤ g ∧ OwnF w' 3 g n (shareF n f)
/-- the parts rounded down, of which those of U are rounded up -/
def upF (f : Nat → Int) (A : Int) (U : Nat → Bool) : Nat → Int := fun j => quo f A j + (if U j = true then 1 else 0)
set_option maxHeartbeats 8000000 in
theorem shares_ok (n : Nat) (f : Nat → Int) (a : Option Addr) (c : Nat) (w : World) (ha : IntsF w a n f) (he : shErr n f = 0) :
    Calls Try.prog 29 #[.slice a n c] w (SharesPost n f w) := by
  obtain ⟨hn0, hn, hok⟩ := shErr_zero he
  clear he
  obtain ⟨b, off, rfl, hc⟩ := ha hn0
  obtain ⟨hA1, hA2⟩ := okV_sum hok (Nat.le_refl n) hn
  have hmk := make_ints n (by omega)
  have hmk2 := make_bools n (by omega)
  have HC := Lib.hid hc
  have HOK := Lib.hid hok
  clear ha hc hok
  have hn00 : ((n : Int) == 0) = false := by simp; omega
  go_enter Try.func29, Try.ntmps29
  go_wp2_with fail
  go_loopw [4, 23] (fun ax ix wr => ∃ k : Nat, ix = .int .i64 k ∧ ax = .int .i64 (sumI f k) ∧ k ≤ n ∧ w = wr) (fun _ ix _ => n - (intOf ix).toNat)
  case atStart => exact ⟨0, rfl, rfl, by omega, rfl⟩
  case round =>
    obtain ⟨k, rfl, rfl, hk, rfl⟩ := hrel
    by_cases hkn : k < n
    · have d1 := HC.out k hkn
      obtain ⟨hr1, hr2⟩ := HOK.out k hkn
      obtain ⟨hs1, hs2⟩ := okV_sum (fun i hi => HOK.out i (by omega)) hk hn
      go_wp2_with fail
      go_roundw
      case rel => exact ⟨k + 1, by go_num, rfl, by omega, trivial⟩
      case measure => simp [intOf]; omega
    · obtain rfl : n = k := by omega
      obtain ⟨A, hA⟩ : ∃ A, A = sumI f n := ⟨_, rfl⟩
      rw [← hA]
      rw [← hA] at hA1 hA2
      have HA := Lib.hid hA
      clear hA
      by_cases hz : A = 0
      · have HZ := Lib.hid hz
        subst hz
        go_wp2_with fail
        go_ret2
        exact ⟨(Below.refl _ _).alloc (Nat.le_refl _) _, _, rfl, Nat.le_refl _, (OwnF.make 3 n).congr fun i hi => by unfold shareF; rw [← HA.out, if_pos rfl]⟩
      · have hpos : 0 < A := by omega
        have hAz : (A == 0) = false := by simp; omega
        have hqb : ∀ k, k < n → 0 ≤ quo f A k ∧ quo f A k ≤ 1000 := fun k hk => by rw [HA.out]; exact quo_bounds (fun i hi => (HOK.out i hi).1) (by rw [← HA.out]; exact hpos) hk
        obtain ⟨hl1, hl2⟩ := quo_left (f := f) (n := n) (by rw [← HA.out]; exact hpos)
        rw [← HA.out] at hl1 hl2
        obtain ⟨L, hL⟩ : ∃ L : Nat, 1000 - sumI (quo f A) n = (L : Int) := ⟨(1000 - sumI (quo f A) n).toNat, by omega⟩
        have hLn : L ≤ n := by omega
        have hsb : ∀ k, k ≤ n → 0 ≤ sumI (quo f A) k ∧ sumI (quo f A) k ≤ 1000 := fun k hk => by
          have h1 := sumI_mono (fun i hi => (hqb i hi).1) hk
          have h2 := sumI_mono (f := quo f A) (n := k) (k := 0) (fun i hi => (hqb i (by omega)).1) (by omega)
          simp only [sumI] at h2
          omega
        have HQB := Lib.hid hqb
        have HSB := Lib.hid hsb
        have HL := Lib.hid hL
        clear hqb hsb hL hl1 hl2
        go_wp2_with fail
        go_loopw [8, 45] (fun lx ix wr => ∃ k : Nat, ix = .int .i64 k ∧ lx = .int .i64 (1000 - sumI (quo f A) k) ∧ k ≤ n ∧ OwnF wr 3 w.heap.size n (fun j => if j < k then quo f A j else 0) ∧ Below w.heap.size w wr) (fun _ ix _ => n - (intOf ix).toNat)
        case atStart => exact ⟨0, rfl, rfl, by omega, (OwnF.make 3 n).congr fun i hi => by simp, (Below.refl _ _).alloc (Nat.le_refl _) _⟩
        case round =>
          obtain ⟨k, rfl, rfl, hk, hown, hbel⟩ := hrel
          by_cases hkn : k < n
          · have hd1 := HC.out k hkn
            have d1 := (hbel.cell (lt_of_cell hd1)).trans hd1
            obtain ⟨hr1, hr2⟩ := HOK.out k hkn
            obtain ⟨Q, hQ⟩ : ∃ Q : Int, 1000 * f k / A = Q := ⟨_, rfl⟩
            have hQ1 : 0 ≤ Q ∧ Q ≤ 1000 := by rw [← hQ]; exact HQB.out k hkn
            obtain ⟨hs1, hs2⟩ := HSB.out k (by omega)
            have f1 := hown.frozen k
            have o1 := hown.cell hkn
            have HO := Lib.hid hown
            have HQ := Lib.hid hQ
            clear hown
            obtain ⟨y, hy⟩ : ∃ y : Int, y = (if k < k then quo f A k else 0) := ⟨_, rfl⟩
            rw [← hy] at o1
            clear hy hd1
            go_wp2_with fail
            go_roundw
            case rel => exact ⟨k + 1, by go_num, vint (by rw [sumI_succ, ← HQ.out]; show _ = 1000 - (sumI (quo f A) k + 1000 * f k / A); omega), by omega, (HO.out.set k Q).congr (fun j hj => by
              unfold upd
              by_cases hjk : j = k
              · rw [if_pos hjk, hjk, if_pos (by omega), ← HQ.out]; rfl
              · rw [if_neg hjk]
                show (if j < k then quo f A j else 0) = if j < k + 1 then quo f A j else 0
                by_cases h2 : j < k
                · rw [if_pos h2, if_pos (by omega)]
                · rw [if_neg h2, if_neg (by omega)]), hbel.setCell (Nat.le_refl _) _⟩
            case measure => simp [intOf]; omega
          · obtain rfl : n = k := by omega
            rw [HL.out]
            have hszq := hbel.size
            go_wp2_with fail
            have hown' : OwnF (wr.alloc (.cells (madeCells #[.bool false] n) 4)) 3 w.heap.size n (upF f A fun _ => false) := (hown.alloc _).congr fun j hj => by unfold upF; simp [hj]
            have hbel' := hbel.alloc hszq (.cells (madeCells #[.bool false] n) 4)
            have hb0 := OwnB.make (w := wr) 4 n
            have hlt0 := hown.lt
            obtain ⟨g2, hg2⟩ : ∃ g2, g2 = wr.heap.size := ⟨_, rfl⟩
            rw [← hg2] at hb0 ⊢
            have hgg : w.heap.size < g2 := by omega
            clear hown hbel hlt0 hg2
            go_loopw [8] (fun lx wr => ∃ (t : Nat) (U : Nat → Bool), lx = .int .i64 ((L : Int) - t) ∧ t ≤ L ∧ Best (rem f A) n t U ∧ OwnF wr 3 w.heap.size n (upF f A U) ∧ OwnB wr 4 g2 n U ∧ Below w.heap.size w wr) (fun lx _ => (intOf lx).toNat)
            case atStart => exact ⟨0, _, by go_num, by omega, Best.zero _ _, hown', hb0, hbel'⟩
            case round =>
              obtain ⟨t, U, rfl, ht, hbest, hown2, hob, hbel2⟩ := hrel
              clear hown' hb0 hbel'
              by_cases htL : t < L
              · obtain ⟨wq, rfl⟩ : ∃ wq : World, wq = wr := ⟨_, rfl⟩
                have HB := Lib.hid hbest
                clear hbest
                go_wp2_with fail
                go_loopw [12, 73] (fun bx ix wr => ∃ (k : Nat) (bb : Int), ix = .int .i64 k ∧ bx = .int .i64 bb ∧ k ≤ n ∧ Top (rem f A) U k bb ∧ OwnF wr 3 w.heap.size n (upF f A U) ∧ OwnB wr 4 g2 n U ∧ Below w.heap.size w wr) (fun _ ix _ => n - (intOf ix).toNat)
                case atStart => exact ⟨0, _, rfl, rfl, by omega, Top.zero _ _, hown2, hob, hbel2⟩
                case round =>
                  obtain ⟨k, bb, rfl, rfl, hk, htop, hown3, hob3, hbel3⟩ := hrel
                  clear hown2 hob hbel2
                  by_cases hkn : k < n
                  · have hd1 := HC.out k hkn
                    have d1 := (hbel3.cell (lt_of_cell hd1)).trans hd1
                    obtain ⟨hr1, hr2⟩ := HOK.out k hkn
                    have o1 := hob3.cell hkn
                    have HO := Lib.hid hown3
                    have HOB := Lib.hid hob3
                    have HT := Lib.hid htop
                    have hki : (k : Int) < (n : Int) := by omega
                    clear hown3 hob3 hd1
                    cases hU : U k
                    · rw [hU] at o1
                      rcases htop with ⟨rfl, _⟩ | ⟨m, rfl, hm, _, _⟩
                      · have HU := Lib.hid hU
                        clear hU
                        have hd0 : decide ((-1 : Int) < 0) = true := rfl
                        go_wp2_with fail
                        go_quiet (fail)
                        go_wp2_with fail
                        go_roundw
                        case rel => exact ⟨k + 1, _, by go_num, rfl, by omega, HT.out.first HU.out, HO.out.drewN _, HOB.out.drewN _, below_drewN hbel3 _⟩
                        case measure => simp [intOf]; omega
                      · have hd2 := HC.out m (by omega)
                        have d2 := (hbel3.cell (lt_of_cell hd2)).trans hd2
                        obtain ⟨hr3, hr4⟩ := HOK.out m (by omega)
                        clear hd2
                        have hmi : (m : Int) < (n : Int) := by omega
                        obtain ⟨R1, hR1⟩ : ∃ R : Int, 1000 * f k % A = R := ⟨_, rfl⟩
                        obtain ⟨R2, hR2⟩ : ∃ R : Int, 1000 * f m % A = R := ⟨_, rfl⟩
                        have HU := Lib.hid hU
                        clear hU
                        have hd0 : decide ((m : Int) < 0) = false := decide_eq_false (by omega)
                        by_cases hlt : R2 < R1
                        · have hd3 : decide (R2 < R1) = true := decide_eq_true hlt
                          have HLT := Lib.hid (show rem f A m < rem f A k by unfold rem; rw [hR1, hR2]; exact hlt)
                          go_wp2_with fail
                          go_quiet (fail)
                          go_wp2_with fail
                          go_roundw
                          case rel => exact ⟨k + 1, _, by go_num, rfl, by omega, HT.out.more HU.out HLT.out, HO.out.drewN _, HOB.out.drewN _, below_drewN hbel3 _⟩
                          case measure => simp [intOf]; omega
                        · have hd3 : decide (R2 < R1) = false := decide_eq_false hlt
                          have HLT := Lib.hid (show rem f A k ≤ rem f A m by unfold rem; rw [hR1, hR2]; omega)
                          go_wp2_with fail
                          go_quiet (fail)
                          go_wp2_with fail
                          go_roundw
                          case rel => exact ⟨k + 1, _, by go_num, rfl, by omega, HT.out.less HLT.out, HO.out.drewN _, HOB.out.drewN _, below_drewN hbel3 _⟩
                          case measure => simp [intOf]; omega
                    · rw [hU] at o1
                      have HU := Lib.hid hU
                      clear hU htop
                      go_wp2_with fail
                      go_quiet (fail)
                      go_wp2_with fail
                      go_roundw
                      case rel => exact ⟨k + 1, _, by go_num, rfl, by omega, HT.out.skip HU.out, HO.out.drewN _, HOB.out.drewN _, below_drewN hbel3 _⟩
                      case measure => simp [intOf]; omega
                  · obtain rfl : n = k := by omega
                    obtain ⟨m, rfl, hm, hUm, hnext⟩ := htop.done HB.out (by omega)
                    have f1 := hown3.frozen m
                    have o1 := hown3.cell hm
                    have f2 := hob3.frozen m
                    have o2 := hob3.cell hm
                    obtain ⟨hq1, hq2⟩ := HQB.out m hm
                    have HUM := Lib.hid hUm
                    have e1 : upF f A U m = quo f A m := by unfold upF; rw [hUm]; simp
                    rw [e1] at o1
                    rw [hUm] at o2
                    have HO := Lib.hid hown3
                    have HOB := Lib.hid hob3
                    have HN := Lib.hid hnext
                    obtain ⟨y, hy⟩ : ∃ y, y = quo f A m := ⟨_, rfl⟩
                    have HY := Lib.hid hy
                    rw [← hy] at o1 hq1 hq2
                    clear hown3 hob3 hnext htop hUm e1 hy
                    go_wp2_with fail
                    go_roundw
                    case rel => exact ⟨t + 1, updB U m, by go_num, by omega, HN.out, ((HO.out.other (by simp; omega) _).set m (y + 1)).congr (fun j hj => by
                      unfold upd upF updB
                      by_cases hjm : j = m
                      · rw [if_pos hjm, hjm, HY.out]; simp
                      · rw [if_neg hjm]; simp [hjm]), (HOB.out.set m true).other (by simp; omega) _, (hbel3.setCell (by simp; omega) _).setCell (by simp) _⟩
                    case measure => simp [intOf]; omega
              · obtain rfl : L = t := by omega
                have HO := Lib.hid hown2
                have HB := Lib.hid hbest
                clear hown2 hob hbest
                go_wp2_with fail
                go_ret2
                exact ⟨hbel2, _, rfl, Nat.le_refl _, HO.out.congr fun i hi => by
                  unfold shareF upF
                  rw [← HA.out, HL.out]
                  have hrk := HB.out.rank hi
                  have e0 : ¬ A = 0 := by omega
                  by_cases hu : U i = true
                  · rw [if_pos hu, if_neg e0, if_pos (by have := hrk.1 hu; omega)]
                  · rw [if_neg hu, if_neg e0, if_neg (fun h => hu (hrk.2 (by omega)))]⟩
end Go.Proofs.Ytpbnkkeplhgepaa.CH
