
/-
  chart.Check and the reference's chartError: the same number.
-/
import Derived.Test.YtnigebnibikolaaProg
import Derived.Test.YtnigebnibikolaaOwn
import Derived.Test.YtnigebnibikolaaIn
import Derived.Test.YtnigebnibikolaaCommon
import Derived.WalkLawsBesides
import Derived.Lib.Hide
namespace Go.Proofs.Ytnigebnibikolaa.CH
open Go.RowKit Go.Law Ref
set_option linter.unusedVariables false
set_option linter.unusedSimpArgs false
set_option maxRecDepth 100000
/-- a row of s rows of ints -/
def RowsF (w : World) (a : Option Addr) (s : Nat) (sa : Nat → Option Addr) (sn sc : Nat → Nat) (sf : Nat → Nat → Int) : Prop :=
  0 < s → ∃ b off, a = some ⟨b, off, none⟩ ∧ ∀ q, q < s → w.cell? ⟨b, off + q, none⟩ = some (.slice (sa q) (sn q) (sc q)) ∧ sn q ≤ 1000000000000000000 ∧ IntsF w (sa q) (sn q) (sf q)
theorem RowsF.below {W w : World} {B : Nat} {a : Option Addr} {s : Nat} {sa : Nat → Option Addr} {sn sc : Nat → Nat} {sf : Nat → Nat → Int} (h : RowsF W a s sa sn sc sf) (hB : W.heap.size ≤ B) (hb : Below B W w) : RowsF w a s sa sn sc sf := by
  intro hs
  obtain ⟨b, off, rfl, hq⟩ := h hs
  refine ⟨b, off, rfl, fun q hq' => ?_⟩
  obtain ⟨h1, h2, h3⟩ := hq q hq'
  exact ⟨(hb.cell (show b < B from Nat.lt_of_lt_of_le (lt_of_cell h1) hB)).trans h1, h2, h3.below hB hb⟩
/-- the first error of the rows -/
def firstE (g : Nat → Int) : Nat → Int
  | 0 => 0
  | n + 1 => if firstE g n ≠ 0 then firstE g n else g n
theorem firstE_none {g : Nat → Int} {n : Nat} (h : ∀ i, i < n → g i = 0) : firstE g n = 0 := by
  induction n with
  | zero => rfl
  | succ n ih => simp only [firstE]; rw [ih (fun i hi => h i (by omega)), if_neg (by simp), h n (by omega)]
theorem firstE_at {g : Nat → Int} {n k : Nat} (hk : k < n) (h : ∀ i, i < k → g i = 0) (hg : g k ≠ 0) : firstE g n = g k := by
  induction n with
  | zero => omega
  | succ n ih =>
    simp only [firstE]
    by_cases hkn : k = n
    · subst hkn; rw [firstE_none h, if_neg (by simp)]
    · rw [ih (by omega), if_pos hg]
def okR (lo : Int) (n : Nat) (f : Nat → Int) : Prop := ∀ i, i < n → lo ≤ f i ∧ f i ≤ 83333333333
open Classical in
noncomputable def rowE (p : Nat) (lo : Int) (n : Nat) (f : Nat → Int) : Int := if n ≠ p then 14 else if okR lo n f then 0 else 2
theorem rowE_fit {p n : Nat} {lo : Int} {f : Nat → Int} (h : n ≠ p) : rowE p lo n f = 14 := by unfold rowE; rw [if_pos h]
theorem rowE_ok {p n : Nat} {lo : Int} {f : Nat → Int} (h : n = p) (k : okR lo n f) : rowE p lo n f = 0 := by unfold rowE; rw [if_neg (by omega), if_pos k]
theorem rowE_bad {p n : Nat} {lo : Int} {f : Nat → Int} (h : n = p) (k : ¬ okR lo n f) : rowE p lo n f = 2 := by unfold rowE; rw [if_neg (by omega), if_neg k]
theorem rowE_zero {p n : Nat} {lo : Int} {f : Nat → Int} (h : rowE p lo n f = 0) : n = p ∧ okR lo n f := by
  by_cases h1 : n = p
  · by_cases h2 : okR lo n f
    · exact ⟨h1, h2⟩
    · rw [rowE_bad h1 h2] at h; omega
  · rw [rowE_fit h1] at h; omega
def lowK (kind : Int) : Int := if kind = 3 ∨ kind = 1 then 0 else -83333333333
noncomputable def chErr (kind : Int) (p s : Nat) (sn : Nat → Nat) (sf : Nat → Nat → Int) : Int :=
  if ¬ (0 ≤ kind ∧ kind ≤ 3) then 8 else if p = 0 ∨ s = 0 then 7 else if 200 < p ∨ 12 < s then 3 else if kind = 3 ∧ 1 < s then 4
  else firstE (fun q => rowE p (lowK kind) (sn q) (sf q)) s
theorem firstE_zero {g : Nat → Int} {n : Nat} (h : firstE g n = 0) : ∀ i, i < n → g i = 0 := by
  intro i hi
  induction n with
  | zero => omega
  | succ n ih =>
    simp only [firstE] at h
    by_cases h1 : firstE g n = 0
    · rw [if_neg (by simpa using h1)] at h
      by_cases hin : i = n
      · rw [hin]; exact h
      · exact ih h1 (by omega)
    · rw [if_pos h1] at h; exact absurd h h1
theorem chErr_zero {kind : Int} {p s : Nat} {sn : Nat → Nat} {sf : Nat → Nat → Int} (h : chErr kind p s sn sf = 0) :
    (0 ≤ kind ∧ kind ≤ 3) ∧ 0 < p ∧ 0 < s ∧ p ≤ 200 ∧ s ≤ 12 ∧ (kind = 3 → s = 1) ∧ ∀ q, q < s → sn q = p ∧ okR (lowK kind) (sn q) (sf q) := by
  unfold chErr at h
  by_cases c1 : 0 ≤ kind ∧ kind ≤ 3
  · rw [if_neg (by simpa using c1)] at h
    by_cases c2 : p = 0 ∨ s = 0
    · rw [if_pos c2] at h; omega
    · rw [if_neg c2] at h
      by_cases c3 : 200 < p ∨ 12 < s
      · rw [if_pos c3] at h; omega
      · rw [if_neg c3] at h
        by_cases c4 : kind = 3 ∧ 1 < s
        · rw [if_pos c4] at h; omega
        · rw [if_neg c4] at h
          exact ⟨c1, by omega, by omega, by omega, by omega, fun hk => by omega, fun q hq => rowE_zero (firstE_zero h q hq)⟩
  · rw [if_pos c1] at h; omega
set_option maxHeartbeats 8000000 in
theorem error_any (kind : Int) (a1 a2 : Option Addr) (p cp s cs : Nat) (sa : Nat → Option Addr) (sn sc : Nat → Nat) (sf : Nat → Nat → Int) (w : World) (hrows : RowsF w a2 s sa sn sc sf) :
    Calls Try.prog 12 #[.agg #[.int .i64 kind, .slice a1 p cp, .slice a2 s cs]] w fun e w' => e = .returned (.int .i64 (chErr kind p s sn sf)) ∧ Below w.heap.size w w' := by
  by_cases c1 : 0 ≤ kind ∧ kind ≤ 3
  · by_cases c2 : p = 0 ∨ s = 0
    · have i1 : inB kind 0 3 = true := inB_true.2 c1
      have HE := Lib.hid (show chErr kind p s sn sf = 7 by unfold chErr; rw [if_neg (by simpa using c1), if_pos c2])
      by_cases c2' : p = 0
      · subst c2'
        clear c2
        go_enter Try.func12, Try.ntmps12
        go_wp2_with (go_at_call 16; refine (in_any _ _ _ _).mono ?_; (first | rw [i1] | rw [i2]); rintro e w9 ⟨rfl, rfl⟩)
        go_ret
        refine ⟨by rw [HE.out]; rfl, ?_⟩
        repeat' (with_reducible first | exact Below.refl _ _ | assumption | refine Below.setCell ?_ ?_ _ | refine Below.alloc ?_ ?_ _ | refine below_drewN ?_ _ | refine Below.drew ?_)
        all_goals first | omega | (simp; done) | (simp; omega)
      · obtain rfl : s = 0 := by omega
        have hp0 : ((p : Int) == 0) = false := by simp; omega
        clear c2
        go_enter Try.func12, Try.ntmps12
        go_wp2_with (go_at_call 16; refine (in_any _ _ _ _).mono ?_; (first | rw [i1] | rw [i2]); rintro e w9 ⟨rfl, rfl⟩)
        go_ret
        refine ⟨by rw [HE.out]; rfl, ?_⟩
        repeat' (with_reducible first | exact Below.refl _ _ | assumption | refine Below.setCell ?_ ?_ _ | refine Below.alloc ?_ ?_ _ | refine below_drewN ?_ _ | refine Below.drew ?_)
        all_goals first | omega | (simp; done) | (simp; omega)
    · have hp0 : ((p : Int) == 0) = false := by simp; omega
      have hs0 : ((s : Int) == 0) = false := by simp; omega
      by_cases c3 : 200 < p ∨ 12 < s
      · have i1 : inB kind 0 3 = true := inB_true.2 c1
        have HE := Lib.hid (show chErr kind p s sn sf = 3 by unfold chErr; rw [if_neg (by simpa using c1), if_neg c2, if_pos c3])
        by_cases c3' : 200 < p
        · clear c2 c3
          go_enter Try.func12, Try.ntmps12
          go_wp2_with (go_at_call 16; refine (in_any _ _ _ _).mono ?_; (first | rw [i1] | rw [i2]); rintro e w9 ⟨rfl, rfl⟩)
          go_ret
          refine ⟨by rw [HE.out]; rfl, ?_⟩
          repeat' (with_reducible first | exact Below.refl _ _ | assumption | refine Below.setCell ?_ ?_ _ | refine Below.alloc ?_ ?_ _ | refine below_drewN ?_ _ | refine Below.drew ?_)
          all_goals first | omega | (simp; done) | (simp; omega)
        · have c3'' : 12 < s := by omega
          clear c2 c3
          go_enter Try.func12, Try.ntmps12
          go_wp2_with (go_at_call 16; refine (in_any _ _ _ _).mono ?_; (first | rw [i1] | rw [i2]); rintro e w9 ⟨rfl, rfl⟩)
          go_ret
          refine ⟨by rw [HE.out]; rfl, ?_⟩
          repeat' (with_reducible first | exact Below.refl _ _ | assumption | refine Below.setCell ?_ ?_ _ | refine Below.alloc ?_ ?_ _ | refine below_drewN ?_ _ | refine Below.drew ?_)
          all_goals first | omega | (simp; done) | (simp; omega)
      · have hp2 : decide (200 < (p : Int)) = false := decide_eq_false (by omega)
        have hs2 : decide (12 < (s : Int)) = false := decide_eq_false (by omega)
        by_cases c4 : kind = 3 ∧ 1 < s
        · have i1 : inB kind 0 3 = true := inB_true.2 c1
          have HE := Lib.hid (show chErr kind p s sn sf = 4 by unfold chErr; rw [if_neg (by simpa using c1), if_neg c2, if_neg c3, if_pos c4])
          obtain ⟨rfl, c5⟩ := c4
          clear c2 c3
          go_enter Try.func12, Try.ntmps12
          go_wp2_with (go_at_call 16; refine (in_any _ _ _ _).mono ?_; (first | rw [i1] | rw [i2]); rintro e w9 ⟨rfl, rfl⟩)
          go_ret
          refine ⟨by rw [HE.out]; rfl, ?_⟩
          repeat' (with_reducible first | exact Below.refl _ _ | assumption | refine Below.setCell ?_ ?_ _ | refine Below.alloc ?_ ?_ _ | refine below_drewN ?_ _ | refine Below.drew ?_)
          all_goals first | omega | (simp; done) | (simp; omega)
        · have hk : kind = 0 ∨ kind = 1 ∨ kind = 2 ∨ kind = 3 := by omega
          rcases hk with rfl | rfl | rfl | rfl
          · have hlow : lowK 0 = -83333333333 := by decide
            have i1 : inB 0 0 3 = true := by decide
            have hF : Hid (chErr 0 p s sn sf = firstE (fun q => rowE p (-83333333333) (sn q) (sf q)) s) := Lib.hid (by unfold chErr; rw [if_neg (by decide), if_neg (by omega), if_neg (by omega), if_neg (by omega), hlow])
            obtain ⟨b, off, rfl, hq⟩ := hrows (by omega)
            have HQ := Lib.hid hq
            clear hq hrows
            go_enter Try.func12, Try.ntmps12
            go_wp2_with (go_at_call 16; refine (in_any _ _ _ _).mono ?_; (first | rw [i1] | rw [i2]); rintro e w9 ⟨rfl, rfl⟩)
            go_loopw [48] (fun ix wr => ∃ k : Nat, ix = .int .i64 k ∧ k ≤ s ∧ (∀ q, q < k → rowE p (-83333333333) (sn q) (sf q) = 0) ∧ Below w.heap.size w wr ∧ wr.cell? ⟨w.heap.size, 0, none⟩ = some (.int .i64 (0)) ∧ wr.cell? ⟨w.heap.size, 1, none⟩ = some (.slice a1 p cp) ∧ wr.cell? ⟨w.heap.size, 2, none⟩ = some (.slice (some ⟨b, off, none⟩) s cs)) (fun ix _ => s - (intOf ix).toNat)
            case atStart => exact ⟨0, rfl, by omega, fun q hq => by omega, (Below.refl _ _).alloc (Nat.le_refl _) _, by simp, by simp, by simp⟩
            case round =>
              obtain ⟨k, rfl, hk, hzero, hbel, p0, p1, p2⟩ := hrel
              have HZ := Lib.hid hzero
              clear hzero
              by_cases hks : k < s
              · obtain ⟨e1, hsn, hi⟩ := HQ.out k hks
                have d1 := (hbel.cell (lt_of_cell e1)).trans e1
                have hi' := hi.below (Nat.le_refl _) hbel
                clear e1 hi
                obtain ⟨n, hn⟩ : ∃ n, n = sn k := ⟨_, rfl⟩
                obtain ⟨f, hf⟩ : ∃ f, f = sf k := ⟨_, rfl⟩
                rw [← hn] at d1 hi' hsn
                rw [← hf] at hi'
                have HN := Lib.hid hn
                have HFF := Lib.hid hf
                clear hn hf
                by_cases hnp : n = p
                · obtain ⟨wq, rfl⟩ : ∃ wq : World, wq = wr := ⟨_, rfl⟩
                  go_wp2_with fail
                  go_loopw [60] (fun ix wr => ∃ j : Nat, ix = .int .i64 j ∧ j ≤ n ∧ wq = wr ∧ ∀ i, i < j → -83333333333 ≤ f i ∧ f i ≤ 83333333333) (fun ix _ => n - (intOf ix).toNat)
                  case atStart => exact ⟨0, rfl, by omega, rfl, fun i hi => by omega⟩
                  case round =>
                    obtain ⟨j, rfl, hj, rfl, hall⟩ := hrel
                    have HA := Lib.hid hall
                    clear hall
                    by_cases hjn : j < n
                    · obtain ⟨b3, off3, hsa, hcell⟩ := hi' (by omega)
                      have d2 := hcell j hjn
                      rw [hsa] at d1 ⊢
                      clear hcell hsa hi'
                      by_cases hr : -83333333333 ≤ f j ∧ f j ≤ 83333333333
                      · have i2 : inB (f j) (-83333333333) 83333333333 = true := inB_true.2 hr
                        go_wp2_with (go_at_call 16; refine (in_any _ _ _ _).mono ?_; (first | rw [i1] | rw [i2]); rintro e w9 ⟨rfl, rfl⟩)
                        all_goals
                          go_roundw
                          case rel => exact ⟨j + 1, by go_num, by omega, trivial, fun i hi => by rcases Nat.lt_or_ge i j with h | h; exact HA.out i h; rw [show i = j by omega]; exact hr⟩
                          case measure => simp [intOf]; omega
                      · have i2 : inB (f j) (-83333333333) 83333333333 = false := inB_false.2 hr
                        have HE := Lib.hid (show chErr 0 p s sn sf = 2 by
                          have h1 : rowE p (-83333333333) (sn k) (sf k) = 2 := rowE_bad (by rw [← HN.out]; exact hnp) (fun h => hr (by have h3 := h j (by rw [← HN.out]; exact hjn); rw [← HFF.out] at h3; exact h3))
                          rw [hF.out, firstE_at hks HZ.out (by rw [h1]; decide), h1])
                        have HR := Lib.hid hr
                        clear hr
                        go_wp2_with (go_at_call 16; refine (in_any _ _ _ _).mono ?_; (first | rw [i1] | rw [i2]); rintro e w9 ⟨rfl, rfl⟩)
                        all_goals first | (exfalso; have := HR.out; omega) | skip
                        all_goals
                          go_ret
                          exact ⟨by rw [HE.out]; rfl, hbel⟩
                    · obtain rfl : j = n := by omega
                      have HO := Lib.hid (show rowE p (-83333333333) (sn k) (sf k) = 0 from rowE_ok (by rw [← HN.out]; exact hnp) (by rw [← HN.out, ← HFF.out]; exact HA.out))
                      go_wp2_with fail
                      go_roundw
                      case rel => exact ⟨k + 1, by go_num, by omega, fun q hq => by rcases Nat.lt_or_ge q k with h | h; exact HZ.out q h; rw [show q = k by omega]; exact HO.out, hbel, p0, p1, p2⟩
                      case measure => simp [intOf]; omega
                · have HE := Lib.hid (show chErr 0 p s sn sf = 14 by
                    have h1 : rowE p (-83333333333) (sn k) (sf k) = 14 := rowE_fit (by rw [← HN.out]; exact hnp)
                    rw [hF.out, firstE_at hks HZ.out (by rw [h1]; decide), h1])
                  have hne : ((n : Int) != (p : Int)) = true := by simp; omega
                  go_wp2_with fail
                  go_ret
                  exact ⟨by rw [HE.out]; rfl, hbel⟩
              · obtain rfl : k = s := by omega
                have HE := Lib.hid (show chErr 0 p k sn sf = 0 by rw [hF.out]; exact firstE_none HZ.out)
                go_wp2_with fail
                go_ret
                exact ⟨by rw [HE.out]; rfl, hbel⟩
          · have hlow : lowK 1 = 0 := by decide
            have i1 : inB 1 0 3 = true := by decide
            have hF : Hid (chErr 1 p s sn sf = firstE (fun q => rowE p (0) (sn q) (sf q)) s) := Lib.hid (by unfold chErr; rw [if_neg (by decide), if_neg (by omega), if_neg (by omega), if_neg (by omega), hlow])
            obtain ⟨b, off, rfl, hq⟩ := hrows (by omega)
            have HQ := Lib.hid hq
            clear hq hrows
            go_enter Try.func12, Try.ntmps12
            go_wp2_with (go_at_call 16; refine (in_any _ _ _ _).mono ?_; (first | rw [i1] | rw [i2]); rintro e w9 ⟨rfl, rfl⟩)
            go_loopw [48] (fun ix wr => ∃ k : Nat, ix = .int .i64 k ∧ k ≤ s ∧ (∀ q, q < k → rowE p (0) (sn q) (sf q) = 0) ∧ Below w.heap.size w wr ∧ wr.cell? ⟨w.heap.size, 0, none⟩ = some (.int .i64 (1)) ∧ wr.cell? ⟨w.heap.size, 1, none⟩ = some (.slice a1 p cp) ∧ wr.cell? ⟨w.heap.size, 2, none⟩ = some (.slice (some ⟨b, off, none⟩) s cs)) (fun ix _ => s - (intOf ix).toNat)
            case atStart => exact ⟨0, rfl, by omega, fun q hq => by omega, (Below.refl _ _).alloc (Nat.le_refl _) _, by simp, by simp, by simp⟩
            case round =>
              obtain ⟨k, rfl, hk, hzero, hbel, p0, p1, p2⟩ := hrel
              have HZ := Lib.hid hzero
              clear hzero
              by_cases hks : k < s
              · obtain ⟨e1, hsn, hi⟩ := HQ.out k hks
                have d1 := (hbel.cell (lt_of_cell e1)).trans e1
                have hi' := hi.below (Nat.le_refl _) hbel
                clear e1 hi
                obtain ⟨n, hn⟩ : ∃ n, n = sn k := ⟨_, rfl⟩
                obtain ⟨f, hf⟩ : ∃ f, f = sf k := ⟨_, rfl⟩
                rw [← hn] at d1 hi' hsn
                rw [← hf] at hi'
                have HN := Lib.hid hn
                have HFF := Lib.hid hf
                clear hn hf
                by_cases hnp : n = p
                · obtain ⟨wq, rfl⟩ : ∃ wq : World, wq = wr := ⟨_, rfl⟩
                  go_wp2_with fail
                  go_loopw [60] (fun ix wr => ∃ j : Nat, ix = .int .i64 j ∧ j ≤ n ∧ wq = wr ∧ ∀ i, i < j → 0 ≤ f i ∧ f i ≤ 83333333333) (fun ix _ => n - (intOf ix).toNat)
                  case atStart => exact ⟨0, rfl, by omega, rfl, fun i hi => by omega⟩
                  case round =>
                    obtain ⟨j, rfl, hj, rfl, hall⟩ := hrel
                    have HA := Lib.hid hall
                    clear hall
                    by_cases hjn : j < n
                    · obtain ⟨b3, off3, hsa, hcell⟩ := hi' (by omega)
                      have d2 := hcell j hjn
                      rw [hsa] at d1 ⊢
                      clear hcell hsa hi'
                      by_cases hr : 0 ≤ f j ∧ f j ≤ 83333333333
                      · have i2 : inB (f j) (0) 83333333333 = true := inB_true.2 hr
                        go_wp2_with (go_at_call 16; refine (in_any _ _ _ _).mono ?_; (first | rw [i1] | rw [i2]); rintro e w9 ⟨rfl, rfl⟩)
                        all_goals
                          go_roundw
                          case rel => exact ⟨j + 1, by go_num, by omega, trivial, fun i hi => by rcases Nat.lt_or_ge i j with h | h; exact HA.out i h; rw [show i = j by omega]; exact hr⟩
                          case measure => simp [intOf]; omega
                      · have i2 : inB (f j) (0) 83333333333 = false := inB_false.2 hr
                        have HE := Lib.hid (show chErr 1 p s sn sf = 2 by
                          have h1 : rowE p (0) (sn k) (sf k) = 2 := rowE_bad (by rw [← HN.out]; exact hnp) (fun h => hr (by have h3 := h j (by rw [← HN.out]; exact hjn); rw [← HFF.out] at h3; exact h3))
                          rw [hF.out, firstE_at hks HZ.out (by rw [h1]; decide), h1])
                        have HR := Lib.hid hr
                        clear hr
                        go_wp2_with (go_at_call 16; refine (in_any _ _ _ _).mono ?_; (first | rw [i1] | rw [i2]); rintro e w9 ⟨rfl, rfl⟩)
                        all_goals first | (exfalso; have := HR.out; omega) | skip
                        all_goals
                          go_ret
                          exact ⟨by rw [HE.out]; rfl, hbel⟩
                    · obtain rfl : j = n := by omega
                      have HO := Lib.hid (show rowE p (0) (sn k) (sf k) = 0 from rowE_ok (by rw [← HN.out]; exact hnp) (by rw [← HN.out, ← HFF.out]; exact HA.out))
                      go_wp2_with fail
                      go_roundw
                      case rel => exact ⟨k + 1, by go_num, by omega, fun q hq => by rcases Nat.lt_or_ge q k with h | h; exact HZ.out q h; rw [show q = k by omega]; exact HO.out, hbel, p0, p1, p2⟩
                      case measure => simp [intOf]; omega
                · have HE := Lib.hid (show chErr 1 p s sn sf = 14 by
                    have h1 : rowE p (0) (sn k) (sf k) = 14 := rowE_fit (by rw [← HN.out]; exact hnp)
                    rw [hF.out, firstE_at hks HZ.out (by rw [h1]; decide), h1])
                  have hne : ((n : Int) != (p : Int)) = true := by simp; omega
                  go_wp2_with fail
                  go_ret
                  exact ⟨by rw [HE.out]; rfl, hbel⟩
              · obtain rfl : k = s := by omega
                have HE := Lib.hid (show chErr 1 p k sn sf = 0 by rw [hF.out]; exact firstE_none HZ.out)
                go_wp2_with fail
                go_ret
                exact ⟨by rw [HE.out]; rfl, hbel⟩
          · have hlow : lowK 2 = -83333333333 := by decide
            have i1 : inB 2 0 3 = true := by decide
            have hF : Hid (chErr 2 p s sn sf = firstE (fun q => rowE p (-83333333333) (sn q) (sf q)) s) := Lib.hid (by unfold chErr; rw [if_neg (by decide), if_neg (by omega), if_neg (by omega), if_neg (by omega), hlow])
            obtain ⟨b, off, rfl, hq⟩ := hrows (by omega)
            have HQ := Lib.hid hq
            clear hq hrows
            go_enter Try.func12, Try.ntmps12
            go_wp2_with (go_at_call 16; refine (in_any _ _ _ _).mono ?_; (first | rw [i1] | rw [i2]); rintro e w9 ⟨rfl, rfl⟩)
            go_loopw [48] (fun ix wr => ∃ k : Nat, ix = .int .i64 k ∧ k ≤ s ∧ (∀ q, q < k → rowE p (-83333333333) (sn q) (sf q) = 0) ∧ Below w.heap.size w wr ∧ wr.cell? ⟨w.heap.size, 0, none⟩ = some (.int .i64 (2)) ∧ wr.cell? ⟨w.heap.size, 1, none⟩ = some (.slice a1 p cp) ∧ wr.cell? ⟨w.heap.size, 2, none⟩ = some (.slice (some ⟨b, off, none⟩) s cs)) (fun ix _ => s - (intOf ix).toNat)
            case atStart => exact ⟨0, rfl, by omega, fun q hq => by omega, (Below.refl _ _).alloc (Nat.le_refl _) _, by simp, by simp, by simp⟩
            case round =>
              obtain ⟨k, rfl, hk, hzero, hbel, p0, p1, p2⟩ := hrel
              have HZ := Lib.hid hzero
              clear hzero
              by_cases hks : k < s
              · obtain ⟨e1, hsn, hi⟩ := HQ.out k hks
                have d1 := (hbel.cell (lt_of_cell e1)).trans e1
                have hi' := hi.below (Nat.le_refl _) hbel
                clear e1 hi
                obtain ⟨n, hn⟩ : ∃ n, n = sn k := ⟨_, rfl⟩
                obtain ⟨f, hf⟩ : ∃ f, f = sf k := ⟨_, rfl⟩
                rw [← hn] at d1 hi' hsn
                rw [← hf] at hi'
                have HN := Lib.hid hn
                have HFF := Lib.hid hf
                clear hn hf
                by_cases hnp : n = p
                · obtain ⟨wq, rfl⟩ : ∃ wq : World, wq = wr := ⟨_, rfl⟩
                  go_wp2_with fail
                  go_loopw [60] (fun ix wr => ∃ j : Nat, ix = .int .i64 j ∧ j ≤ n ∧ wq = wr ∧ ∀ i, i < j → -83333333333 ≤ f i ∧ f i ≤ 83333333333) (fun ix _ => n - (intOf ix).toNat)
                  case atStart => exact ⟨0, rfl, by omega, rfl, fun i hi => by omega⟩
                  case round =>
                    obtain ⟨j, rfl, hj, rfl, hall⟩ := hrel
                    have HA := Lib.hid hall
                    clear hall
                    by_cases hjn : j < n
                    · obtain ⟨b3, off3, hsa, hcell⟩ := hi' (by omega)
                      have d2 := hcell j hjn
                      rw [hsa] at d1 ⊢
                      clear hcell hsa hi'
                      by_cases hr : -83333333333 ≤ f j ∧ f j ≤ 83333333333
                      · have i2 : inB (f j) (-83333333333) 83333333333 = true := inB_true.2 hr
                        go_wp2_with (go_at_call 16; refine (in_any _ _ _ _).mono ?_; (first | rw [i1] | rw [i2]); rintro e w9 ⟨rfl, rfl⟩)
                        all_goals
                          go_roundw
                          case rel => exact ⟨j + 1, by go_num, by omega, trivial, fun i hi => by rcases Nat.lt_or_ge i j with h | h; exact HA.out i h; rw [show i = j by omega]; exact hr⟩
                          case measure => simp [intOf]; omega
                      · have i2 : inB (f j) (-83333333333) 83333333333 = false := inB_false.2 hr
                        have HE := Lib.hid (show chErr 2 p s sn sf = 2 by
                          have h1 : rowE p (-83333333333) (sn k) (sf k) = 2 := rowE_bad (by rw [← HN.out]; exact hnp) (fun h => hr (by have h3 := h j (by rw [← HN.out]; exact hjn); rw [← HFF.out] at h3; exact h3))
                          rw [hF.out, firstE_at hks HZ.out (by rw [h1]; decide), h1])
                        have HR := Lib.hid hr
                        clear hr
                        go_wp2_with (go_at_call 16; refine (in_any _ _ _ _).mono ?_; (first | rw [i1] | rw [i2]); rintro e w9 ⟨rfl, rfl⟩)
                        all_goals first | (exfalso; have := HR.out; omega) | skip
                        all_goals
                          go_ret
                          exact ⟨by rw [HE.out]; rfl, hbel⟩
                    · obtain rfl : j = n := by omega
                      have HO := Lib.hid (show rowE p (-83333333333) (sn k) (sf k) = 0 from rowE_ok (by rw [← HN.out]; exact hnp) (by rw [← HN.out, ← HFF.out]; exact HA.out))
                      go_wp2_with fail
                      go_roundw
                      case rel => exact ⟨k + 1, by go_num, by omega, fun q hq => by rcases Nat.lt_or_ge q k with h | h; exact HZ.out q h; rw [show q = k by omega]; exact HO.out, hbel, p0, p1, p2⟩
                      case measure => simp [intOf]; omega
                · have HE := Lib.hid (show chErr 2 p s sn sf = 14 by
                    have h1 : rowE p (-83333333333) (sn k) (sf k) = 14 := rowE_fit (by rw [← HN.out]; exact hnp)
                    rw [hF.out, firstE_at hks HZ.out (by rw [h1]; decide), h1])
                  have hne : ((n : Int) != (p : Int)) = true := by simp; omega
                  go_wp2_with fail
                  go_ret
                  exact ⟨by rw [HE.out]; rfl, hbel⟩
              · obtain rfl : k = s := by omega
                have HE := Lib.hid (show chErr 2 p k sn sf = 0 by rw [hF.out]; exact firstE_none HZ.out)
                go_wp2_with fail
                go_ret
                exact ⟨by rw [HE.out]; rfl, hbel⟩
          · have hs1 : decide (1 < (s : Int)) = false := decide_eq_false (by omega)
            have hs1' : (s : Int) ≤ 1 := by omega
            have hlow : lowK 3 = 0 := by decide
            have i1 : inB 3 0 3 = true := by decide
            have hF : Hid (chErr 3 p s sn sf = firstE (fun q => rowE p (0) (sn q) (sf q)) s) := Lib.hid (by unfold chErr; rw [if_neg (by decide), if_neg (by omega), if_neg (by omega), if_neg (by omega), hlow])
            obtain ⟨b, off, rfl, hq⟩ := hrows (by omega)
            have HQ := Lib.hid hq
            clear hq hrows
            go_enter Try.func12, Try.ntmps12
            go_wp2_with (go_at_call 16; refine (in_any _ _ _ _).mono ?_; (first | rw [i1] | rw [i2]); rintro e w9 ⟨rfl, rfl⟩)
            go_loopw [48] (fun ix wr => ∃ k : Nat, ix = .int .i64 k ∧ k ≤ s ∧ (∀ q, q < k → rowE p (0) (sn q) (sf q) = 0) ∧ Below w.heap.size w wr ∧ wr.cell? ⟨w.heap.size, 0, none⟩ = some (.int .i64 (3)) ∧ wr.cell? ⟨w.heap.size, 1, none⟩ = some (.slice a1 p cp) ∧ wr.cell? ⟨w.heap.size, 2, none⟩ = some (.slice (some ⟨b, off, none⟩) s cs)) (fun ix _ => s - (intOf ix).toNat)
            case atStart => exact ⟨0, rfl, by omega, fun q hq => by omega, (Below.refl _ _).alloc (Nat.le_refl _) _, by simp, by simp, by simp⟩
            case round =>
              obtain ⟨k, rfl, hk, hzero, hbel, p0, p1, p2⟩ := hrel
              have HZ := Lib.hid hzero
              clear hzero
              by_cases hks : k < s
              · obtain ⟨e1, hsn, hi⟩ := HQ.out k hks
                have d1 := (hbel.cell (lt_of_cell e1)).trans e1
                have hi' := hi.below (Nat.le_refl _) hbel
                clear e1 hi
                obtain ⟨n, hn⟩ : ∃ n, n = sn k := ⟨_, rfl⟩
                obtain ⟨f, hf⟩ : ∃ f, f = sf k := ⟨_, rfl⟩
                rw [← hn] at d1 hi' hsn
                rw [← hf] at hi'
                have HN := Lib.hid hn
                have HFF := Lib.hid hf
                clear hn hf
                by_cases hnp : n = p
                · obtain ⟨wq, rfl⟩ : ∃ wq : World, wq = wr := ⟨_, rfl⟩
                  go_wp2_with fail
                  go_loopw [60] (fun ix wr => ∃ j : Nat, ix = .int .i64 j ∧ j ≤ n ∧ wq = wr ∧ ∀ i, i < j → 0 ≤ f i ∧ f i ≤ 83333333333) (fun ix _ => n - (intOf ix).toNat)
                  case atStart => exact ⟨0, rfl, by omega, rfl, fun i hi => by omega⟩
                  case round =>
                    obtain ⟨j, rfl, hj, rfl, hall⟩ := hrel
                    have HA := Lib.hid hall
                    clear hall
                    by_cases hjn : j < n
                    · obtain ⟨b3, off3, hsa, hcell⟩ := hi' (by omega)
                      have d2 := hcell j hjn
                      rw [hsa] at d1 ⊢
                      clear hcell hsa hi'
                      by_cases hr : 0 ≤ f j ∧ f j ≤ 83333333333
                      · have i2 : inB (f j) (0) 83333333333 = true := inB_true.2 hr
                        go_wp2_with (go_at_call 16; refine (in_any _ _ _ _).mono ?_; (first | rw [i1] | rw [i2]); rintro e w9 ⟨rfl, rfl⟩)
                        all_goals
                          go_roundw
                          case rel => exact ⟨j + 1, by go_num, by omega, trivial, fun i hi => by rcases Nat.lt_or_ge i j with h | h; exact HA.out i h; rw [show i = j by omega]; exact hr⟩
                          case measure => simp [intOf]; omega
                      · have i2 : inB (f j) (0) 83333333333 = false := inB_false.2 hr
                        have HE := Lib.hid (show chErr 3 p s sn sf = 2 by
                          have h1 : rowE p (0) (sn k) (sf k) = 2 := rowE_bad (by rw [← HN.out]; exact hnp) (fun h => hr (by have h3 := h j (by rw [← HN.out]; exact hjn); rw [← HFF.out] at h3; exact h3))
                          rw [hF.out, firstE_at hks HZ.out (by rw [h1]; decide), h1])
                        have HR := Lib.hid hr
                        clear hr
                        go_wp2_with (go_at_call 16; refine (in_any _ _ _ _).mono ?_; (first | rw [i1] | rw [i2]); rintro e w9 ⟨rfl, rfl⟩)
                        all_goals first | (exfalso; have := HR.out; omega) | skip
                        all_goals
                          go_ret
                          exact ⟨by rw [HE.out]; rfl, hbel⟩
                    · obtain rfl : j = n := by omega
                      have HO := Lib.hid (show rowE p (0) (sn k) (sf k) = 0 from rowE_ok (by rw [← HN.out]; exact hnp) (by rw [← HN.out, ← HFF.out]; exact HA.out))
                      go_wp2_with fail
                      go_roundw
                      case rel => exact ⟨k + 1, by go_num, by omega, fun q hq => by rcases Nat.lt_or_ge q k with h | h; exact HZ.out q h; rw [show q = k by omega]; exact HO.out, hbel, p0, p1, p2⟩
                      case measure => simp [intOf]; omega
                · have HE := Lib.hid (show chErr 3 p s sn sf = 14 by
                    have h1 : rowE p (0) (sn k) (sf k) = 14 := rowE_fit (by rw [← HN.out]; exact hnp)
                    rw [hF.out, firstE_at hks HZ.out (by rw [h1]; decide), h1])
                  have hne : ((n : Int) != (p : Int)) = true := by simp; omega
                  go_wp2_with fail
                  go_ret
                  exact ⟨by rw [HE.out]; rfl, hbel⟩
              · obtain rfl : k = s := by omega
                have HE := Lib.hid (show chErr 3 p k sn sf = 0 by rw [hF.out]; exact firstE_none HZ.out)
                go_wp2_with fail
                go_ret
                exact ⟨by rw [HE.out]; rfl, hbel⟩
  · have i1 : inB kind 0 3 = false := inB_false.2 c1
    have HE := Lib.hid (show chErr kind p s sn sf = 8 by unfold chErr; rw [if_pos c1])
    have HC := Lib.hid c1
    clear c1
    go_enter Try.func12, Try.ntmps12
    go_wp2_with (go_at_call 16; refine (in_any _ _ _ _).mono ?_; (first | rw [i1] | rw [i2]); rintro e w9 ⟨rfl, rfl⟩)
    all_goals first | (exfalso; have := HC.out; omega) | skip
    all_goals
      go_ret
      refine ⟨by rw [HE.out]; rfl, ?_⟩
      repeat' (with_reducible first | exact Below.refl _ _ | assumption | refine Below.setCell ?_ ?_ _ | refine Below.alloc ?_ ?_ _ | refine below_drewN ?_ _ | refine Below.drew ?_)
      all_goals first | omega | (simp; done) | (simp; omega)
set_option maxHeartbeats 8000000 in
theorem check_any (kind : Int) (a1 a2 : Option Addr) (p cp s cs : Nat) (sa : Nat → Option Addr) (sn sc : Nat → Nat) (sf : Nat → Nat → Int) (w : World) (hrows : RowsF w a2 s sa sn sc sf) :
    Calls Try.prog 13 #[.agg #[.int .i64 kind, .slice a1 p cp, .slice a2 s cs]] w fun e w' => e = .returned (.int .i64 (chErr kind p s sn sf)) ∧ Below w.heap.size w w' := by
  by_cases c1 : 0 ≤ kind ∧ kind ≤ 3
  · by_cases c2 : p = 0 ∨ s = 0
    · have i1 : inB kind 0 3 = true := inB_true.2 c1
      have HE := Lib.hid (show chErr kind p s sn sf = 7 by unfold chErr; rw [if_neg (by simpa using c1), if_pos c2])
      by_cases c2' : p = 0
      · subst c2'
        clear c2
        go_enter Try.func13, Try.ntmps13
        go_wp2_with (go_at_call 16; refine (in_any _ _ _ _).mono ?_; (first | rw [i1] | rw [i2]); rintro e w9 ⟨rfl, rfl⟩)
        go_ret
        refine ⟨by rw [HE.out]; rfl, ?_⟩
        repeat' (with_reducible first | exact Below.refl _ _ | assumption | refine Below.setCell ?_ ?_ _ | refine Below.alloc ?_ ?_ _ | refine below_drewN ?_ _ | refine Below.drew ?_)
        all_goals first | omega | (simp; done) | (simp; omega)
      · obtain rfl : s = 0 := by omega
        have hp0 : ((p : Int) == 0) = false := by simp; omega
        clear c2
        go_enter Try.func13, Try.ntmps13
        go_wp2_with (go_at_call 16; refine (in_any _ _ _ _).mono ?_; (first | rw [i1] | rw [i2]); rintro e w9 ⟨rfl, rfl⟩)
        go_ret
        refine ⟨by rw [HE.out]; rfl, ?_⟩
        repeat' (with_reducible first | exact Below.refl _ _ | assumption | refine Below.setCell ?_ ?_ _ | refine Below.alloc ?_ ?_ _ | refine below_drewN ?_ _ | refine Below.drew ?_)
        all_goals first | omega | (simp; done) | (simp; omega)
    · have hp0 : ((p : Int) == 0) = false := by simp; omega
      have hs0 : ((s : Int) == 0) = false := by simp; omega
      by_cases c3 : 200 < p ∨ 12 < s
      · have i1 : inB kind 0 3 = true := inB_true.2 c1
        have HE := Lib.hid (show chErr kind p s sn sf = 3 by unfold chErr; rw [if_neg (by simpa using c1), if_neg c2, if_pos c3])
        by_cases c3' : 200 < p
        · clear c2 c3
          go_enter Try.func13, Try.ntmps13
          go_wp2_with (go_at_call 16; refine (in_any _ _ _ _).mono ?_; (first | rw [i1] | rw [i2]); rintro e w9 ⟨rfl, rfl⟩)
          go_ret
          refine ⟨by rw [HE.out]; rfl, ?_⟩
          repeat' (with_reducible first | exact Below.refl _ _ | assumption | refine Below.setCell ?_ ?_ _ | refine Below.alloc ?_ ?_ _ | refine below_drewN ?_ _ | refine Below.drew ?_)
          all_goals first | omega | (simp; done) | (simp; omega)
        · have c3'' : 12 < s := by omega
          clear c2 c3
          go_enter Try.func13, Try.ntmps13
          go_wp2_with (go_at_call 16; refine (in_any _ _ _ _).mono ?_; (first | rw [i1] | rw [i2]); rintro e w9 ⟨rfl, rfl⟩)
          go_ret
          refine ⟨by rw [HE.out]; rfl, ?_⟩
          repeat' (with_reducible first | exact Below.refl _ _ | assumption | refine Below.setCell ?_ ?_ _ | refine Below.alloc ?_ ?_ _ | refine below_drewN ?_ _ | refine Below.drew ?_)
          all_goals first | omega | (simp; done) | (simp; omega)
      · have hp2 : decide (200 < (p : Int)) = false := decide_eq_false (by omega)
        have hs2 : decide (12 < (s : Int)) = false := decide_eq_false (by omega)
        by_cases c4 : kind = 3 ∧ 1 < s
        · have i1 : inB kind 0 3 = true := inB_true.2 c1
          have HE := Lib.hid (show chErr kind p s sn sf = 4 by unfold chErr; rw [if_neg (by simpa using c1), if_neg c2, if_neg c3, if_pos c4])
          obtain ⟨rfl, c5⟩ := c4
          clear c2 c3
          go_enter Try.func13, Try.ntmps13
          go_wp2_with (go_at_call 16; refine (in_any _ _ _ _).mono ?_; (first | rw [i1] | rw [i2]); rintro e w9 ⟨rfl, rfl⟩)
          go_ret
          refine ⟨by rw [HE.out]; rfl, ?_⟩
          repeat' (with_reducible first | exact Below.refl _ _ | assumption | refine Below.setCell ?_ ?_ _ | refine Below.alloc ?_ ?_ _ | refine below_drewN ?_ _ | refine Below.drew ?_)
          all_goals first | omega | (simp; done) | (simp; omega)
        · have hk : kind = 0 ∨ kind = 1 ∨ kind = 2 ∨ kind = 3 := by omega
          rcases hk with rfl | rfl | rfl | rfl
          · have hlow : lowK 0 = -83333333333 := by decide
            have i1 : inB 0 0 3 = true := by decide
            have hF : Hid (chErr 0 p s sn sf = firstE (fun q => rowE p (-83333333333) (sn q) (sf q)) s) := Lib.hid (by unfold chErr; rw [if_neg (by decide), if_neg (by omega), if_neg (by omega), if_neg (by omega), hlow])
            obtain ⟨b, off, rfl, hq⟩ := hrows (by omega)
            have HQ := Lib.hid hq
            clear hq hrows
            go_enter Try.func13, Try.ntmps13
            go_wp2_with (go_at_call 16; refine (in_any _ _ _ _).mono ?_; (first | rw [i1] | rw [i2]); rintro e w9 ⟨rfl, rfl⟩)
            go_loopw [47] (fun ix wr => ∃ k : Nat, ix = .int .i64 k ∧ k ≤ s ∧ (∀ q, q < k → rowE p (-83333333333) (sn q) (sf q) = 0) ∧ Below w.heap.size w wr ∧ wr.cell? ⟨w.heap.size, 0, none⟩ = some (.int .i64 (0)) ∧ wr.cell? ⟨w.heap.size, 1, none⟩ = some (.slice a1 p cp) ∧ wr.cell? ⟨w.heap.size, 2, none⟩ = some (.slice (some ⟨b, off, none⟩) s cs)) (fun ix _ => s - (intOf ix).toNat)
            case atStart => exact ⟨0, rfl, by omega, fun q hq => by omega, (Below.refl _ _).alloc (Nat.le_refl _) _, by simp, by simp, by simp⟩
            case round =>
              obtain ⟨k, rfl, hk, hzero, hbel, p0, p1, p2⟩ := hrel
              have HZ := Lib.hid hzero
              clear hzero
              by_cases hks : k < s
              · obtain ⟨e1, hsn, hi⟩ := HQ.out k hks
                have d1 := (hbel.cell (lt_of_cell e1)).trans e1
                have hi' := hi.below (Nat.le_refl _) hbel
                clear e1 hi
                obtain ⟨n, hn⟩ : ∃ n, n = sn k := ⟨_, rfl⟩
                obtain ⟨f, hf⟩ : ∃ f, f = sf k := ⟨_, rfl⟩
                rw [← hn] at d1 hi' hsn
                rw [← hf] at hi'
                have HN := Lib.hid hn
                have HFF := Lib.hid hf
                clear hn hf
                by_cases hnp : n = p
                · obtain ⟨wq, rfl⟩ : ∃ wq : World, wq = wr := ⟨_, rfl⟩
                  go_wp2_with fail
                  go_loopw [59] (fun ix wr => ∃ j : Nat, ix = .int .i64 j ∧ j ≤ n ∧ wq = wr ∧ ∀ i, i < j → -83333333333 ≤ f i ∧ f i ≤ 83333333333) (fun ix _ => n - (intOf ix).toNat)
                  case atStart => exact ⟨0, rfl, by omega, rfl, fun i hi => by omega⟩
                  case round =>
                    obtain ⟨j, rfl, hj, rfl, hall⟩ := hrel
                    have HA := Lib.hid hall
                    clear hall
                    by_cases hjn : j < n
                    · obtain ⟨b3, off3, hsa, hcell⟩ := hi' (by omega)
                      have d2 := hcell j hjn
                      rw [hsa] at d1 ⊢
                      clear hcell hsa hi'
                      by_cases hr : -83333333333 ≤ f j ∧ f j ≤ 83333333333
                      · have i2 : inB (f j) (-83333333333) 83333333333 = true := inB_true.2 hr
                        go_wp2_with (go_at_call 16; refine (in_any _ _ _ _).mono ?_; (first | rw [i1] | rw [i2]); rintro e w9 ⟨rfl, rfl⟩)
                        all_goals
                          go_roundw
                          case rel => exact ⟨j + 1, by go_num, by omega, trivial, fun i hi => by rcases Nat.lt_or_ge i j with h | h; exact HA.out i h; rw [show i = j by omega]; exact hr⟩
                          case measure => simp [intOf]; omega
                      · have i2 : inB (f j) (-83333333333) 83333333333 = false := inB_false.2 hr
                        have HE := Lib.hid (show chErr 0 p s sn sf = 2 by
                          have h1 : rowE p (-83333333333) (sn k) (sf k) = 2 := rowE_bad (by rw [← HN.out]; exact hnp) (fun h => hr (by have h3 := h j (by rw [← HN.out]; exact hjn); rw [← HFF.out] at h3; exact h3))
                          rw [hF.out, firstE_at hks HZ.out (by rw [h1]; decide), h1])
                        have HR := Lib.hid hr
                        clear hr
                        go_wp2_with (go_at_call 16; refine (in_any _ _ _ _).mono ?_; (first | rw [i1] | rw [i2]); rintro e w9 ⟨rfl, rfl⟩)
                        all_goals first | (exfalso; have := HR.out; omega) | skip
                        all_goals
                          go_ret
                          exact ⟨by rw [HE.out]; rfl, hbel⟩
                    · obtain rfl : j = n := by omega
                      have HO := Lib.hid (show rowE p (-83333333333) (sn k) (sf k) = 0 from rowE_ok (by rw [← HN.out]; exact hnp) (by rw [← HN.out, ← HFF.out]; exact HA.out))
                      go_wp2_with fail
                      go_roundw
                      case rel => exact ⟨k + 1, by go_num, by omega, fun q hq => by rcases Nat.lt_or_ge q k with h | h; exact HZ.out q h; rw [show q = k by omega]; exact HO.out, hbel, p0, p1, p2⟩
                      case measure => simp [intOf]; omega
                · have HE := Lib.hid (show chErr 0 p s sn sf = 14 by
                    have h1 : rowE p (-83333333333) (sn k) (sf k) = 14 := rowE_fit (by rw [← HN.out]; exact hnp)
                    rw [hF.out, firstE_at hks HZ.out (by rw [h1]; decide), h1])
                  have hne : ((n : Int) != (p : Int)) = true := by simp; omega
                  go_wp2_with fail
                  go_ret
                  exact ⟨by rw [HE.out]; rfl, hbel⟩
              · obtain rfl : k = s := by omega
                have HE := Lib.hid (show chErr 0 p k sn sf = 0 by rw [hF.out]; exact firstE_none HZ.out)
                go_wp2_with fail
                go_ret
                exact ⟨by rw [HE.out]; rfl, hbel⟩
          · have hlow : lowK 1 = 0 := by decide
            have i1 : inB 1 0 3 = true := by decide
            have hF : Hid (chErr 1 p s sn sf = firstE (fun q => rowE p (0) (sn q) (sf q)) s) := Lib.hid (by unfold chErr; rw [if_neg (by decide), if_neg (by omega), if_neg (by omega), if_neg (by omega), hlow])
            obtain ⟨b, off, rfl, hq⟩ := hrows (by omega)
            have HQ := Lib.hid hq
            clear hq hrows
            go_enter Try.func13, Try.ntmps13
            go_wp2_with (go_at_call 16; refine (in_any _ _ _ _).mono ?_; (first | rw [i1] | rw [i2]); rintro e w9 ⟨rfl, rfl⟩)
            go_loopw [47] (fun ix wr => ∃ k : Nat, ix = .int .i64 k ∧ k ≤ s ∧ (∀ q, q < k → rowE p (0) (sn q) (sf q) = 0) ∧ Below w.heap.size w wr ∧ wr.cell? ⟨w.heap.size, 0, none⟩ = some (.int .i64 (1)) ∧ wr.cell? ⟨w.heap.size, 1, none⟩ = some (.slice a1 p cp) ∧ wr.cell? ⟨w.heap.size, 2, none⟩ = some (.slice (some ⟨b, off, none⟩) s cs)) (fun ix _ => s - (intOf ix).toNat)
            case atStart => exact ⟨0, rfl, by omega, fun q hq => by omega, (Below.refl _ _).alloc (Nat.le_refl _) _, by simp, by simp, by simp⟩
            case round =>
              obtain ⟨k, rfl, hk, hzero, hbel, p0, p1, p2⟩ := hrel
              have HZ := Lib.hid hzero
              clear hzero
              by_cases hks : k < s
              · obtain ⟨e1, hsn, hi⟩ := HQ.out k hks
                have d1 := (hbel.cell (lt_of_cell e1)).trans e1
                have hi' := hi.below (Nat.le_refl _) hbel
                clear e1 hi
                obtain ⟨n, hn⟩ : ∃ n, n = sn k := ⟨_, rfl⟩
                obtain ⟨f, hf⟩ : ∃ f, f = sf k := ⟨_, rfl⟩
                rw [← hn] at d1 hi' hsn
                rw [← hf] at hi'
                have HN := Lib.hid hn
                have HFF := Lib.hid hf
                clear hn hf
                by_cases hnp : n = p
                · obtain ⟨wq, rfl⟩ : ∃ wq : World, wq = wr := ⟨_, rfl⟩
                  go_wp2_with fail
                  go_loopw [59] (fun ix wr => ∃ j : Nat, ix = .int .i64 j ∧ j ≤ n ∧ wq = wr ∧ ∀ i, i < j → 0 ≤ f i ∧ f i ≤ 83333333333) (fun ix _ => n - (intOf ix).toNat)
                  case atStart => exact ⟨0, rfl, by omega, rfl, fun i hi => by omega⟩
                  case round =>
                    obtain ⟨j, rfl, hj, rfl, hall⟩ := hrel
                    have HA := Lib.hid hall
                    clear hall
                    by_cases hjn : j < n
                    · obtain ⟨b3, off3, hsa, hcell⟩ := hi' (by omega)
                      have d2 := hcell j hjn
                      rw [hsa] at d1 ⊢
                      clear hcell hsa hi'
                      by_cases hr : 0 ≤ f j ∧ f j ≤ 83333333333
                      · have i2 : inB (f j) (0) 83333333333 = true := inB_true.2 hr
                        go_wp2_with (go_at_call 16; refine (in_any _ _ _ _).mono ?_; (first | rw [i1] | rw [i2]); rintro e w9 ⟨rfl, rfl⟩)
                        all_goals
                          go_roundw
                          case rel => exact ⟨j + 1, by go_num, by omega, trivial, fun i hi => by rcases Nat.lt_or_ge i j with h | h; exact HA.out i h; rw [show i = j by omega]; exact hr⟩
                          case measure => simp [intOf]; omega
                      · have i2 : inB (f j) (0) 83333333333 = false := inB_false.2 hr
                        have HE := Lib.hid (show chErr 1 p s sn sf = 2 by
                          have h1 : rowE p (0) (sn k) (sf k) = 2 := rowE_bad (by rw [← HN.out]; exact hnp) (fun h => hr (by have h3 := h j (by rw [← HN.out]; exact hjn); rw [← HFF.out] at h3; exact h3))
                          rw [hF.out, firstE_at hks HZ.out (by rw [h1]; decide), h1])
                        have HR := Lib.hid hr
                        clear hr
                        go_wp2_with (go_at_call 16; refine (in_any _ _ _ _).mono ?_; (first | rw [i1] | rw [i2]); rintro e w9 ⟨rfl, rfl⟩)
                        all_goals first | (exfalso; have := HR.out; omega) | skip
                        all_goals
                          go_ret
                          exact ⟨by rw [HE.out]; rfl, hbel⟩
                    · obtain rfl : j = n := by omega
                      have HO := Lib.hid (show rowE p (0) (sn k) (sf k) = 0 from rowE_ok (by rw [← HN.out]; exact hnp) (by rw [← HN.out, ← HFF.out]; exact HA.out))
                      go_wp2_with fail
                      go_roundw
                      case rel => exact ⟨k + 1, by go_num, by omega, fun q hq => by rcases Nat.lt_or_ge q k with h | h; exact HZ.out q h; rw [show q = k by omega]; exact HO.out, hbel, p0, p1, p2⟩
                      case measure => simp [intOf]; omega
                · have HE := Lib.hid (show chErr 1 p s sn sf = 14 by
                    have h1 : rowE p (0) (sn k) (sf k) = 14 := rowE_fit (by rw [← HN.out]; exact hnp)
                    rw [hF.out, firstE_at hks HZ.out (by rw [h1]; decide), h1])
                  have hne : ((n : Int) != (p : Int)) = true := by simp; omega
                  go_wp2_with fail
                  go_ret
                  exact ⟨by rw [HE.out]; rfl, hbel⟩
              · obtain rfl : k = s := by omega
                have HE := Lib.hid (show chErr 1 p k sn sf = 0 by rw [hF.out]; exact firstE_none HZ.out)
                go_wp2_with fail
                go_ret
                exact ⟨by rw [HE.out]; rfl, hbel⟩
          · have hlow : lowK 2 = -83333333333 := by decide
            have i1 : inB 2 0 3 = true := by decide
            have hF : Hid (chErr 2 p s sn sf = firstE (fun q => rowE p (-83333333333) (sn q) (sf q)) s) := Lib.hid (by unfold chErr; rw [if_neg (by decide), if_neg (by omega), if_neg (by omega), if_neg (by omega), hlow])
            obtain ⟨b, off, rfl, hq⟩ := hrows (by omega)
            have HQ := Lib.hid hq
            clear hq hrows
            go_enter Try.func13, Try.ntmps13
            go_wp2_with (go_at_call 16; refine (in_any _ _ _ _).mono ?_; (first | rw [i1] | rw [i2]); rintro e w9 ⟨rfl, rfl⟩)
            go_loopw [47] (fun ix wr => ∃ k : Nat, ix = .int .i64 k ∧ k ≤ s ∧ (∀ q, q < k → rowE p (-83333333333) (sn q) (sf q) = 0) ∧ Below w.heap.size w wr ∧ wr.cell? ⟨w.heap.size, 0, none⟩ = some (.int .i64 (2)) ∧ wr.cell? ⟨w.heap.size, 1, none⟩ = some (.slice a1 p cp) ∧ wr.cell? ⟨w.heap.size, 2, none⟩ = some (.slice (some ⟨b, off, none⟩) s cs)) (fun ix _ => s - (intOf ix).toNat)
            case atStart => exact ⟨0, rfl, by omega, fun q hq => by omega, (Below.refl _ _).alloc (Nat.le_refl _) _, by simp, by simp, by simp⟩
            case round =>
              obtain ⟨k, rfl, hk, hzero, hbel, p0, p1, p2⟩ := hrel
              have HZ := Lib.hid hzero
              clear hzero
              by_cases hks : k < s
              · obtain ⟨e1, hsn, hi⟩ := HQ.out k hks
                have d1 := (hbel.cell (lt_of_cell e1)).trans e1
                have hi' := hi.below (Nat.le_refl _) hbel
                clear e1 hi
                obtain ⟨n, hn⟩ : ∃ n, n = sn k := ⟨_, rfl⟩
                obtain ⟨f, hf⟩ : ∃ f, f = sf k := ⟨_, rfl⟩
                rw [← hn] at d1 hi' hsn
                rw [← hf] at hi'
                have HN := Lib.hid hn
                have HFF := Lib.hid hf
                clear hn hf
                by_cases hnp : n = p
                · obtain ⟨wq, rfl⟩ : ∃ wq : World, wq = wr := ⟨_, rfl⟩
                  go_wp2_with fail
                  go_loopw [59] (fun ix wr => ∃ j : Nat, ix = .int .i64 j ∧ j ≤ n ∧ wq = wr ∧ ∀ i, i < j → -83333333333 ≤ f i ∧ f i ≤ 83333333333) (fun ix _ => n - (intOf ix).toNat)
                  case atStart => exact ⟨0, rfl, by omega, rfl, fun i hi => by omega⟩
                  case round =>
                    obtain ⟨j, rfl, hj, rfl, hall⟩ := hrel
                    have HA := Lib.hid hall
                    clear hall
                    by_cases hjn : j < n
                    · obtain ⟨b3, off3, hsa, hcell⟩ := hi' (by omega)
                      have d2 := hcell j hjn
                      rw [hsa] at d1 ⊢
                      clear hcell hsa hi'
                      by_cases hr : -83333333333 ≤ f j ∧ f j ≤ 83333333333
                      · have i2 : inB (f j) (-83333333333) 83333333333 = true := inB_true.2 hr
                        go_wp2_with (go_at_call 16; refine (in_any _ _ _ _).mono ?_; (first | rw [i1] | rw [i2]); rintro e w9 ⟨rfl, rfl⟩)
                        all_goals
                          go_roundw
                          case rel => exact ⟨j + 1, by go_num, by omega, trivial, fun i hi => by rcases Nat.lt_or_ge i j with h | h; exact HA.out i h; rw [show i = j by omega]; exact hr⟩
                          case measure => simp [intOf]; omega
                      · have i2 : inB (f j) (-83333333333) 83333333333 = false := inB_false.2 hr
                        have HE := Lib.hid (show chErr 2 p s sn sf = 2 by
                          have h1 : rowE p (-83333333333) (sn k) (sf k) = 2 := rowE_bad (by rw [← HN.out]; exact hnp) (fun h => hr (by have h3 := h j (by rw [← HN.out]; exact hjn); rw [← HFF.out] at h3; exact h3))
                          rw [hF.out, firstE_at hks HZ.out (by rw [h1]; decide), h1])
                        have HR := Lib.hid hr
                        clear hr
                        go_wp2_with (go_at_call 16; refine (in_any _ _ _ _).mono ?_; (first | rw [i1] | rw [i2]); rintro e w9 ⟨rfl, rfl⟩)
                        all_goals first | (exfalso; have := HR.out; omega) | skip
                        all_goals
                          go_ret
                          exact ⟨by rw [HE.out]; rfl, hbel⟩
                    · obtain rfl : j = n := by omega
                      have HO := Lib.hid (show rowE p (-83333333333) (sn k) (sf k) = 0 from rowE_ok (by rw [← HN.out]; exact hnp) (by rw [← HN.out, ← HFF.out]; exact HA.out))
                      go_wp2_with fail
                      go_roundw
                      case rel => exact ⟨k + 1, by go_num, by omega, fun q hq => by rcases Nat.lt_or_ge q k with h | h; exact HZ.out q h; rw [show q = k by omega]; exact HO.out, hbel, p0, p1, p2⟩
                      case measure => simp [intOf]; omega
                · have HE := Lib.hid (show chErr 2 p s sn sf = 14 by
                    have h1 : rowE p (-83333333333) (sn k) (sf k) = 14 := rowE_fit (by rw [← HN.out]; exact hnp)
                    rw [hF.out, firstE_at hks HZ.out (by rw [h1]; decide), h1])
                  have hne : ((n : Int) != (p : Int)) = true := by simp; omega
                  go_wp2_with fail
                  go_ret
                  exact ⟨by rw [HE.out]; rfl, hbel⟩
              · obtain rfl : k = s := by omega
                have HE := Lib.hid (show chErr 2 p k sn sf = 0 by rw [hF.out]; exact firstE_none HZ.out)
                go_wp2_with fail
                go_ret
                exact ⟨by rw [HE.out]; rfl, hbel⟩
          · have hs1 : decide (1 < (s : Int)) = false := decide_eq_false (by omega)
            have hs1' : (s : Int) ≤ 1 := by omega
            have hlow : lowK 3 = 0 := by decide
            have i1 : inB 3 0 3 = true := by decide
            have hF : Hid (chErr 3 p s sn sf = firstE (fun q => rowE p (0) (sn q) (sf q)) s) := Lib.hid (by unfold chErr; rw [if_neg (by decide), if_neg (by omega), if_neg (by omega), if_neg (by omega), hlow])
            obtain ⟨b, off, rfl, hq⟩ := hrows (by omega)
            have HQ := Lib.hid hq
            clear hq hrows
            go_enter Try.func13, Try.ntmps13
            go_wp2_with (go_at_call 16; refine (in_any _ _ _ _).mono ?_; (first | rw [i1] | rw [i2]); rintro e w9 ⟨rfl, rfl⟩)
            go_loopw [47] (fun ix wr => ∃ k : Nat, ix = .int .i64 k ∧ k ≤ s ∧ (∀ q, q < k → rowE p (0) (sn q) (sf q) = 0) ∧ Below w.heap.size w wr ∧ wr.cell? ⟨w.heap.size, 0, none⟩ = some (.int .i64 (3)) ∧ wr.cell? ⟨w.heap.size, 1, none⟩ = some (.slice a1 p cp) ∧ wr.cell? ⟨w.heap.size, 2, none⟩ = some (.slice (some ⟨b, off, none⟩) s cs)) (fun ix _ => s - (intOf ix).toNat)
            case atStart => exact ⟨0, rfl, by omega, fun q hq => by omega, (Below.refl _ _).alloc (Nat.le_refl _) _, by simp, by simp, by simp⟩
            case round =>
              obtain ⟨k, rfl, hk, hzero, hbel, p0, p1, p2⟩ := hrel
              have HZ := Lib.hid hzero
              clear hzero
              by_cases hks : k < s
              · obtain ⟨e1, hsn, hi⟩ := HQ.out k hks
                have d1 := (hbel.cell (lt_of_cell e1)).trans e1
                have hi' := hi.below (Nat.le_refl _) hbel
                clear e1 hi
                obtain ⟨n, hn⟩ : ∃ n, n = sn k := ⟨_, rfl⟩
                obtain ⟨f, hf⟩ : ∃ f, f = sf k := ⟨_, rfl⟩
                rw [← hn] at d1 hi' hsn
                rw [← hf] at hi'
                have HN := Lib.hid hn
                have HFF := Lib.hid hf
                clear hn hf
                by_cases hnp : n = p
                · obtain ⟨wq, rfl⟩ : ∃ wq : World, wq = wr := ⟨_, rfl⟩
                  go_wp2_with fail
                  go_loopw [59] (fun ix wr => ∃ j : Nat, ix = .int .i64 j ∧ j ≤ n ∧ wq = wr ∧ ∀ i, i < j → 0 ≤ f i ∧ f i ≤ 83333333333) (fun ix _ => n - (intOf ix).toNat)
                  case atStart => exact ⟨0, rfl, by omega, rfl, fun i hi => by omega⟩
                  case round =>
                    obtain ⟨j, rfl, hj, rfl, hall⟩ := hrel
                    have HA := Lib.hid hall
                    clear hall
                    by_cases hjn : j < n
                    · obtain ⟨b3, off3, hsa, hcell⟩ := hi' (by omega)
                      have d2 := hcell j hjn
                      rw [hsa] at d1 ⊢
                      clear hcell hsa hi'
                      by_cases hr : 0 ≤ f j ∧ f j ≤ 83333333333
                      · have i2 : inB (f j) (0) 83333333333 = true := inB_true.2 hr
                        go_wp2_with (go_at_call 16; refine (in_any _ _ _ _).mono ?_; (first | rw [i1] | rw [i2]); rintro e w9 ⟨rfl, rfl⟩)
                        all_goals
                          go_roundw
                          case rel => exact ⟨j + 1, by go_num, by omega, trivial, fun i hi => by rcases Nat.lt_or_ge i j with h | h; exact HA.out i h; rw [show i = j by omega]; exact hr⟩
                          case measure => simp [intOf]; omega
                      · have i2 : inB (f j) (0) 83333333333 = false := inB_false.2 hr
                        have HE := Lib.hid (show chErr 3 p s sn sf = 2 by
                          have h1 : rowE p (0) (sn k) (sf k) = 2 := rowE_bad (by rw [← HN.out]; exact hnp) (fun h => hr (by have h3 := h j (by rw [← HN.out]; exact hjn); rw [← HFF.out] at h3; exact h3))
                          rw [hF.out, firstE_at hks HZ.out (by rw [h1]; decide), h1])
                        have HR := Lib.hid hr
                        clear hr
                        go_wp2_with (go_at_call 16; refine (in_any _ _ _ _).mono ?_; (first | rw [i1] | rw [i2]); rintro e w9 ⟨rfl, rfl⟩)
                        all_goals first | (exfalso; have := HR.out; omega) | skip
                        all_goals
                          go_ret
                          exact ⟨by rw [HE.out]; rfl, hbel⟩
                    · obtain rfl : j = n := by omega
                      have HO := Lib.hid (show rowE p (0) (sn k) (sf k) = 0 from rowE_ok (by rw [← HN.out]; exact hnp) (by rw [← HN.out, ← HFF.out]; exact HA.out))
                      go_wp2_with fail
                      go_roundw
                      case rel => exact ⟨k + 1, by go_num, by omega, fun q hq => by rcases Nat.lt_or_ge q k with h | h; exact HZ.out q h; rw [show q = k by omega]; exact HO.out, hbel, p0, p1, p2⟩
                      case measure => simp [intOf]; omega
                · have HE := Lib.hid (show chErr 3 p s sn sf = 14 by
                    have h1 : rowE p (0) (sn k) (sf k) = 14 := rowE_fit (by rw [← HN.out]; exact hnp)
                    rw [hF.out, firstE_at hks HZ.out (by rw [h1]; decide), h1])
                  have hne : ((n : Int) != (p : Int)) = true := by simp; omega
                  go_wp2_with fail
                  go_ret
                  exact ⟨by rw [HE.out]; rfl, hbel⟩
              · obtain rfl : k = s := by omega
                have HE := Lib.hid (show chErr 3 p k sn sf = 0 by rw [hF.out]; exact firstE_none HZ.out)
                go_wp2_with fail
                go_ret
                exact ⟨by rw [HE.out]; rfl, hbel⟩
  · have i1 : inB kind 0 3 = false := inB_false.2 c1
    have HE := Lib.hid (show chErr kind p s sn sf = 8 by unfold chErr; rw [if_pos c1])
    have HC := Lib.hid c1
    clear c1
    go_enter Try.func13, Try.ntmps13
    go_wp2_with (go_at_call 16; refine (in_any _ _ _ _).mono ?_; (first | rw [i1] | rw [i2]); rintro e w9 ⟨rfl, rfl⟩)
    all_goals first | (exfalso; have := HC.out; omega) | skip
    all_goals
      go_ret
      refine ⟨by rw [HE.out]; rfl, ?_⟩
      repeat' (with_reducible first | exact Below.refl _ _ | assumption | refine Below.setCell ?_ ?_ _ | refine Below.alloc ?_ ?_ _ | refine below_drewN ?_ _ | refine Below.drew ?_)
      all_goals first | omega | (simp; done) | (simp; omega)
end Go.Proofs.Ytnigebnibikolaa.CH
