
/-
  scale.Find returns the scale of the least step that is great enough.
-/
import Derived.Test.YtpbnkkeplhgepaaProg
import Derived.Test.YtpbnkkeplhgepaaCommon
import Derived.Test.YtpbnkkeplhgepaaScalePlain
import Derived.WalkLawsBesides
import Derived.Lib.Hide
import Derived.Deep.QuietTactic
import Derived.BigQuiet
namespace Go.Proofs.Ytpbnkkeplhgepaa.SF
open Go.RowKit Go.Law Go.Law.Scale
set_option linter.unusedVariables false
set_option linter.unusedSimpArgs false
set_option maxRecDepth 100000

theorem floor_any (a b : Int) (w : World) (ha : -4000000000000000000 ≤ a ∧ a ≤ 4000000000000000000) (hb : 1 ≤ b ∧ b ≤ 4000000000000000000) :
    Calls Try.prog 45 #[.int .i64 a, .int .i64 b] w fun e w' => e = .returned (.int .i64 (a / b)) ∧ w = w' := by
  have h := tdiv_floor a b hb.1
  have hd := abs_bd (a := a) (s := b) (m := 4000000000000000000) hb.1 (by omega) (by omega) (by omega)
  by_cases c1 : a.tmod b < 0
  · rw [if_pos c1] at h
    go_enter Try.func45, Try.ntmps45
    go_wp2
    go_ret
    exact ⟨by simp, rfl⟩
  · rw [if_neg c1] at h
    go_enter Try.func45, Try.ntmps45
    go_wp2
    go_ret
    exact ⟨by simp, rfl⟩
theorem down_any (a b : Int) (w : World) (ha : -4000000000000000000 ≤ a ∧ a ≤ 4000000000000000000) (hb : 1 ≤ b ∧ b ≤ 1000000000000000000) :
    Calls Try.prog 16 #[.int .i64 a, .int .i64 b] w fun e w' => e = .returned (.int .i64 (a / b)) ∧ w = w' := by
  have h := tdiv_down a b hb.1
  have hd := abs_bd (a := a) (s := b) (m := 4000000000000000000) hb.1 (by omega) (by omega) (by omega)
  have hA := A_bd (low := a) hb.1
  by_cases c1 : a < a.tdiv b * b
  · rw [if_pos c1] at h
    have c2 : a < (a / b + 1) * b ∧ (a / b + 1) * b ≤ 5000000000000000000 ∧ -5000000000000000000 ≤ (a / b + 1) * b := by rw [Int.add_mul]; omega
    clear c1
    go_enter Try.func16, Try.ntmps16
    go_wp2
    go_ret
    exact ⟨by simp, rfl⟩
  · rw [if_neg c1] at h
    clear c1
    go_enter Try.func16, Try.ntmps16
    go_wp2
    go_ret
    exact ⟨by simp, rfl⟩

def scaleVal (low high s : Int) : Value := .tuple #[.agg #[.int .i64 (low / s * s), .int .i64 (T low high s * s), .int .i64 s], .int .i64 0]
set_option maxHeartbeats 2000000 in
theorem find_ok (low high steps : Int) (i0 : Nat) (w : World) (h1 : -1000000000000 ≤ low ∧ low ≤ 1000000000000) (h2 : -1000000000000 ≤ high ∧ high ≤ 1000000000000) (h3 : 2 ≤ steps ∧ steps ≤ 50) (h4 : low ≤ high)
    (hi : i0 ≤ 39) (hg : FitsIn low high steps i0) (hmin : ∀ j, j < i0 → ¬ FitsIn low high steps j) :
    Calls Try.prog 15 #[.int .i64 low, .int .i64 high, .int .i64 steps] w fun e w' => e = .returned (scaleVal low high (S i0)) ∧ Below w.heap.size w w' := by
  have HG := Lib.hid hg
  have HM := Lib.hid hmin
  clear hg hmin
  go_enter Try.func15, Try.ntmps15
  go_wp2
  go_loopw [8] (fun p wr => ∃ n : Nat, p = .int .i64 ((10 : Int) ^ n) ∧ 3 * n ≤ i0 ∧ Below (w.heap.size + 1) (w.alloc (.cells #[.int .i64 0, .int .i64 0, .int .i64 0] 30)) wr) (fun p _ => 100000000000000 - (intOf p).toNat)
  case atStart => exact ⟨0, rfl, by omega, Below.refl _ _⟩
  case round =>
    obtain ⟨n, rfl, hn, hb⟩ := hrel
    have hp := pow_le n (by omega)
    obtain ⟨pw, hpw⟩ : ∃ pw : Int, pw = 10 ^ n := ⟨_, rfl⟩
    rw [← hpw] at hp ⊢
    have HP := Lib.hid hpw
    clear hpw
    obtain ⟨wo, rfl⟩ : ∃ wo : World, wo = wr := ⟨_, rfl⟩
    go_wp2
    go_loopw [45] (fun ix wr => ∃ m : Nat, ix = .int .i64 m ∧ m ≤ 3 ∧ 3 * n + m ≤ i0 ∧ Below (wo.heap.size + 1) (wo.alloc (.cells #[.int .i64 1, .int .i64 2, .int .i64 5] 3)) wr) (fun ix _ => 3 - (intOf ix).toNat)
    case atStart => exact ⟨0, rfl, by omega, by omega, Below.refl _ _⟩
    case round =>
      obtain ⟨m, rfl, hm, hmi, hi'⟩ := hrel
      obtain ⟨hc_hb, hf_hb⟩ := bcell hb
      have hs_hb := (hb).size
      simp at hs_hb
      have z_a : w.heap.size < wo.heap.size := by omega
      have zk_a : ∀ k, w.heap.size < wo.heap.size + k := fun k => by omega
      by_cases hm3 : m < 3
      · obtain ⟨hc_hi, hf_hi⟩ := bcell hi'
        have hcm : wr.cell? ⟨wo.heap.size, m, none⟩ = some (.int .i64 (c m)) := by
          rw [hc_hi _ _ (by omega)]
          match m, hm3 with
          | 0, _ => simp [c]
          | 1, _ => simp [c]
          | 2, _ => simp [c]
        have k0 : wr.cell? ⟨w.heap.size, 0, none⟩ = some (.int .i64 0) := by rw [hc_hi _ _ (by omega)]; simp [World.cell?_alloc_past, z_a, hc_hb]
        have k1 : wr.cell? ⟨w.heap.size, 1, none⟩ = some (.int .i64 0) := by rw [hc_hi _ _ (by omega)]; simp [World.cell?_alloc_past, z_a, hc_hb]
        have k2 : wr.cell? ⟨w.heap.size, 2, none⟩ = some (.int .i64 0) := by rw [hc_hi _ _ (by omega)]; simp [World.cell?_alloc_past, z_a, hc_hb]
        have kf : ∀ o, wr.frozen? ⟨w.heap.size, o, none⟩ = false := by
          intro o
          rw [hf_hi _ _ (by omega)]
          simp [World.frozen?_alloc_past, z_a, hf_hb]
        clear hc_hi hf_hi hc_hb hf_hb
        have hcl := c_le m
        obtain ⟨s, hs⟩ : ∃ s, s = c m * pw := ⟨_, rfl⟩
        have hS : S (3 * n + m) = s := by rw [S_pow m hm3, hs, ← HP.out]
        have hs' : c m * pw = s := hs.symm
        have hs1 : 1 ≤ s := by rw [← hS]; exact S_pos _
        have hs2 : s ≤ 10000000000000 := by rw [← hS]; exact S_le _ (by omega)
        clear hs
        have HS := Lib.hid hS
        clear hS
        have hA := A_bd (low := low) hs1
        have hB := B_bd (high := high) hs1
        have hB' : (-(-high / s) + 1) * s = -(-high / s) * s + s := by rw [Int.add_mul, Int.one_mul]
        have hab := abs_bd (a := low) (m := 1000000000000) hs1 (by omega) h1.1 h1.2
        have hbb := abs_bd (a := -high) (m := 1000000000000) hs1 (by omega) (by omega) (by omega)
        by_cases he : low / s = -(-high / s)
        · have he' : (low / s == -(-high / s)) = true := by simp [← he]
          have HT := Lib.hid (show T low high s = -(-high / s) + 1 by unfold T A B; rw [if_pos he])
          by_cases hf : -(-high / s) + 1 - low / s ≤ steps
          · have HI := Lib.hid (show S i0 = s by
              have : FitsIn low high steps (3 * n + m) := by unfold FitsIn; rw [HS.out, HT.out]; exact hf
              rcases Nat.lt_or_ge (3 * n + m) i0 with h | h
              · exact absurd this (HM.out _ h)
              · rw [show i0 = 3 * n + m by omega]; exact HS.out)
            clear he
            go_wp2_with (go_at_call 45; refine (floor_any _ _ _ (by omega) (by omega)).mono ?_; rintro e w3 ⟨rfl, rfl⟩)
            refine bodyPost_ret (v := scaleVal low high (S i0)) ?_ rfl ⟨rfl, ?_⟩
            · rw [show S i0 = s from HI.out]
              unfold scaleVal
              rw [HT.out]
              simp [results, Try.results15, go_sem, k0, k1, k2, hB']
            · clear k0 k1 k2 kf
              repeat' (with_reducible first | exact Below.refl _ _ | refine Below.setCell ?_ ?_ _ | refine Below.trans ?_ (Below.mono hi' ?_) | refine Below.alloc ?_ ?_ _ | refine Below.trans ?_ (Below.mono hb ?_))
              all_goals first | omega | (simp; done) | (simp; omega)
          · have HI := Lib.hid (show 3 * n + m < i0 by
              rcases Nat.lt_or_ge (3 * n + m) i0 with h | h
              · exact h
              · have e : i0 = 3 * n + m := by omega
                have := HG.out
                rw [e] at this
                unfold FitsIn at this
                rw [HS.out, HT.out] at this
                exact absurd this hf)
            clear he
            go_wp2_with (go_at_call 45; refine (floor_any _ _ _ (by omega) (by omega)).mono ?_; rintro e w3 ⟨rfl, rfl⟩)
            go_roundw
            case rel => exact ⟨m + 1, by go_num, by omega, by have := HI.out; omega, hi'⟩
            case measure => simp [intOf]; omega
        · have he' : (low / s == -(-high / s)) = false := by simpa using he
          have HT := Lib.hid (show T low high s = -(-high / s) by unfold T A B; rw [if_neg he])
          by_cases hf : -(-high / s) - low / s ≤ steps
          · have HI := Lib.hid (show S i0 = s by
              have : FitsIn low high steps (3 * n + m) := by unfold FitsIn; rw [HS.out, HT.out]; exact hf
              rcases Nat.lt_or_ge (3 * n + m) i0 with h | h
              · exact absurd this (HM.out _ h)
              · rw [show i0 = 3 * n + m by omega]; exact HS.out)
            clear he
            go_wp2_with (go_at_call 45; refine (floor_any _ _ _ (by omega) (by omega)).mono ?_; rintro e w3 ⟨rfl, rfl⟩)
            refine bodyPost_ret (v := scaleVal low high (S i0)) ?_ rfl ⟨rfl, ?_⟩
            · rw [show S i0 = s from HI.out]
              unfold scaleVal
              rw [HT.out]
              simp [results, Try.results15, go_sem, k0, k1, k2, hB']
            · clear k0 k1 k2 kf
              repeat' (with_reducible first | exact Below.refl _ _ | refine Below.setCell ?_ ?_ _ | refine Below.trans ?_ (Below.mono hi' ?_) | refine Below.alloc ?_ ?_ _ | refine Below.trans ?_ (Below.mono hb ?_))
              all_goals first | omega | (simp; done) | (simp; omega)
          · have HI := Lib.hid (show 3 * n + m < i0 by
              rcases Nat.lt_or_ge (3 * n + m) i0 with h | h
              · exact h
              · have e : i0 = 3 * n + m := by omega
                have := HG.out
                rw [e] at this
                unfold FitsIn at this
                rw [HS.out, HT.out] at this
                exact absurd this hf)
            clear he
            go_wp2_with (go_at_call 45; refine (floor_any _ _ _ (by omega) (by omega)).mono ?_; rintro e w3 ⟨rfl, rfl⟩)
            go_roundw
            case rel => exact ⟨m + 1, by go_num, by omega, by have := HI.out; omega, hi'⟩
            case measure => simp [intOf]; omega
      · obtain rfl : m = 3 := by omega
        go_wp2
        go_roundw
        case rel => exact ⟨n + 1, by rw [Int.pow_succ, ← HP.out], by omega, hb.trans (((Below.refl _ _).alloc (by omega) _).trans (hi'.mono (by omega)))⟩
        case measure => simp [intOf]; omega

def zeroVal (e : Int) : Value := .tuple #[.agg #[.int .i64 0, .int .i64 0, .int .i64 0], .int .i64 e]
set_option maxHeartbeats 1000000 in
theorem find_range (low high steps : Int) (w : World) (h : ¬ ((-1000000000000 ≤ low ∧ low ≤ 1000000000000) ∧ (-1000000000000 ≤ high ∧ high ≤ 1000000000000) ∧ (2 ≤ steps ∧ steps ≤ 50))) :
    Calls Try.prog 15 #[.int .i64 low, .int .i64 high, .int .i64 steps] w fun e w' => e = .returned (zeroVal 2) ∧ Below w.heap.size w w' := by
  have H := Lib.hid h
  clear h
  go_enter Try.func15, Try.ntmps15
  go_wp2_with fail
  all_goals first | (exfalso; have := H.out; omega) | skip
  all_goals
    refine bodyPost_ret (v := zeroVal 2) ?_ rfl ⟨rfl, ?_⟩
    · simp [results, Try.results15, go_sem, zeroVal]
    · repeat' (with_reducible first | exact Below.refl _ _ | assumption | refine Below.setCell ?_ ?_ _ | refine Below.alloc ?_ ?_ _ | refine below_drewN ?_ _ | refine Below.drew ?_)
      all_goals first | omega | (simp; done) | (simp; omega)
set_option maxHeartbeats 1000000 in
theorem find_order (low high steps : Int) (w : World) (h1 : -1000000000000 ≤ low ∧ low ≤ 1000000000000) (h2 : -1000000000000 ≤ high ∧ high ≤ 1000000000000) (h3 : 2 ≤ steps ∧ steps ≤ 50) (h4 : high < low) :
    Calls Try.prog 15 #[.int .i64 low, .int .i64 high, .int .i64 steps] w fun e w' => e = .returned (zeroVal 5) ∧ Below w.heap.size w w' := by
  go_enter Try.func15, Try.ntmps15
  go_wp2_with fail
  refine bodyPost_ret (v := zeroVal 5) ?_ rfl ⟨rfl, ?_⟩
  · simp [results, Try.results15, go_sem, zeroVal]
  · repeat' (with_reducible first | exact Below.refl _ _ | assumption | refine Below.setCell ?_ ?_ _ | refine Below.alloc ?_ ?_ _ | refine below_drewN ?_ _ | refine Below.drew ?_)
    all_goals first | omega | (simp; done) | (simp; omega)
end Go.Proofs.Ytpbnkkeplhgepaa.SF
