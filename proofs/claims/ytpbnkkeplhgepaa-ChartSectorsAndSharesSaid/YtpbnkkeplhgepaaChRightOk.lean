
/-
  The reference's sharesRight finds Shares right: values that can be shared.
-/
import Derived.Test.YtpbnkkeplhgepaaChRight
namespace Go.Proofs.Ytpbnkkeplhgepaa.CH
open Go.RowKit Go.Law Go.Law.Ch Ref
set_option linter.unusedVariables false
set_option linter.unusedSimpArgs false
set_option maxRecDepth 100000
set_option maxHeartbeats 8000000 in
theorem right_ok (n : Nat) (f : Nat → Int) (a : Option Addr) (c : Nat) (w : World) (ha : IntsF w a n f) (he : shErr n f = 0) :
    Calls Try.prog 32 #[.slice a n c] w fun e w' => e = .returned (.bool true) ∧ Below w.heap.size w w' := by
  have hsh := shares_ok n f a c w ha he
  obtain ⟨hn0, hn, hok⟩ := shErr_zero he
  clear he
  obtain ⟨b, off, rfl, hc⟩ := ha hn0
  obtain ⟨hA1, hA2⟩ := okV_sum hok (Nat.le_refl n) hn
  have hmk := make_ints n (by omega)
  have hn00 : ((n : Int) == 0) = false := by simp; omega
  have HC0 := Lib.hid hc
  have HOK := Lib.hid hok
  clear ha hc hok
  go_enter Try.func32, Try.ntmps32
  go_wp2_with fail
  refine hsh.mono ?_
  rintro e w1 ⟨hb1, g1, rfl, hg1, hown1⟩
  clear hsh
  have HC : Hid (∀ i, i < n → w1.cell? ⟨b, off + i, none⟩ = some (.int .i64 (f i))) := Lib.hid fun i hi => (hb1.cell (lt_of_cell (HC0.out i hi))).trans (HC0.out i hi)
  have HG := Lib.hid hown1
  have HB1 := Lib.hid hb1
  clear hb1 hown1 HC0
  go_wp2_with fail
  go_loopw [5, 6, 35] (fun fx ax ix wr => ∃ k : Nat, ix = .int .i64 k ∧ fx = .int .i64 0 ∧ ax = .int .i64 (sumI f k) ∧ k ≤ n ∧ w1 = wr) (fun _ _ ix _ => n - (intOf ix).toNat)
  case atStart => exact ⟨0, rfl, rfl, rfl, by omega, rfl⟩
  case round =>
    obtain ⟨k, rfl, rfl, rfl, hk, rfl⟩ := hrel
    by_cases hkn : k < n
    · have d1 := HC.out k hkn
      obtain ⟨hr1, hr2⟩ := HOK.out k hkn
      have i1 := inB_true.2 (HOK.out k hkn)
      obtain ⟨hs1, hs2⟩ := okV_sum (fun i hi => HOK.out i (by omega)) hk hn
      go_wp2_with (go_at_call 14; refine (in_any _ _ _ _).mono ?_; rw [i1]; rintro e w9 ⟨rfl, rfl⟩)
      go_roundw
      case rel => exact ⟨k + 1, by go_num, rfl, rfl, by omega, trivial⟩
      case measure => simp [intOf]; omega
    · obtain rfl : n = k := by omega
      obtain ⟨A, hA⟩ : ∃ A, A = sumI f n := ⟨_, rfl⟩
      rw [← hA]
      rw [← hA] at hA1 hA2
      have HA := Lib.hid hA
      clear hA
      by_cases hz : A = 0
      · have HZ := Lib.hid hz
        subst hz
        go_wp2_with fail
        refine (same_any n n (shareF n f) (fun _ => 0) _ _ _ _ _ (HG.out.alloc _).ints (OwnF.make 3 n).ints (by omega) (by omega)).mono ?_
        rintro e w5 ⟨rfl, hb5⟩
        rw [sameB_true.2 ⟨rfl, fun j hj => by unfold shareF; rw [← HA.out, if_pos rfl]⟩]
        go_wp2_with fail
        go_ret
        exact ⟨rfl, HB1.out.trans ((((Below.refl _ _).alloc (Nat.le_refl _) _).trans (hb5.mono (by simp))).mono HB1.out.size)⟩
      · have hpos : 0 < A := by omega
        have hAz : decide (0 < A) = true := decide_eq_true hpos
        have hqb : ∀ k, k < n → 0 ≤ quo f A k ∧ quo f A k ≤ 1000 := fun k hk => by rw [HA.out]; exact quo_bounds (fun i hi => (HOK.out i hi).1) (by rw [← HA.out]; exact hpos) hk
        obtain ⟨hl1, hl2⟩ := quo_left (f := f) (n := n) (by rw [← HA.out]; exact hpos)
        rw [← HA.out] at hl1 hl2
        obtain ⟨L, hL⟩ : ∃ L : Nat, 1000 - sumI (quo f A) n = (L : Int) := ⟨(1000 - sumI (quo f A) n).toNat, by omega⟩
        have hLn : L ≤ n := by omega
        have hsb : ∀ k, k ≤ n → 0 ≤ sumI (quo f A) k ∧ sumI (quo f A) k ≤ 1000 := fun k hk => by
          have h1 := sumI_mono (fun i hi => (hqb i hi).1) hk
          have h2 := sumI_mono (f := quo f A) (n := k) (k := 0) (fun i hi => (hqb i (by omega)).1) (by omega)
          simp only [sumI] at h2
          omega
        have HQB := Lib.hid hqb
        have HSB := Lib.hid hsb
        have HL := Lib.hid hL
        clear hqb hsb hL hl1 hl2
        go_wp2_with fail
        go_loopw [10, 67] (fun lx ix wr => ∃ k : Nat, ix = .int .i64 k ∧ lx = .int .i64 (1000 - sumI (quo f A) k) ∧ k ≤ n ∧ OwnF wr 3 w1.heap.size n (fun j => if j < k then quo f A j else 0) ∧ Below w1.heap.size w1 wr) (fun _ ix _ => n - (intOf ix).toNat)
        case atStart => exact ⟨0, rfl, rfl, by omega, (OwnF.make 3 n).congr fun i hi => by simp, (Below.refl _ _).alloc (Nat.le_refl _) _⟩
        case round =>
          obtain ⟨k, rfl, rfl, hk, hown, hbel⟩ := hrel
          by_cases hkn : k < n
          · have hd1 := HC.out k hkn
            have d1 := (hbel.cell (lt_of_cell hd1)).trans hd1
            obtain ⟨hr1, hr2⟩ := HOK.out k hkn
            obtain ⟨Q, hQ⟩ : ∃ Q : Int, 1000 * f k / A = Q := ⟨_, rfl⟩
            have hQ1 : 0 ≤ Q ∧ Q ≤ 1000 := by rw [← hQ]; exact HQB.out k hkn
            obtain ⟨hs1, hs2⟩ := HSB.out k (by omega)
            have f1 := hown.frozen k
            have o1 := hown.cell hkn
            have HO := Lib.hid hown
            have HQ := Lib.hid hQ
            clear hown
            obtain ⟨y, hy⟩ : ∃ y : Int, y = (if k < k then quo f A k else 0) := ⟨_, rfl⟩
            rw [← hy] at o1
            clear hy hd1
            go_wp2_with fail
            go_roundw
            case rel => exact ⟨k + 1, by go_num, vint (by rw [sumI_succ, ← HQ.out]; show _ = 1000 - (sumI (quo f A) k + 1000 * f k / A); omega), by omega, (HO.out.set k Q).congr (fun j hj => by
              unfold upd
              by_cases hjk : j = k
              · rw [if_pos hjk, hjk, if_pos (by omega), ← HQ.out]; rfl
              · rw [if_neg hjk]
                show (if j < k then quo f A j else 0) = if j < k + 1 then quo f A j else 0
                by_cases h2 : j < k
                · rw [if_pos h2, if_pos (by omega)]
                · rw [if_neg h2, if_neg (by omega)]), hbel.setCell (Nat.le_refl _) _⟩
            case measure => simp [intOf]; omega
          · obtain rfl : n = k := by omega
            rw [HL.out]
            have hown0 : OwnF wr 3 w1.heap.size n (fun j => if j < 0 then shareF n f j else quo f A j) := hown.congr fun j hj => by simp [hj]
            clear hown
            obtain ⟨wq, rfl⟩ : ∃ wq : World, wq = wr := ⟨_, rfl⟩
            go_wp2_with fail
            go_loopw [88] (fun ix wr => ∃ i : Nat, ix = .int .i64 i ∧ i ≤ n ∧ OwnF wr 3 w1.heap.size n (fun j => if j < i then shareF n f j else quo f A j) ∧ Below w1.heap.size w1 wr) (fun ix _ => n - (intOf ix).toNat)
            case atStart => exact ⟨0, rfl, by omega, hown0, hbel⟩
            case round =>
              obtain ⟨i, rfl, hi, hown2, hbel2⟩ := hrel
              clear hown0 hbel
              by_cases hin : i < n
              · have hd1 := HC.out i hin
                have d1 := (hbel2.cell (lt_of_cell hd1)).trans hd1
                obtain ⟨hi1, hi2⟩ := HOK.out i hin
                obtain ⟨R2, hR2⟩ : ∃ R : Int, 1000 * f i % A = R := ⟨_, rfl⟩
                obtain ⟨wq2, rfl⟩ : ∃ wq : World, wq = wr := ⟨_, rfl⟩
                go_wp2_with fail
                go_loopw [15, 95] (fun cx ix wr => ∃ k : Nat, ix = .int .i64 k ∧ cx = .int .i64 (cntB (fun k => Ch.ahead (rem f A) k i) k : Nat) ∧ k ≤ n ∧ OwnF wr 3 w1.heap.size n (fun j => if j < i then shareF n f j else quo f A j) ∧ Below w1.heap.size w1 wr) (fun _ ix _ => n - (intOf ix).toNat)
                case atStart => exact ⟨0, rfl, rfl, by omega, hown2, hbel2⟩
                case round =>
                  obtain ⟨k, rfl, rfl, hk, hown3, hbel3⟩ := hrel
                  have HO := Lib.hid hown3
                  clear hown2 hbel2
                  have hcb := cntB_le (p := fun k => Ch.ahead (rem f A) k i) (n := k)
                  by_cases hkn : k < n
                  · clear hown3
                    obtain ⟨C, hC⟩ : ∃ C, C = cntB (fun k => Ch.ahead (rem f A) k i) k := ⟨_, rfl⟩
                    rw [← hC] at hcb ⊢
                    have HCC := Lib.hid hC
                    clear hC d1
                    have hd2 := HC.out k hkn
                    have d2 := (hbel3.cell (lt_of_cell hd2)).trans hd2
                    obtain ⟨hr1, hr2⟩ := HOK.out k hkn
                    obtain ⟨R1, hR1⟩ : ∃ R : Int, 1000 * f k % A = R := ⟨_, rfl⟩
                    have HR1 := Lib.hid hR1
                    have HR2 := Lib.hid hR2
                    clear hd2
                    have hki : (k : Int) < (n : Int) := by omega
                    have hii : (i : Int) < (n : Int) := by omega
                    by_cases h1 : R2 < R1
                    · have hd1 : decide (R2 < R1) = true := decide_eq_true h1
                      have HE := Lib.hid (show Ch.ahead (rem f A) k i = true by
                        have e1 : rem f A k = R1 := HR1.out
                        have e2 : rem f A i = R2 := HR2.out
                        simp only [Ch.ahead, e1, e2]
                        simp
                        omega)
                      have HCS := Lib.hid (show cntB (fun k => Ch.ahead (rem f A) k i) (k + 1) = C + 1 by
                        show cntB (fun k => Ch.ahead (rem f A) k i) k + (if Ch.ahead (rem f A) k i = true then 1 else 0) = C + 1
                        rw [← HCC.out, HE.out]
                        try simp)
                      go_wp2_with fail
                      go_quiet (fail)
                      go_wp2_with fail
                      go_roundw
                      case rel => exact ⟨k + 1, by go_num, by rw [HCS.out]; first | done | go_num, by omega, HO.out.drewN _, below_drewN hbel3 _⟩
                      case measure => simp [intOf]; omega
                    · have hd1 : decide (R2 < R1) = false := decide_eq_false h1
                      by_cases h2 : R1 = R2
                      · have hd2 : (R1 == R2) = true := by simpa using h2
                        by_cases h3 : k < i
                        · have hd3 : decide ((k : Int) < (i : Int)) = true := decide_eq_true (by omega)
                          have HE := Lib.hid (show Ch.ahead (rem f A) k i = true by
                            have e1 : rem f A k = R1 := HR1.out
                            have e2 : rem f A i = R2 := HR2.out
                            simp only [Ch.ahead, e1, e2]
                            simp
                            omega)
                          have HCS := Lib.hid (show cntB (fun k => Ch.ahead (rem f A) k i) (k + 1) = C + 1 by
                            show cntB (fun k => Ch.ahead (rem f A) k i) k + (if Ch.ahead (rem f A) k i = true then 1 else 0) = C + 1
                            rw [← HCC.out, HE.out]
                            try simp)
                          go_wp2_with fail
                          go_quiet (fail)
                          go_wp2_with fail
                          go_roundw
                          case rel => exact ⟨k + 1, by go_num, by rw [HCS.out]; first | done | go_num, by omega, HO.out.drewN _, below_drewN hbel3 _⟩
                          case measure => simp [intOf]; omega
                        · have hd3 : decide ((k : Int) < (i : Int)) = false := decide_eq_false (by omega)
                          have HE := Lib.hid (show Ch.ahead (rem f A) k i = false by
                            have e1 : rem f A k = R1 := HR1.out
                            have e2 : rem f A i = R2 := HR2.out
                            simp only [Ch.ahead, e1, e2]
                            simp
                            omega)
                          have HCS := Lib.hid (show cntB (fun k => Ch.ahead (rem f A) k i) (k + 1) = C by
                            show cntB (fun k => Ch.ahead (rem f A) k i) k + (if Ch.ahead (rem f A) k i = true then 1 else 0) = C
                            rw [← HCC.out, HE.out]
                            try simp)
                          go_wp2_with fail
                          go_quiet (fail)
                          go_wp2_with fail
                          go_roundw
                          case rel => exact ⟨k + 1, by go_num, by rw [HCS.out]; first | done | go_num, by omega, HO.out.drewN _, below_drewN hbel3 _⟩
                          case measure => simp [intOf]; omega
                      · have hd2 : (R1 == R2) = false := by simpa using h2
                        have HE := Lib.hid (show Ch.ahead (rem f A) k i = false by
                          have e1 : rem f A k = R1 := HR1.out
                          have e2 : rem f A i = R2 := HR2.out
                          simp only [Ch.ahead, e1, e2]
                          simp
                          omega)
                        have HCS := Lib.hid (show cntB (fun k => Ch.ahead (rem f A) k i) (k + 1) = C by
                          show cntB (fun k => Ch.ahead (rem f A) k i) k + (if Ch.ahead (rem f A) k i = true then 1 else 0) = C
                          rw [← HCC.out, HE.out]
                          try simp)
                        go_wp2_with fail
                        go_quiet (fail)
                        go_wp2_with fail
                        go_roundw
                        case rel => exact ⟨k + 1, by go_num, by rw [HCS.out]; first | done | go_num, by omega, HO.out.drewN _, below_drewN hbel3 _⟩
                        case measure => simp [intOf]; omega
                  · obtain rfl : n = k := by omega
                    have hrk : cntB (fun k => Ch.ahead (rem f A) k i) n = rank (rem f A) n i := rfl
                    rw [hrk] at hcb ⊢
                    obtain ⟨C, hC⟩ : ∃ C, C = rank (rem f A) n i := ⟨_, rfl⟩
                    rw [← hC] at hcb ⊢
                    have HCC := Lib.hid hC
                    have f1 := hown3.frozen i
                    have o1 := hown3.cell hin
                    rw [if_neg (Nat.lt_irrefl i)] at o1
                    obtain ⟨hq1, hq2⟩ := HQB.out i hin
                    obtain ⟨y, hy⟩ : ∃ y, y = quo f A i := ⟨_, rfl⟩
                    have HY := Lib.hid hy
                    rw [← hy] at o1 hq1 hq2
                    have HR2 := Lib.hid hR2
                    clear hown3 hC hrk hy hR2
                    have hsh : Hid (shareF n f i = y + if (C : Int) < L then 1 else 0) := Lib.hid (by unfold shareF; rw [← HA.out, if_neg (by omega), HL.out, ← HCC.out, ← HY.out])
                    by_cases hcl : C < L
                    · go_wp2_with fail
                      go_roundw
                      case rel => exact ⟨i + 1, by go_num, by omega, (HO.out.set i (y + 1)).congr (fun j hj => by
                        unfold upd
                        by_cases hji : j = i
                        · rw [if_pos hji, hji, if_pos (by omega), hsh.out, if_pos (by omega)]
                        · rw [if_neg hji]
                          show (if j < i then shareF n f j else quo f A j) = if j < i + 1 then shareF n f j else quo f A j
                          by_cases h2 : j < i
                          · rw [if_pos h2, if_pos (by omega)]
                          · rw [if_neg h2, if_neg (by omega)]), hbel3.setCell (Nat.le_refl _) _⟩
                      case measure => simp [intOf]; omega
                    · go_wp2_with fail
                      go_roundw
                      case rel => exact ⟨i + 1, by go_num, by omega, HO.out.congr (fun j hj => by
                        by_cases hji : j = i
                        · rw [hji, if_neg (Nat.lt_irrefl i), if_pos (by omega), hsh.out, if_neg (by omega), HY.out]; omega
                        · by_cases h2 : j < i
                          · rw [if_pos h2, if_pos (by omega)]
                          · rw [if_neg h2, if_neg (by omega)]), hbel3⟩
                      case measure => simp [intOf]; omega
              · obtain rfl : n = i := by omega
                have hsz := hbel2.size
                go_wp2_with fail
                refine (same_any n n (shareF n f) (fun j => if j < n then shareF n f j else quo f A j) _ _ _ _ _ (HG.out.below hbel2 HG.out.lt).ints hown2.ints (by omega) (by omega)).mono ?_
                rintro e w5 ⟨rfl, hb5⟩
                rw [sameB_true.2 ⟨rfl, fun j hj => by rw [if_pos hj]⟩]
                go_wp2_with fail
                go_ret
                exact ⟨rfl, HB1.out.trans ((hbel2.trans (hb5.mono hsz)).mono HB1.out.size)⟩
end Go.Proofs.Ytpbnkkeplhgepaa.CH
