
/-
  The reference's sided reads the sides of Several.
-/
import Derived.Test.YtpbnkkeplhgepaaPrSeveral
import Derived.Test.YtpbnkkeplhgepaaIn
namespace Go.Proofs.Ytpbnkkeplhgepaa.PO
open Go.RowKit Go.Law Ref
set_option linter.unusedVariables false
set_option linter.unusedSimpArgs false
set_option maxRecDepth 100000
theorem sided_range (n : Nat) (a ay : Option Addr) (ca cy : Nat) (rows cols : Int) (dn : Bool) (w : World) (hc : ¬ (1 ≤ rows ∧ rows ≤ 8 ∧ 1 ≤ cols ∧ cols ≤ 8)) :
    Calls Try.prog 28 #[.slice a n ca, .int .i64 rows, .int .i64 cols, .bool dn, .slice ay 0 cy, .int .i64 2] w fun e w' => e = .returned (.bool true) ∧ w = w' := by
  by_cases h1 : 1 ≤ rows ∧ rows ≤ 8
  · have i1 := inB_true.2 h1
    have i2 := inB_false.2 (show ¬ (1 ≤ cols ∧ cols ≤ 8) from fun h => hc ⟨h1.1, h1.2, h⟩)
    clear hc h1
    go_enter Try.func28, Try.ntmps28
    go_wp2_with (go_at_call 14; refine (in_any _ _ _ _).mono ?_; (first | rw [i1] | rw [i2]); rintro e w9 ⟨rfl, rfl⟩)
    go_ret
    exact ⟨rfl, rfl⟩
  · have i1 := inB_false.2 h1
    clear hc h1
    go_enter Try.func28, Try.ntmps28
    go_wp2_with (go_at_call 14; refine (in_any _ _ _ _).mono ?_; rw [i1]; rintro e w9 ⟨rfl, rfl⟩)
    go_ret
    exact ⟨rfl, rfl⟩
def SidesR (w : World) (a : Option Addr) (cnt m n r c : Nat) (dn : Bool) (f : Nat → Int) : Prop :=
  0 < cnt → ∃ gv, a = some ⟨gv, 0, none⟩ ∧ ∀ q, q < cnt → ∃ gl, w.cell? ⟨gv, q, none⟩ = some (.slice (some ⟨gl, 0, none⟩) m m) ∧ ∀ j, j < m → w.cell? ⟨gl, j, none⟩ = some (.int .i64 (sideF m n r c dn f q j))
theorem SidesR.of {w : World} {base : Nat} {v : Value} {cnt m n r c : Nat} {dn : Bool} {f : Nat → Int} (h : SevInv w base v cnt m n r c dn f) : ∃ a cap, v = .slice a cnt cap ∧ SidesR w a cnt m n r c dn f := by
  obtain ⟨xs, G, hown, hall, _⟩ := h
  rcases Nat.eq_zero_or_pos cnt with h0 | h0
  · subst h0
    obtain ⟨_, ⟨rfl, _⟩ | ⟨g, cap, cur, rfl, _⟩⟩ := hown
    · exact ⟨_, _, rfl, fun h => by omega⟩
    · exact ⟨_, _, rfl, fun h => by omega⟩
  · obtain ⟨g, cap, rfl, _, _, _, hcell⟩ := ownsRow_some hown h0
    exact ⟨_, _, rfl, fun _ => ⟨g, rfl, fun q hq => ⟨G q, hcell _ _ (hall q hq).2.1, fun j hj => (hall q hq).2.2.cell hj⟩⟩⟩
set_option maxHeartbeats 8000000 in
theorem sided_ok (n r c m cnt : Nat) (f : Nat → Int) (a ay : Option Addr) (ca cy : Nat) (dn : Bool) (w : World) (ha : IntsF w a n f) (hn : n ≤ 10000) (hr : 1 ≤ r ∧ r ≤ 8) (hc : 1 ≤ c ∧ c ≤ 8) (hm : (r : Int) * (c : Int) = (m : Int))
    (hlo : n ≤ cnt * m) (hhi : cnt * m < n + m) (hy : SidesR w ay cnt m n r c dn f) :
    Calls Try.prog 28 #[.slice a n ca, .int .i64 (r : Int), .int .i64 (c : Int), .bool dn, .slice ay cnt cy, .int .i64 0] w fun e w' => e = .returned (.bool true) ∧ w = w' := by
  have i1 := inB_true.2 (show (1 : Int) ≤ (r : Int) ∧ (r : Int) ≤ 8 by omega)
  have i2 := inB_true.2 (show (1 : Int) ≤ (c : Int) ∧ (c : Int) ≤ 8 by omega)
  have hm64 : m ≤ 64 := by
    have h1 : r * c ≤ 8 * 8 := Nat.mul_le_mul hr.2 hc.2
    have h2 : r * c = m := by exact_mod_cast hm
    omega
  have hm0 : 0 < m := by
    have h1 : 1 * 1 ≤ r * c := Nat.mul_le_mul hr.1 hc.1
    have h2 : r * c = m := by exact_mod_cast hm
    omega
  have hcnt : ((n : Int) + (m : Int) - 1) / (m : Int) = (cnt : Int) := by
    have h1 : (n + m - 1) / m = cnt := by
      refine Nat.div_eq_of_lt_le (by omega) (by rw [Nat.succ_mul]; omega)
    rw [← h1, Int.natCast_ediv]
    congr 1
    omega
  have hcb : cnt ≤ 20000 := by
    have := Nat.le_mul_of_pos_right cnt hm0
    omega
  have HM := Lib.hid (show m = r * c by exact_mod_cast hm.symm)
  have HHI := Lib.hid hhi
  obtain ⟨hr1, hr2⟩ := hr
  obtain ⟨hc1, hc2⟩ := hc
  clear hlo hhi
  cases dn
  · go_enter Try.func28, Try.ntmps28
    go_wp2_with (go_at_call 14; refine (in_any _ _ _ _).mono ?_; (first | rw [i1] | rw [i2]); rintro e w9 ⟨rfl, rfl⟩)
    go_loop [54] (fun ix => ∃ k : Nat, ix = .int .i64 k ∧ k ≤ cnt) (fun ix => cnt - (intOf ix).toNat)
    case atStart => exact ⟨0, rfl, by omega⟩
    case round =>
      obtain ⟨k, rfl, hk⟩ := hrel
      by_cases hkn : k < cnt
      · obtain ⟨gv, rfl, hq⟩ := hy (by omega)
        obtain ⟨gl, d0, hcell⟩ := hq k hkn
        have HC := Lib.hid hcell
        obtain ⟨km, hx1⟩ : ∃ x : Nat, (k : Int) * (m : Int) = (x : Int) := ⟨k * m, by simp⟩
        have HKM := Lib.hid (show k * m = km by exact_mod_cast hx1)
        have hkmb : km ≤ 1000000 := by
          have h1 : (k + 1) * m ≤ cnt * m := Nat.mul_le_mul_right m hkn
          rw [Nat.succ_mul, HKM.out] at h1
          have h2 := HHI.out
          omega
        clear hq hcell
        go_wp2_with fail
        go_loop [64] (fun ix => ∃ r1 : Nat, ix = .int .i64 r1 ∧ r1 ≤ r) (fun ix => r - (intOf ix).toNat)
        case atStart => exact ⟨0, rfl, by omega⟩
        case round =>
          obtain ⟨r1, rfl, hr1'⟩ := hrel
          by_cases hrr : r1 < r
          · obtain ⟨rc, hx2⟩ : ∃ x : Nat, (r1 : Int) * (c : Int) = (x : Int) := ⟨r1 * c, by simp⟩
            have hrc : r1 * c = rc := by exact_mod_cast hx2
            have hrcm : rc + c ≤ m := by
              have h1 : (r1 + 1) * c ≤ r * c := Nat.mul_le_mul_right c hrr
              rw [Nat.succ_mul, hrc, ← HM.out] at h1
              exact h1
            go_wp2_with fail
            go_loop [68] (fun ix => ∃ c1 : Nat, ix = .int .i64 c1 ∧ c1 ≤ c) (fun ix => c - (intOf ix).toNat)
            case atStart => exact ⟨0, rfl, by omega⟩
            case round =>
              obtain ⟨c1, rfl, hc1'⟩ := hrel
              by_cases hcc : c1 < c
              · have d1 := HC.out (rc + c1) (by omega)
                obtain ⟨i, hi⟩ : ∃ i, i = km + rc + c1 := ⟨_, rfl⟩
                have hi' : (km : Int) + (rc : Int) + (c1 : Int) = (i : Int) := by omega
                have hpos : km + posF r c false (rc + c1) = i := by rw [hi, Nat.add_assoc]; rfl
                unfold sideF at d1
                rw [HKM.out, hpos] at d1
                clear hpos hi
                by_cases hin : i < n
                · rw [if_pos hin] at d1
                  obtain ⟨b, off, rfl, hcl⟩ := ha (by omega)
                  have d2 := hcl i hin
                  clear hcl
                  go_wp2_with fail
                  go_round
                  case rel => exact ⟨c1 + 1, by go_num, by omega⟩
                  case measure => simp [intOf]; omega
                · rw [if_neg hin] at d1
                  go_wp2_with fail
                  go_round
                  case rel => exact ⟨c1 + 1, by go_num, by omega⟩
                  case measure => simp [intOf]; omega
              · obtain rfl : c1 = c := by omega
                go_wp2_with fail
                go_round
                case rel => exact ⟨r1 + 1, by go_num, by omega⟩
                case measure => simp [intOf]; omega
          · obtain rfl : r1 = r := by omega
            go_wp2_with fail
            go_round
            case rel => exact ⟨_, _, _, _, _, _, _, _, ⟨k + 1, by go_num, by omega⟩, rfl, rfl, rfl, rfl, rfl, rfl, rfl, rfl⟩
            case measure => simp [intOf]; omega
      · obtain rfl : k = cnt := by omega
        go_wp2_with fail
        go_ret
        exact ⟨rfl, rfl⟩
  · go_enter Try.func28, Try.ntmps28
    go_wp2_with (go_at_call 14; refine (in_any _ _ _ _).mono ?_; (first | rw [i1] | rw [i2]); rintro e w9 ⟨rfl, rfl⟩)
    go_loop [54] (fun ix => ∃ k : Nat, ix = .int .i64 k ∧ k ≤ cnt) (fun ix => cnt - (intOf ix).toNat)
    case atStart => exact ⟨0, rfl, by omega⟩
    case round =>
      obtain ⟨k, rfl, hk⟩ := hrel
      by_cases hkn : k < cnt
      · obtain ⟨gv, rfl, hq⟩ := hy (by omega)
        obtain ⟨gl, d0, hcell⟩ := hq k hkn
        have HC := Lib.hid hcell
        obtain ⟨km, hx1⟩ : ∃ x : Nat, (k : Int) * (m : Int) = (x : Int) := ⟨k * m, by simp⟩
        have HKM := Lib.hid (show k * m = km by exact_mod_cast hx1)
        have hkmb : km ≤ 1000000 := by
          have h1 : (k + 1) * m ≤ cnt * m := Nat.mul_le_mul_right m hkn
          rw [Nat.succ_mul, HKM.out] at h1
          have h2 := HHI.out
          omega
        clear hq hcell
        go_wp2_with fail
        go_loop [64] (fun ix => ∃ r1 : Nat, ix = .int .i64 r1 ∧ r1 ≤ r) (fun ix => r - (intOf ix).toNat)
        case atStart => exact ⟨0, rfl, by omega⟩
        case round =>
          obtain ⟨r1, rfl, hr1'⟩ := hrel
          by_cases hrr : r1 < r
          · obtain ⟨rc, hx2⟩ : ∃ x : Nat, (r1 : Int) * (c : Int) = (x : Int) := ⟨r1 * c, by simp⟩
            have hrc : r1 * c = rc := by exact_mod_cast hx2
            have hrcm : rc + c ≤ m := by
              have h1 : (r1 + 1) * c ≤ r * c := Nat.mul_le_mul_right c hrr
              rw [Nat.succ_mul, hrc, ← HM.out] at h1
              exact h1
            go_wp2_with fail
            go_loop [68] (fun ix => ∃ c1 : Nat, ix = .int .i64 c1 ∧ c1 ≤ c) (fun ix => c - (intOf ix).toNat)
            case atStart => exact ⟨0, rfl, by omega⟩
            case round =>
              obtain ⟨c1, rfl, hc1'⟩ := hrel
              by_cases hcc : c1 < c
              · have d1 := HC.out (rc + c1) (by omega)
                obtain ⟨cr, hx3⟩ : ∃ x : Nat, (c1 : Int) * (r : Int) = (x : Int) := ⟨c1 * r, by simp⟩
                have hcr : c1 * r = cr := by exact_mod_cast hx3
                have hcrb : cr ≤ 64 := by rw [← hcr]; exact Nat.le_trans (Nat.mul_le_mul (show c1 ≤ 8 by omega) (show r ≤ 8 by omega)) (by omega)
                obtain ⟨i, hi⟩ : ∃ i, i = km + cr + r1 := ⟨_, rfl⟩
                have hi' : (km : Int) + (cr : Int) + (r1 : Int) = (i : Int) := by omega
                have hpos : km + posF r c true (rc + c1) = i := by
                  have e1 : (rc + c1) % c = c1 := by rw [← hrc, Nat.mul_comm, Nat.mul_add_mod]; exact Nat.mod_eq_of_lt hcc
                  have e2 : (rc + c1) / c = r1 := by rw [← hrc, Nat.mul_comm, Nat.mul_add_div (by omega), Nat.div_eq_of_lt hcc]; rfl
                  simp only [posF, if_pos, e1, e2, hcr]
                  omega
                clear hcr
                unfold sideF at d1
                rw [HKM.out, hpos] at d1
                clear hpos hi
                by_cases hin : i < n
                · rw [if_pos hin] at d1
                  obtain ⟨b, off, rfl, hcl⟩ := ha (by omega)
                  have d2 := hcl i hin
                  clear hcl
                  go_wp2_with fail
                  go_round
                  case rel => exact ⟨c1 + 1, by go_num, by omega⟩
                  case measure => simp [intOf]; omega
                · rw [if_neg hin] at d1
                  go_wp2_with fail
                  go_round
                  case rel => exact ⟨c1 + 1, by go_num, by omega⟩
                  case measure => simp [intOf]; omega
              · obtain rfl : c1 = c := by omega
                go_wp2_with fail
                go_round
                case rel => exact ⟨r1 + 1, by go_num, by omega⟩
                case measure => simp [intOf]; omega
          · obtain rfl : r1 = r := by omega
            go_wp2_with fail
            go_round
            case rel => exact ⟨_, _, _, _, _, _, _, _, ⟨k + 1, by go_num, by omega⟩, rfl, rfl, rfl, rfl, rfl, rfl, rfl, rfl⟩
            case measure => simp [intOf]; omega
      · obtain rfl : k = cnt := by omega
        go_wp2_with fail
        go_ret
        exact ⟨rfl, rfl⟩
end Go.Proofs.Ytpbnkkeplhgepaa.PO
