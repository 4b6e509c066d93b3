
/-
  balance.sum, balance.spread and the reference's total, deal.
-/
import Derived.Test.YtpbnkkeplhgepaaProg
import Derived.Test.YtpbnkkeplhgepaaAside
import Derived.Test.YtpbnkkeplhgepaaBalPlain
import Derived.Test.YtpbnkkeplhgepaaCommon
import Derived.WalkLawsBesides
import Derived.Lib.Hide
namespace Go.Proofs.Ytpbnkkeplhgepaa.BA
open Go.RowKit Go.Law Go.Law.Bal
set_option linter.unusedVariables false
set_option linter.unusedSimpArgs false
set_option maxRecDepth 100000
theorem sumB_bd {f : Nat → Int} {k : Nat} {B : Int} (h : ∀ i, i < k → 0 ≤ f i ∧ f i ≤ B) : 0 ≤ sumB f k ∧ sumB f k ≤ B * (k : Int) := by
  induction k with
  | zero => simp [sumB]
  | succ k ih =>
    have h1 := ih (fun i hi => h i (by omega))
    have h2 := h k (by omega)
    simp only [sumB]
    have h3 : B * ((k + 1 : Nat) : Int) = B * (k : Int) + B := by rw [Int.natCast_succ, Int.mul_add, Int.mul_one]
    rw [h3]
    omega
theorem sum_any (n : Nat) (f : Nat → Int) (a : Option Addr) (c : Nat) (w : World) (ha : IntsF w a n f) (hn : n ≤ 4000) (hbd : ∀ i, i < n → 0 ≤ f i ∧ f i ≤ 100000000) :
    Calls Try.prog 56 #[.slice a n c] w fun e w' => e = .returned (.int .i64 (sumB f n)) ∧ w = w' := by
  have HA := Lib.hid ha
  have HBD := Lib.hid hbd
  clear ha hbd
  go_enter Try.func56, Try.ntmps56
  go_wp2_with fail
  go_loopw [3, 8] (fun sv ix wr => ∃ k : Nat, ix = .int .i64 k ∧ sv = .int .i64 (sumB f k) ∧ k ≤ n ∧ w = wr) (fun _ ix _ => n - (intOf ix).toNat)
  case atStart => exact ⟨0, rfl, rfl, by omega, rfl⟩
  case round =>
    obtain ⟨k, rfl, rfl, hk, rfl⟩ := hrel
    by_cases hkn : k < n
    · obtain ⟨b, off, rfl, hcell⟩ := HA.out (by omega)
      have d1 := hcell k hkn
      obtain ⟨hb1, hb2⟩ := HBD.out k hkn
      obtain ⟨hs1, hs2⟩ := sumB_bd (fun i hi => HBD.out i (Nat.lt_of_lt_of_le hi hk))
      clear hcell
      go_wp2_with fail
      go_roundw
      case rel => exact ⟨k + 1, by go_num, rfl, by omega, trivial⟩
      case measure => simp [intOf]; omega
    · obtain rfl : n = k := by omega
      go_wp2_with fail
      go_ret
      exact ⟨rfl, rfl⟩
theorem total_any (n : Nat) (f : Nat → Int) (a : Option Addr) (c : Nat) (w : World) (ha : IntsF w a n f) (hn : n ≤ 4000) (hbd : ∀ i, i < n → 0 ≤ f i ∧ f i ≤ 100000000) :
    Calls Try.prog 54 #[.slice a n c] w fun e w' => e = .returned (.int .i64 (sumB f n)) ∧ w = w' := by
  have HA := Lib.hid ha
  have HBD := Lib.hid hbd
  clear ha hbd
  go_enter Try.func54, Try.ntmps54
  go_wp2_with fail
  go_loopw [3, 8] (fun sv ix wr => ∃ k : Nat, ix = .int .i64 k ∧ sv = .int .i64 (sumB f k) ∧ k ≤ n ∧ w = wr) (fun _ ix _ => n - (intOf ix).toNat)
  case atStart => exact ⟨0, rfl, rfl, by omega, rfl⟩
  case round =>
    obtain ⟨k, rfl, rfl, hk, rfl⟩ := hrel
    by_cases hkn : k < n
    · obtain ⟨b, off, rfl, hcell⟩ := HA.out (by omega)
      have d1 := hcell k hkn
      obtain ⟨hb1, hb2⟩ := HBD.out k hkn
      obtain ⟨hs1, hs2⟩ := sumB_bd (fun i hi => HBD.out i (Nat.lt_of_lt_of_le hi hk))
      clear hcell
      go_wp2_with fail
      go_roundw
      case rel => exact ⟨k + 1, by go_num, rfl, by omega, trivial⟩
      case measure => simp [intOf]; omega
    · obtain rfl : n = k := by omega
      go_wp2_with fail
      go_ret
      exact ⟨rfl, rfl⟩
/-- the first k of a part have got theirs -/
def giveK (f : Nat → Int) (c : Nat) (Q R : Int) (k : Nat) : Nat → Int := fun j => if c ≤ j ∧ j < c + k then f j + (Q + (if ((j - c : Nat) : Int) < R then 1 else 0)) else f j
theorem giveK_zero (f : Nat → Int) (c : Nat) (Q R : Int) : giveK f c Q R 0 = f := by funext j; unfold giveK; rw [if_neg (by omega)]
theorem giveK_at (f : Nat → Int) (c : Nat) (Q R : Int) (k : Nat) : giveK f c Q R k (c + k) = f (c + k) := by unfold giveK; rw [if_neg (by omega)]
theorem giveK_step (f : Nat → Int) (c : Nat) (Q R : Int) (k : Nat) : giveK f c Q R (k + 1) = upd (giveK f c Q R k) (c + k) (f (c + k) + (Q + (if (k : Int) < R then 1 else 0))) := by
  funext j
  unfold upd giveK
  by_cases h : j = c + k
  · subst h
    rw [if_pos rfl, if_pos (by omega), show c + k - c = k by omega]
  · rw [if_neg h]
    by_cases h2 : c ≤ j ∧ j < c + k
    · rw [if_pos h2, if_pos (by omega)]
    · rw [if_neg h2, if_neg (by omega)]
theorem giveK_all (f : Nat → Int) (c s : Nat) (x : Int) : giveK f c (x / (s : Int)) (x % (s : Int)) s = giveF f c s x := rfl
set_option maxHeartbeats 4000000 in
theorem spread_any (g m c s cap : Nat) (f : Nat → Int) (x : Int) (w : World) (hO : OwnF w 3 g m f) (hcs : c + s ≤ m) (hs : 0 < s) (hs2 : s ≤ 64) (hx : 0 ≤ x ∧ x ≤ 100000000) (hbd : ∀ i, i < m → 0 ≤ f i ∧ f i ≤ 100000000) :
    Calls Try.prog 59 #[.slice (some ⟨g, c, none⟩) s cap, .int .i64 x] w fun e w' => e = .returned (.tuple #[]) ∧ OwnF w' 3 g m (giveF f c s x) ∧ Aside g (.slice none 0 0) w w' := by
  obtain ⟨hx1, hx2⟩ := hx
  obtain ⟨Q, hQ⟩ : ∃ Q, x / (s : Int) = Q := ⟨_, rfl⟩
  obtain ⟨R, hR⟩ : ∃ R, x % (s : Int) = R := ⟨_, rfl⟩
  have hQ1 : 0 ≤ Q := by rw [← hQ]; exact Int.ediv_nonneg hx1 (by omega)
  have hQ2 : Q ≤ x := by rw [← hQ]; exact Int.ediv_le_self _ hx1
  have HG := Lib.hid (giveK_all f c s x)
  rw [hQ, hR] at HG
  have HO := Lib.hid hO
  have HBD := Lib.hid hbd
  clear hO hbd
  go_enter Try.func59, Try.ntmps59
  go_wp2_with fail
  go_loopw [8] (fun ix wr => ∃ k : Nat, ix = .int .i64 k ∧ k ≤ s ∧ OwnF wr 3 g m (giveK f c Q R k) ∧ Aside g (.slice none 0 0) w wr) (fun ix _ => s - (intOf ix).toNat)
  case atStart => exact ⟨0, rfl, by omega, by rw [giveK_zero]; exact HO.out, Aside.refl _ _ _⟩
  case round =>
    obtain ⟨k, rfl, hk, hO, has⟩ := hrel
    by_cases hks : k < s
    · have d1 := hO.cell (i := c + k) (by omega)
      rw [giveK_at] at d1
      have z1 := hO.frozen (c + k)
      obtain ⟨hb1, hb2⟩ := HBD.out (c + k) (by omega)
      have HOk := Lib.hid hO
      have HAS := Lib.hid has
      clear hO has
      by_cases hkr : (k : Int) < R
      · have HS := Lib.hid (giveK_step f c Q R k)
        rw [if_pos hkr] at HS
        go_wp2_with fail
        go_roundw
        case rel => exact ⟨k + 1, by go_num, by omega, by rw [HS.out]; exact HOk.out.set (c + k) _, HAS.out.setR (c + k) _⟩
        case measure => simp [intOf]; omega
      · have HS := Lib.hid (giveK_step f c Q R k)
        rw [if_neg hkr, Int.add_zero] at HS
        go_wp2_with fail
        go_roundw
        case rel => exact ⟨k + 1, by go_num, by omega, by rw [HS.out]; exact HOk.out.set (c + k) _, HAS.out.setR (c + k) _⟩
        case measure => simp [intOf]; omega
    · obtain rfl : s = k := by omega
      go_wp2_with fail
      first | go_end0 | (simp only [Exit.inBlock, Exit.then]; refine bodyPost_ret (results_none rfl _ _ _) rfl ?_) | refine bodyPost_ret (results_none rfl _ _ _) rfl ?_
      exact ⟨rfl, by rw [← HG.out]; exact hO, has⟩
end Go.Proofs.Ytpbnkkeplhgepaa.BA
