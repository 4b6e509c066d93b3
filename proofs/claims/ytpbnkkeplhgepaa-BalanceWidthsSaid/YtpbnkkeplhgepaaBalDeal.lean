
/-
  The reference's deal: what spread does, too.
-/
import Derived.Test.YtpbnkkeplhgepaaBalSpread
namespace Go.Proofs.Ytpbnkkeplhgepaa.BA
open Go.RowKit Go.Law Go.Law.Bal
set_option linter.unusedVariables false
set_option linter.unusedSimpArgs false
set_option maxRecDepth 100000
theorem giveK_two {f : Nat → Int} {c s r : Nat} {Q : Int} (hr : r ≤ s) : giveK (giveK f c Q 0 s) c 1 0 r = giveK f c Q (r : Int) s := by
  funext j
  have e1 : ∀ (F : Nat → Int) (q R : Int) (k : Nat), c ≤ j ∧ j < c + k → giveK F c q R k j = F j + (q + (if ((j - c : Nat) : Int) < R then 1 else 0)) := fun F q R k h => if_pos h
  have e2 : ∀ (F : Nat → Int) (q R : Int) (k : Nat), ¬ (c ≤ j ∧ j < c + k) → giveK F c q R k j = F j := fun F q R k h => if_neg h
  have h4 : ¬ ((j - c : Nat) : Int) < 0 := by omega
  by_cases h1 : c ≤ j ∧ j < c + r
  · rw [e1 _ _ _ _ h1, e1 _ _ _ _ (show c ≤ j ∧ j < c + s by omega), e1 _ _ _ _ (show c ≤ j ∧ j < c + s by omega), if_neg h4, if_pos (show ((j - c : Nat) : Int) < (r : Int) by omega)]
    omega
  · rw [e2 _ _ _ _ h1]
    by_cases h2 : c ≤ j ∧ j < c + s
    · rw [e1 _ _ _ _ h2, e1 _ _ _ _ h2, if_neg h4, if_neg (show ¬ ((j - c : Nat) : Int) < (r : Int) by omega)]
    · rw [e2 _ _ _ _ h2, e2 _ _ _ _ h2]
set_option maxHeartbeats 4000000 in
theorem deal_any (g m c s cap : Nat) (f : Nat → Int) (x : Int) (w : World) (hO : OwnF w 3 g m f) (hcs : c + s ≤ m) (hs : 0 < s) (hs2 : s ≤ 64) (hx : 0 ≤ x ∧ x ≤ 100000000) (hbd : ∀ i, i < m → 0 ≤ f i ∧ f i ≤ 100000000) :
    Calls Try.prog 55 #[.slice (some ⟨g, c, none⟩) s cap, .int .i64 x] w fun e w' => e = .returned (.tuple #[]) ∧ OwnF w' 3 g m (giveF f c s x) ∧ Aside g (.slice none 0 0) w w' := by
  obtain ⟨hx1, hx2⟩ := hx
  have hdm := Int.mul_ediv_add_emod x (s : Int)
  have hm1 := Int.emod_nonneg x (show (s : Int) ≠ 0 by omega)
  have hm2 := Int.emod_lt_of_pos x (show (0 : Int) < s by omega)
  obtain ⟨Q, hQ⟩ : ∃ Q, x / (s : Int) = Q := ⟨_, rfl⟩
  obtain ⟨r, hr⟩ : ∃ r : Nat, x % (s : Int) = (r : Int) := ⟨(x % (s : Int)).toNat, by omega⟩
  have hQ1 : 0 ≤ Q := by rw [← hQ]; exact Int.ediv_nonneg hx1 (by omega)
  have hQ2 : Q ≤ x := by rw [← hQ]; exact Int.ediv_le_self _ hx1
  have HG := Lib.hid (giveK_all f c s x)
  rw [hQ, hr] at HG
  rw [hQ, hr, Int.mul_comm] at hdm
  rw [hr] at hm2
  obtain ⟨P, hP⟩ : ∃ P, Q * (s : Int) = P := ⟨_, rfl⟩
  rw [hP] at hdm
  have hrs : r < s := by omega
  have HO := Lib.hid hO
  have HBD := Lib.hid hbd
  clear hO hbd hm1 hr
  go_enter Try.func55, Try.ntmps55
  go_wp2_with fail
  go_loopw [13] (fun ix wr => ∃ k : Nat, ix = .int .i64 k ∧ k ≤ s ∧ OwnF wr 3 g m (giveK f c Q 0 k) ∧ Aside g (.slice none 0 0) w wr) (fun ix _ => s - (intOf ix).toNat)
  case atStart => exact ⟨0, rfl, by omega, by rw [giveK_zero]; exact HO.out, Aside.refl _ _ _⟩
  case round =>
    obtain ⟨k, rfl, hk, hO, has⟩ := hrel
    by_cases hks : k < s
    · have d1 := hO.cell (i := c + k) (by omega)
      rw [giveK_at] at d1
      have z1 := hO.frozen (c + k)
      obtain ⟨hb1, hb2⟩ := HBD.out (c + k) (by omega)
      have HOk := Lib.hid hO
      have HAS := Lib.hid has
      clear hO has
      have HS := Lib.hid (giveK_step f c Q 0 k)
      rw [if_neg (by omega), Int.add_zero] at HS
      go_wp2_with fail
      go_roundw
      case rel => exact ⟨k + 1, by go_num, by omega, by rw [HS.out]; exact HOk.out.set (c + k) _, HAS.out.setR (c + k) _⟩
      case measure => simp [intOf]; omega
    · obtain rfl : s = k := by omega
      have HO1 := Lib.hid hO
      have HAS1 := Lib.hid has
      clear hO has
      obtain ⟨wq, rfl⟩ : ∃ wq : World, wq = wr := ⟨_, rfl⟩
      go_wp2_with fail
      go_loopw [6] (fun ix wr => ∃ k : Nat, ix = .int .i64 k ∧ k ≤ r ∧ OwnF wr 3 g m (giveK (giveK f c Q 0 s) c 1 0 k) ∧ Aside g (.slice none 0 0) w wr) (fun ix _ => r - (intOf ix).toNat)
      case atStart => exact ⟨0, rfl, by omega, by rw [giveK_zero]; exact HO1.out, HAS1.out⟩
      case round =>
        obtain ⟨k, rfl, hk, hO, has⟩ := hrel
        by_cases hkr : k < r
        · have d1 := hO.cell (i := c + k) (by omega)
          rw [giveK_at] at d1
          have z1 := hO.frozen (c + k)
          obtain ⟨hb1, hb2⟩ := HBD.out (c + k) (by omega)
          have hv : giveK f c Q 0 s (c + k) = f (c + k) + Q := by unfold giveK; rw [if_pos (by omega), if_neg (by omega), Int.add_zero]
          rw [hv] at d1
          have HOk := Lib.hid hO
          have HAS := Lib.hid has
          have HS := Lib.hid (giveK_step (giveK f c Q 0 s) c 1 0 k)
          rw [hv, if_neg (by omega), Int.add_zero] at HS
          clear hO has hv
          go_wp2_with fail
          go_roundw
          case rel => exact ⟨k + 1, by go_num, by omega, by rw [HS.out]; exact HOk.out.set (c + k) _, HAS.out.setR (c + k) _⟩
          case measure => simp [intOf]; omega
        · obtain rfl : r = k := by omega
          have HOk := Lib.hid hO
          have HAS := Lib.hid has
          clear hO has
          go_wp2_with fail
          first | go_end0 | (simp only [Exit.inBlock, Exit.then]; refine bodyPost_ret (results_none rfl _ _ _) rfl ?_) | refine bodyPost_ret (results_none rfl _ _ _) rfl ?_
          exact ⟨rfl, by rw [← HG.out, ← giveK_two (by omega)]; exact HOk.out, HAS.out⟩
end Go.Proofs.Ytpbnkkeplhgepaa.BA
