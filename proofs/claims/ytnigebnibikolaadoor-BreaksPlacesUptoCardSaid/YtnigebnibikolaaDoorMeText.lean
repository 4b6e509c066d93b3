
/-
  metric.Width and the reference's TextWidth.
-/
import Derived.Test.YtnigebnibikolaaDoorMeChk
import Derived.StillTailTactics
import Derived.Outline
import Derived.Deep.RegionHeld3
namespace Go.Proofs.YtnigebnibikolaaDoor.ME
open Go.RowKit Go.Law Go.Law.Me Ref
set_option linter.unusedVariables false
set_option linter.unusedSimpArgs false
set_option maxRecDepth 100000
theorem Kept.drewN {w wx : World} {s : Int} {bold fixed : Bool} (h : Kept w s bold fixed wx) (m : Nat) : Kept w s bold fixed (wx.drewN m) := by
  obtain ⟨h0, h1, h2, h3, h4⟩ := h
  exact ⟨below_drewN h0 _, h1, h2, h3, h4⟩
theorem Kept.drew {w wx : World} {s : Int} {bold fixed : Bool} (h : Kept w s bold fixed wx) : Kept w s bold fixed wx.drew := by
  obtain ⟨h0, h1, h2, h3, h4⟩ := h
  exact ⟨h0.drew, h1, h2, h3, h4⟩
theorem width_bad (n : Nat) (t : Nat → Int) (a : Option Addr) (c : Nat) (k : Look) (w : World) (ha : IntsF w a n t) (hk : ¬ k.ok) :
    Calls Tryd.prog 18 #[.slice a n c, lookV k] w fun e w' => e = .returned (.tuple #[.int .i64 0, .int .i64 2]) ∧ Below w.heap.size w w' := by
  have hc := fun w => check_any k w
  rw [lookE_bad hk] at hc
  have HC := Lib.hid hc
  obtain ⟨s, bold, fixed⟩ := k
  unfold lookV at *
  clear hc hk
  go_enter Tryd.func18, Tryd.ntmps18
  go_wp2_with fail
  refine (HC.out _).mono ?_
  rintro e w1 ⟨rfl, hb1⟩
  have hbel := ((Kept.start w s bold fixed 37).more hb1).1
  clear hb1
  go_wp2_with fail
  go_ret2
  exact ⟨rfl, hbel⟩
theorem width_text (n : Nat) (t : Nat → Int) (a : Option Addr) (c : Nat) (k : Look) (w : World) (ha : IntsF w a n t) (hn : n ≤ 1000) (hk : k.ok) (ht : ¬ okText n t) :
    Calls Tryd.prog 18 #[.slice a n c, lookV k] w fun e w' => e = .returned (.tuple #[.int .i64 0, .int .i64 2]) ∧ Below w.heap.size w w' := by
  have hc := fun w => check_any k w
  rw [lookE_ok hk] at hc
  have HC := Lib.hid hc
  have htx := fun w1 (hb : Below w.heap.size w w1) => checkText_any n t a c w1 (ha.below (Nat.le_refl _) hb) (by omega)
  rw [charsE_bad ht] at htx
  have HT := Lib.hid htx
  obtain ⟨s, bold, fixed⟩ := k
  unfold lookV at *
  clear hc hk htx ht
  go_enter Tryd.func18, Tryd.ntmps18
  go_wp2_with fail
  refine (HC.out _).mono ?_
  rintro e w1 ⟨rfl, hb1⟩
  have hbel := ((Kept.start w s bold fixed 37).more hb1).1
  clear hb1
  go_wp2_with fail
  refine (HT.out _ hbel).mono ?_
  rintro e w1 ⟨rfl, rfl⟩
  go_wp2_with fail
  go_ret2
  exact ⟨rfl, hbel⟩
set_option maxHeartbeats 4000000 in
theorem width_any (n : Nat) (t : Nat → Int) (a : Option Addr) (c : Nat) (k : Look) (w : World) (hT : Tabs w) (ha : IntsF w a n t) (hn : n ≤ 1000) (hk : k.ok) (ht : okText n t) :
    Calls Tryd.prog 18 #[.slice a n c, lookV k] w fun e w' => e = .returned (.tuple #[.int .i64 (wid t k n), .int .i64 0]) ∧ Below w.heap.size w w' := by
  have hc := fun w => check_any k w
  rw [lookE_ok hk] at hc
  have HC := Lib.hid hc
  have htx := fun w1 (hb : Below w.heap.size w w1) => checkText_any n t a c w1 (ha.below (Nat.le_refl _) hb) (by omega)
  rw [charsE_ok ht] at htx
  have HT := Lib.hid htx
  have HTB := Lib.hid hT
  have HA := Lib.hid ha
  have HK := Lib.hid hk
  have HAD := Lib.hid (fun (x : Int) w (h : Tabs w) => advance_any x k w h hk)
  have HKE := Lib.hid (fun (x y : Int) w => kern_any x y k w hk)
  obtain ⟨s, bold, fixed⟩ := k
  unfold lookV at *
  clear hc hk htx hT ha
  go_enter Tryd.func18, Tryd.ntmps18
  go_wp2_with fail
  refine (HC.out _).mono ?_
  rintro e w1 ⟨rfl, hb1⟩
  have hK1 := (Kept.start w s bold fixed 37).more hb1
  clear hb1
  go_wp2_with fail
  refine (HT.out _ hK1.1).mono ?_
  rintro e w1 ⟨rfl, rfl⟩
  go_wp2_with fail
  go_loopw [8, 23] (fun wv iv wr => ∃ i : Nat, iv = .int .i64 i ∧ wv = .int .i64 (wid t ⟨s, bold, fixed⟩ i) ∧ i ≤ n ∧ Kept w s bold fixed wr) (fun _ iv _ => n - (intOf iv).toNat)
  case atStart => exact ⟨0, rfl, rfl, by omega, hK1⟩
  case round =>
    clear hK1
    obtain ⟨i, rfl, rfl, hi, hK⟩ := hrel
    by_cases hin : i < n
    · obtain ⟨b, off, rfl, hcell⟩ := (HA.out.below (Nat.le_refl _) hK.1) (by omega)
      have d1 := hcell i hin
      obtain ⟨hbel, hz, x0, x1, x2⟩ := id hK
      have hwb := wid_bd (t := t) HK.out i
      have hab := adv_bd (t i) HK.out
      obtain ⟨W, hW⟩ : ∃ W, W = wid t ⟨s, bold, fixed⟩ i := ⟨_, rfl⟩
      obtain ⟨A, hA⟩ : ∃ A, A = adv (t i) ⟨s, bold, fixed⟩ := ⟨_, rfl⟩
      have hst : wid t ⟨s, bold, fixed⟩ (i + 1) = W + A - (if 0 < i then nearer (t (i - 1)) (t i) ⟨s, bold, fixed⟩ else 0) := by rw [hW, hA]; rfl
      rw [← hW] at hwb ⊢
      rw [← hA] at hab
      have HST := Lib.hid hst
      have HAX := Lib.hid hA
      have HKW := Lib.hid hK
      have HBEL := Lib.hid hbel
      have HCE := Lib.hid hcell
      clear hst hA hW hK hbel hcell
      go_wp2_with fail
      refine (HAD.out (t i) wr (HTB.out.below (Nat.le_refl _) HBEL.out)).mono ?_
      rintro e w2 ⟨rfl, hb2⟩
      rw [← HAX.out]
      have hK2 := HKW.out.more hb2
      by_cases h0 : 0 < i
      · obtain ⟨j, rfl⟩ : ∃ j, i = j + 1 := ⟨i - 1, by omega⟩
        have d0 := HCE.out j (by omega)
        have d0' := (hb2.cell (p := ⟨b, off + j, none⟩) (lt_of_cell d0)).trans d0
        have hnb := nearer_bd (t j) (t (j + 1)) HK.out
        obtain ⟨N, hN⟩ : ∃ N, N = nearer (t j) (t (j + 1)) ⟨s, bold, fixed⟩ := ⟨_, rfl⟩
        have HS2 := Lib.hid (show wid t ⟨s, bold, fixed⟩ (j + 1 + 1) = W + A - N by rw [HST.out, if_pos h0, hN]; rfl)
        rw [← hN] at hnb
        have HNX := Lib.hid hN
        obtain ⟨hbel2, hz2, y0, y1, y2⟩ := id hK2
        have HK2 := Lib.hid hK2
        have hj1 : (((j + 1 : Nat) : Int) - 1) = (j : Int) := by omega
        have w1 : IntKind.i64.wrap (((j + 1 : Nat) : Int) - 1) = (j : Int) := by rw [hj1]; exact IntWalk.i64_in _ ⟨by omega, by omega⟩
        have w2' : IntKind.i64.wrap (j : Int) = (j : Int) := IntWalk.i64_in _ ⟨by omega, by omega⟩
        have hj2 : (j : Int) < (n : Int) := by omega
        have hj3 : (0 : Int) ≤ (j : Int) := by omega
        clear hN hb2 hbel2 hK2 d0 hj1
        go_wp2_with fail
        have lb : b < w2.heap.size := lt_of_cell d0'
        go_region_held3 (fun w' => w'.cell? ⟨b, off + j, none⟩ = some (.int .i64 (t j)) ∧ w'.cell? ⟨w.heap.size, 0, none⟩ = some (.int .i64 s) ∧ w'.cell? ⟨w.heap.size, 1, none⟩ = some (.bool bold) ∧ w'.cell? ⟨w.heap.size, 2, none⟩ = some (.bool fixed))
          (first | go_keep | (refine ⟨?_, ?_, ?_, ?_⟩ <;> (rw [hb5.cell (by simp; omega)]; assumption)))
          (first | (go_at_call 48; refine (HKE.out (t j) (t (j + 1)) _).mono ?_; rintro e w5 ⟨rfl, hb5⟩))
        have hww : IntKind.i64.wrap (W + A + -nearer (t j) (t (j + 1)) ⟨s, bold, fixed⟩) = W + A + -nearer (t j) (t (j + 1)) ⟨s, bold, fixed⟩ := by rw [← HNX.out]; exact IntWalk.i64_in _ ⟨by omega, by omega⟩
        rw [hww]
        clear hww
        have HK5 := Lib.hid (HK2.out.drew.more hb5)
        clear hb5
        go_wp2_with fail
        go_roundw
        case rel => exact ⟨j + 1 + 1, by go_num, by rw [HS2.out, HNX.out]; rfl, by omega, HK5.out⟩
        case measure => simp [intOf]; omega
      · obtain rfl : i = 0 := by omega
        have HS2 := Lib.hid (show wid t ⟨s, bold, fixed⟩ (0 + 1) = W + A by rw [HST.out, if_neg h0]; omega)
        clear hb2
        go_wp2_with fail
        go_roundw
        case rel => exact ⟨1, by go_num, by rw [HS2.out], by omega, hK2⟩
        case measure => simp [intOf]; omega
    · obtain rfl : n = i := by omega
      go_wp2_with fail
      go_ret2
      exact ⟨rfl, hK.1⟩
end Go.Proofs.YtnigebnibikolaaDoor.ME
