
/-
  The reference's TextWidth.
-/
import Derived.Test.YtnigebnibikolaaDoorMeText
namespace Go.Proofs.YtnigebnibikolaaDoor.ME
open Go.RowKit Go.Law Go.Law.Me Ref
set_option linter.unusedVariables false
set_option linter.unusedSimpArgs false
set_option maxRecDepth 100000
set_option maxHeartbeats 4000000 in
theorem textWidth_any (n : Nat) (t : Nat → Int) (a : Option Addr) (c : Nat) (k : Look) (w : World) (ha : IntsF w a n t) (hn : n ≤ 1000) (hk : k.ok) :
    Calls Tryd.prog 23 #[.slice a n c, lookV k] w fun e w' => e = .returned (.int .i64 (wid t k n)) ∧ Below w.heap.size w w' := by
  rw [← widT_all]
  have HA := Lib.hid ha
  have HK := Lib.hid hk
  have HAD := Lib.hid (fun (x : Int) w => wide_any x k w hk)
  have HKE := Lib.hid (fun (x y : Int) w => nearer_any x y k w hk)
  obtain ⟨s, bold, fixed⟩ := k
  unfold lookV at *
  clear hk ha
  have hK0 := Kept.start w s bold fixed 37
  go_enter Tryd.func23, Tryd.ntmps23
  go_wp2_with fail
  go_loopw [5, 10] (fun wv iv wr => ∃ i : Nat, iv = .int .i64 i ∧ wv = .int .i64 (widT t ⟨s, bold, fixed⟩ n i) ∧ i ≤ n ∧ Kept w s bold fixed wr) (fun _ iv _ => n - (intOf iv).toNat)
  case atStart => exact ⟨0, rfl, rfl, by omega, hK0⟩
  case round =>
    clear hK0
    obtain ⟨i, rfl, rfl, hi, hK⟩ := hrel
    by_cases hin : i < n
    · obtain ⟨b, off, rfl, hcell⟩ := (HA.out.below (Nat.le_refl _) hK.1) (by omega)
      have d1 := hcell i hin
      obtain ⟨hbel, hz, x0, x1, x2⟩ := id hK
      have hwb := widT_bd (t := t) (m := n) HK.out i
      have hab := adv_bd (t i) HK.out
      obtain ⟨W, hW⟩ : ∃ W, W = widT t ⟨s, bold, fixed⟩ n i := ⟨_, rfl⟩
      obtain ⟨A, hA⟩ : ∃ A, A = adv (t i) ⟨s, bold, fixed⟩ := ⟨_, rfl⟩
      have hst : widT t ⟨s, bold, fixed⟩ n (i + 1) = W + A - (if i + 1 < n then nearer (t i) (t (i + 1)) ⟨s, bold, fixed⟩ else 0) := by rw [hW, hA]; rfl
      rw [← hW] at hwb ⊢
      rw [← hA] at hab
      have HST := Lib.hid hst
      have HAX := Lib.hid hA
      have HKW := Lib.hid hK
      have HCE := Lib.hid hcell
      clear hst hA hW hK hbel hcell
      go_wp2_with fail
      refine (HAD.out (t i) wr).mono ?_
      rintro e w2 ⟨rfl, hb2⟩
      rw [← HAX.out]
      have hK2 := HKW.out.more hb2
      by_cases h0 : i + 1 < n
      · have d0 := HCE.out (i + 1) h0
        have d0' := (hb2.cell (p := ⟨b, off + (i + 1), none⟩) (lt_of_cell d0)).trans d0
        have hnb := nearer_bd (t i) (t (i + 1)) HK.out
        obtain ⟨N, hN⟩ : ∃ N, N = nearer (t i) (t (i + 1)) ⟨s, bold, fixed⟩ := ⟨_, rfl⟩
        have HS2 := Lib.hid (show widT t ⟨s, bold, fixed⟩ n (i + 1) = W + A - N by rw [HST.out, if_pos h0, hN])
        rw [← hN] at hnb
        have HNX := Lib.hid hN
        obtain ⟨hbel2, hz2, y0, y1, y2⟩ := id hK2
        have HK2 := Lib.hid hK2
        have w2' : IntKind.i64.wrap ((i : Int) + 1) = (i : Int) + 1 := IntWalk.i64_in _ ⟨by omega, by omega⟩
        have hj2 : (i : Int) + 1 < (n : Int) := by omega
        have hj3 : (0 : Int) ≤ (i : Int) + 1 := by omega
        have lb : b < w2.heap.size := lt_of_cell d0'
        clear hN hb2 hbel2 hK2 d0
        go_wp2_with fail
        go_region_held3 (fun w' => w'.cell? ⟨b, off + (i + 1), none⟩ = some (.int .i64 (t (i + 1))) ∧ w'.cell? ⟨w.heap.size, 0, none⟩ = some (.int .i64 s) ∧ w'.cell? ⟨w.heap.size, 1, none⟩ = some (.bool bold) ∧ w'.cell? ⟨w.heap.size, 2, none⟩ = some (.bool fixed))
          (first | go_keep | (refine ⟨?_, ?_, ?_, ?_⟩ <;> (rw [hb5.cell (by simp; omega)]; assumption)))
          (first | (go_at_call 25; refine (HKE.out (t i) (t (i + 1)) _).mono ?_; rintro e w5 ⟨rfl, hb5⟩))
        have hww : IntKind.i64.wrap (W + A - nearer (t i) (t (i + 1)) ⟨s, bold, fixed⟩) = W + A - nearer (t i) (t (i + 1)) ⟨s, bold, fixed⟩ := by rw [← HNX.out]; exact IntWalk.i64_in _ ⟨by omega, by omega⟩
        rw [hww]
        clear hww
        have HK5 := Lib.hid (HK2.out.drew.more hb5)
        clear hb5
        go_wp2_with fail
        go_roundw
        case rel => exact ⟨i + 1, by go_num, by rw [HS2.out, HNX.out], by omega, HK5.out⟩
        case measure => simp [intOf]; omega
      · have HS2 := Lib.hid (show widT t ⟨s, bold, fixed⟩ n (i + 1) = W + A by rw [HST.out, if_neg h0]; omega)
        clear hb2
        go_wp2_with fail
        go_roundw
        case rel => exact ⟨i + 1, by go_num, by rw [HS2.out], by omega, hK2⟩
        case measure => simp [intOf]; omega
    · obtain rfl : n = i := by omega
      go_wp2_with fail
      go_ret
      exact ⟨rfl, hK.1⟩
end Go.Proofs.YtnigebnibikolaaDoor.ME
