
/-
  The example of the laws of metric, and the walk of MetricEms.
-/
import Derived.Test.YtnigebnibikolaaDoorMeTextR
import Derived.Test.YtnigebnibikolaaDoorSome
namespace Go.Proofs.YtnigebnibikolaaDoor.ME
open Go.RowKit Go.Law Go.Law.Me Ref
set_option linter.unusedVariables false
set_option linter.unusedSimpArgs false
set_option maxRecDepth 100000
def T0 : Nat → Int := fun i => if i = 0 then 65 else 86
def K0 : Look := ⟨1000, false, false⟩
theorem t0_wid : wid T0 K0 2 = 1250 := by decide +kernel
theorem t0_ok : okText 2 T0 := by
  intro i hi
  have h1 : i = 0 ∨ i = 1 := by omega
  rcases h1 with rfl | rfl <;> decide
theorem lit_ints {w : World} {b n : Nat} {f : Nat → Int} (h : ∀ i, i < n → w.cell? ⟨b, i, none⟩ = some (.int .i64 (f i))) : IntsF w (some ⟨b, 0, none⟩) n f :=
  fun _ => ⟨b, 0, rfl, fun i hi => by rw [Nat.zero_add]; exact h i hi⟩
set_option maxHeartbeats 2000000 in
theorem metrics_any (w : World) (hT : Tabs w) :
    Calls Tryd.prog 9 #[] w fun e w' => e = .returned (.bool true) ∧ Below w.heap.size w w' := by
  have hw := fun a c w1 (h : Tabs w1) (ha : IntsF w1 a 2 T0) => width_any 2 T0 a c K0 w1 h ha (by omega) (show (40 : Int) ≤ 1000 ∧ (1000 : Int) ≤ 4000 by omega) t0_ok
  rw [t0_wid] at hw
  have HW := Lib.hid hw
  have HT := Lib.hid hT
  clear hw hT
  go_enter Tryd.func9, Tryd.ntmps9
  go_wp2_with fail
  refine (HW.out _ _ _ (HT.out.below (Nat.le_refl _) ((Below.refl _ _).alloc (Nat.le_refl _) _)) ?hx).mono ?_
  case hx =>
    refine lit_ints fun i hi => ?_
    have h1 : i = 0 ∨ i = 1 := by omega
    rcases h1 with rfl | rfl <;> simp [T0]
  rintro e w1 ⟨rfl, hb1⟩
  have hbel : Below w.heap.size w w1 := ((Below.refl _ _).alloc (Nat.le_refl _) _).trans (hb1.mono (by simp))
  clear hb1
  go_wp2_with fail
  go_ret
  exact ⟨rfl, hbel⟩
set_option maxHeartbeats 4000000 in
theorem ems_any (c : Int) (w : World) (hT : Tabs w) :
    Calls Tryd.prog 3 #[.int .i64 c] w fun e w' => e = .returned (.bool true) ∧ Below w.heap.size w w' := by
  have HT := Lib.hid hT
  clear hT
  go_enter Tryd.func3, Tryd.ntmps3
  go_wp2_with fail
  refine (metrics_any _ HT.out).mono ?_
  rintro e w1 ⟨rfl, hb1⟩
  go_wp2_with fail
  refine (some_any c _).mono ?_
  rintro e w2 ⟨a, f, rfl, hf, hb2⟩
  have hb := hb1.trans (hb2.mono hb1.size)
  have HF := Lib.hid hf
  clear hf hb2 hb1
  go_wp2_with fail
  go_loopw [10] (fun ix wr => ∃ k : Nat, ix = .int .i64 k ∧ k ≤ 5 ∧ Below w.heap.size w wr ∧ IntsF wr a 5 f) (fun ix _ => 5 - (intOf ix).toNat)
  case atStart => exact ⟨0, rfl, by omega, hb, HF.out⟩
  case round =>
    clear hb HF
    obtain ⟨k, rfl, hk, hbel, hf⟩ := hrel
    have HF := Lib.hid hf
    clear hf
    by_cases hk5 : k < 5
    · obtain ⟨b, off, rfl, hcell⟩ := HF.out (by omega)
      have d1 := hcell k hk5
      obtain ⟨x, hx⟩ : ∃ x, x = f k := ⟨_, rfl⟩
      rw [← hx] at d1
      clear hcell hx
      go_wp2_with fail
      refine (em_any x _ (HT.out.below (Nat.le_refl _) hbel)).mono ?_
      rintro e w3 ⟨rfl, hb3⟩
      have hb4 := hbel.trans (hb3.mono hbel.size)
      have HF4 := Lib.hid (HF.out.below (Nat.le_refl _) hb3)
      clear hb3
      go_wp2_with fail
      refine (emRef_any x _).mono ?_
      rintro e w5 ⟨rfl, hb5⟩
      have hb6 := hb4.trans (hb5.mono hb4.size)
      have HF6 := Lib.hid (HF4.out.below (Nat.le_refl _) hb5)
      clear hb5 HF4
      have e1 : (emC x != emC x) = false := by simp
      go_wp2_with fail
      refine (mark_any x _ (HT.out.below (Nat.le_refl _) hb6)).mono ?_
      rintro e w7 ⟨rfl, hb7⟩
      have hb8 := hb6.trans (hb7.mono hb6.size)
      have HF8 := Lib.hid (HF6.out.below (Nat.le_refl _) hb7)
      clear hb7 HF6
      go_wp2_with fail
      refine (isMark_any x _).mono ?_
      rintro e w9 ⟨rfl, rfl⟩
      have e2 : (markC x != markC x) = false := by simp
      go_wp2_with fail
      go_roundw
      case rel => exact ⟨k + 1, by go_num, by omega, hb8, HF8.out⟩
      case measure => simp [intOf]; omega
    · obtain rfl : k = 5 := by omega
      go_wp2_with fail
      go_ret
      exact ⟨rfl, hbel⟩
end Go.Proofs.YtnigebnibikolaaDoor.ME
