
/-
  metric.Advance, metric.Kern.
-/
import Derived.Test.YtnigebnibikolaaDoorMeLaw
namespace Go.Proofs.YtnigebnibikolaaDoor.ME
open Go.RowKit Go.Law Go.Law.Me Ref
set_option linter.unusedVariables false
set_option linter.unusedSimpArgs false
set_option maxRecDepth 100000
def chr (c : Int) : Prop := 0 ≤ c ∧ c ≤ 1114111
instance (c : Int) : Decidable (chr c) := by unfold chr; infer_instance
/-- the errors and the numbers of the three functions -/
def advQ (c : Int) (k : Look) : Int × Int := if lookE k = 0 ∧ chr c then (adv c k, 0) else (0, 2)
def kernQ (a b : Int) (k : Look) : Int × Int := if lookE k = 0 ∧ chr a ∧ chr b then (-nearer a b k, 0) else (0, 2)
theorem look_cases (k : Look) : lookE k = 0 ∨ lookE k = 2 := by
  by_cases h : k.ok
  · exact .inl (lookE_ok h)
  · exact .inr (lookE_bad h)
set_option maxHeartbeats 2000000 in
theorem advanceQ_any (c : Int) (k : Look) (w : World) (hT : Tabs w) :
    Calls Tryd.prog 19 #[.int .i64 c, lookV k] w fun e w' => e = .returned (.tuple #[.int .i64 (advQ c k).1, .int .i64 (advQ c k).2]) ∧ Below w.heap.size w w' := by
  have HC := Lib.hid (fun w => check_any k w)
  rcases look_cases k with he | he
  · have hk := lookE_zero he
    by_cases hc : chr c
    · have hq : advQ c k = (adv c k, 0) := by unfold advQ; rw [if_pos ⟨he, hc⟩]
      have HT := Lib.hid hT
      have HAD := Lib.hid (fun (x : Int) w (h : Tabs w) => advance_any x k w h hk)
      rw [hq]
      rw [he] at HC
      unfold chr at hc
      obtain ⟨hc1, hc2⟩ := hc
      clear he hq hk hT
      obtain ⟨s, bold, fixed⟩ := k
      unfold lookV at *
      have hK0 := Kept.start w s bold fixed 37
      go_enter Tryd.func19, Tryd.ntmps19
      go_wp2_with fail
      refine (HC.out _).mono ?_
      rintro e w1 ⟨rfl, hb1⟩
      have hK1 := hK0.more hb1
      obtain ⟨hbel, hz, x0, x1, x2⟩ := id hK1
      clear hb1 hK0
      go_wp2_with fail
      refine (HAD.out c _ (HT.out.below (Nat.le_refl _) hbel)).mono ?_
      rintro e w2 ⟨rfl, hb2⟩
      have hbel2 := (hK1.more hb2).1
      clear hb2
      go_wp2_with fail
      go_ret2
      exact ⟨rfl, hbel2⟩
    · have hq : advQ c k = (0, 2) := by unfold advQ; rw [if_neg (fun h => hc h.2)]
      rw [hq]
      rw [he] at HC
      unfold chr at hc
      have hc2 : c < 0 ∨ 1114111 < c := by omega
      clear he hq hk hc
      obtain ⟨s, bold, fixed⟩ := k
      unfold lookV at *
      have hK0 := Kept.start w s bold fixed 37
      go_enter Tryd.func19, Tryd.ntmps19
      go_wp2_with fail
      refine (HC.out _).mono ?_
      rintro e w1 ⟨rfl, hb1⟩
      have hK1 := hK0.more hb1
      obtain ⟨hbel, hz, x0, x1, x2⟩ := id hK1
      clear hb1 hK0
      rcases hc2 with h | h
      · go_wp2_with fail
        go_ret2
        exact ⟨rfl, hbel⟩
      · have h2 : ¬ c < 0 := by omega
        go_wp2_with fail
        go_ret2
        exact ⟨rfl, hbel⟩
  · have hq : advQ c k = (0, 2) := by unfold advQ; rw [if_neg (fun h => by have := h.1; omega)]
    rw [hq]
    rw [he] at HC
    clear he hq
    obtain ⟨s, bold, fixed⟩ := k
    unfold lookV at *
    have hK0 := Kept.start w s bold fixed 37
    go_enter Tryd.func19, Tryd.ntmps19
    go_wp2_with fail
    refine (HC.out _).mono ?_
    rintro e w1 ⟨rfl, hb1⟩
    have hK1 := hK0.more hb1
    obtain ⟨hbel, hz, x0, x1, x2⟩ := id hK1
    clear hb1 hK0
    go_wp2_with fail
    go_ret2
    exact ⟨rfl, hbel⟩
set_option maxHeartbeats 2000000 in
theorem kernQ_any (a b : Int) (k : Look) (w : World) :
    Calls Tryd.prog 20 #[.int .i64 a, .int .i64 b, lookV k] w fun e w' => e = .returned (.tuple #[.int .i64 (kernQ a b k).1, .int .i64 (kernQ a b k).2]) ∧ Below w.heap.size w w' := by
  have HC := Lib.hid (fun w => check_any k w)
  rcases look_cases k with he | he
  · have hk := lookE_zero he
    by_cases hc : chr a ∧ chr b
    · have hq : kernQ a b k = (-nearer a b k, 0) := by unfold kernQ; rw [if_pos ⟨he, hc⟩]
      have HAD := Lib.hid (fun w => kern_any a b k w hk)
      rw [hq]
      rw [he] at HC
      unfold chr at hc
      obtain ⟨⟨hc1, hc2⟩, hc3, hc4⟩ := hc
      clear he hq hk
      obtain ⟨s, bold, fixed⟩ := k
      unfold lookV at *
      have hK0 := Kept.start w s bold fixed 37
      go_enter Tryd.func20, Tryd.ntmps20
      go_wp2_with fail
      refine (HC.out _).mono ?_
      rintro e w1 ⟨rfl, hb1⟩
      have hK1 := hK0.more hb1
      obtain ⟨hbel, hz, x0, x1, x2⟩ := id hK1
      clear hb1 hK0
      go_wp2_with fail
      refine (HAD.out _).mono ?_
      rintro e w2 ⟨rfl, hb2⟩
      have hbel2 := (hK1.more hb2).1
      clear hb2
      go_wp2_with fail
      go_ret2
      exact ⟨rfl, hbel2⟩
    · have hq : kernQ a b k = (0, 2) := by unfold kernQ; rw [if_neg (fun h => hc h.2)]
      rw [hq]
      rw [he] at HC
      unfold chr at hc
      have hc2 : a < 0 ∨ (¬ a < 0 ∧ 1114111 < a) ∨ (¬ a < 0 ∧ ¬ 1114111 < a ∧ b < 0) ∨ (¬ a < 0 ∧ ¬ 1114111 < a ∧ ¬ b < 0 ∧ 1114111 < b) := by omega
      clear he hq hk hc
      obtain ⟨s, bold, fixed⟩ := k
      unfold lookV at *
      have hK0 := Kept.start w s bold fixed 37
      go_enter Tryd.func20, Tryd.ntmps20
      go_wp2_with fail
      refine (HC.out _).mono ?_
      rintro e w1 ⟨rfl, hb1⟩
      have hK1 := hK0.more hb1
      obtain ⟨hbel, hz, x0, x1, x2⟩ := id hK1
      clear hb1 hK0
      rcases hc2 with h | ⟨h, h2⟩ | ⟨h, h2, h3⟩ | ⟨h, h2, h3, h4⟩
      all_goals
        go_wp2_with fail
        go_ret2
        exact ⟨rfl, hbel⟩
  · have hq : kernQ a b k = (0, 2) := by unfold kernQ; rw [if_neg (fun h => by have := h.1; omega)]
    rw [hq]
    rw [he] at HC
    clear he hq
    obtain ⟨s, bold, fixed⟩ := k
    unfold lookV at *
    have hK0 := Kept.start w s bold fixed 37
    go_enter Tryd.func20, Tryd.ntmps20
    go_wp2_with fail
    refine (HC.out _).mono ?_
    rintro e w1 ⟨rfl, hb1⟩
    have hK1 := hK0.more hb1
    obtain ⟨hbel, hz, x0, x1, x2⟩ := id hK1
    clear hb1 hK0
    go_wp2_with fail
    go_ret2
    exact ⟨rfl, hbel⟩
/-- Width of at most 1000 characters -/
noncomputable def widQ (n : Nat) (t : Nat → Int) (k : Look) : Int × Int := if lookE k = 0 ∧ charsE n t = 0 then (wid t k n, 0) else (0, 2)
theorem widthQ_any (n : Nat) (t : Nat → Int) (a : Option Addr) (c : Nat) (k : Look) (w : World) (hT : Tabs w) (ha : IntsF w a n t) (hn : n ≤ 1000) :
    Calls Tryd.prog 18 #[.slice a n c, lookV k] w fun e w' => e = .returned (.tuple #[.int .i64 (widQ n t k).1, .int .i64 (widQ n t k).2]) ∧ Below w.heap.size w w' := by
  unfold widQ
  rcases look_cases k with he | he
  · by_cases ht : okText n t
    · rw [if_pos ⟨he, charsE_ok ht⟩]
      exact width_any n t a c k w hT ha hn (lookE_zero he) ht
    · rw [if_neg (fun h => ht (charsE_zero h.2))]
      exact width_text n t a c k w ha hn (lookE_zero he) ht
  · rw [if_neg (fun h => by have := h.1; omega)]
    exact width_bad n t a c k w ha (fun h => by rw [lookE_ok h] at he; omega)
end Go.Proofs.YtnigebnibikolaaDoor.ME
