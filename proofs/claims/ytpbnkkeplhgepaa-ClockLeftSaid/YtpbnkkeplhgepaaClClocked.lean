
/-
  The example that ClockReports and ClockLeft begin with.
-/
import Derived.Test.YtpbnkkeplhgepaaClReport
namespace Go.Proofs.Ytpbnkkeplhgepaa.CL
open Go.RowKit Go.Law Go.Law.Cl
set_option linter.unusedVariables false
set_option linter.unusedSimpArgs false
set_option maxRecDepth 100000
def hasB (s : St) (x : Int) : Bool := (List.range s.m).any fun i => s.F (i * 3) == x
theorem hasB_iff {s : St} {x : Int} : hasB s x = true ↔ has s x := by
  unfold hasB has
  rw [List.any_eq_true]
  constructor
  · rintro ⟨i, hi, he⟩
    exact ⟨i, List.mem_range.1 hi, by simpa using he⟩
  · rintro ⟨i, hi, he⟩
    exact ⟨i, List.mem_range.2 hi, by simpa using he⟩
def showC (s : St) (x : Int) : St :=
  if hasB s x = true then { s with sl := x, F := if s.sl = x then s.F else addN x s.F }
  else { s with sl := x, m := s.m + 1, F := newF s.m x 1 s.F }
theorem showC_eq (s : St) (x : Int) : showS s x = showC s x := by
  unfold showC
  by_cases h : hasB s x = true
  · rw [if_pos h, showS_found (hasB_iff.1 h)]
  · rw [if_neg h, showS_new (fun h' => h (hasB_iff.2 h'))]
def evC (s : St) (kind x : Int) : St :=
  if kind = 0 then { s with run := true } else if kind = 1 ∨ kind = 3 then { s with run := false } else if kind = 2 then showC s x else s
theorem evC_eq (s : St) (kind x : Int) : evS s kind x = evC s kind x := by unfold evS evC; rw [showC_eq]
def prC (E : Nat → Nat → Int) (T : Int) : Nat → St
  | 0 => .init
  | i + 1 => if T < E i 1 then passS (prC E T i) (min (E i 1) T - min (lastA E i) T) else evC (passS (prC E T i) (min (E i 1) T - min (lastA E i) T)) (E i 0) (E i 2)
theorem prC_eq (E : Nat → Nat → Int) (T : Int) : ∀ k, prS E T k = prC E T k := by
  intro k
  induction k with
  | zero => rfl
  | succ k ih => simp only [prS, prC]; rw [ih, evC_eq]
def finC (n : Nat) (E : Nat → Nat → Int) (T : Int) : St := passS (prC E T n) (T - min (lastA E n) T)
theorem finC_eq (n : Nat) (E : Nat → Nat → Int) (T : Int) : finS n E T = finC n E T := by unfold finS finC; rw [prC_eq]
def E0 : Nat → Nat → Int := fun i j => (([[0, 0, 0], [2, 0, 1], [2, 30, 2], [1, 50, 0]] : List (List Int)).getD i []).getD j 0
theorem e0_ok : clE 4 E0 = 0 := by decide +kernel
theorem e0_run : (finC 4 E0 100).run = false := by decide +kernel
theorem e0_tot : (finC 4 E0 100).tot = 50 := by decide +kernel
theorem e0_m : (finC 4 E0 100).m = 2 := by decide +kernel
theorem e0_F0 : (finC 4 E0 100).F 0 = 1 := by decide +kernel
theorem e0_F1 : (finC 4 E0 100).F 1 = 30 := by decide +kernel
theorem e0_F2 : (finC 4 E0 100).F 2 = 1 := by decide +kernel
theorem e0_F4 : (finC 4 E0 100).F 4 = 20 := by decide +kernel
theorem lit_str {w : World} {b n s : Nat} {f : Nat → Nat → Int} (h : ∀ i, i < n → ∀ j, j < s → w.cell? ⟨b, i * s + j, none⟩ = some (.int .i64 (f i j))) : StrF w (some ⟨b, 0, none⟩) n s f :=
  fun _ => ⟨b, 0, rfl, fun i hi j hj => by rw [Nat.zero_add]; exact h i hi j hj⟩
set_option maxHeartbeats 4000000 in
theorem clocked_any (w : World) :
    Calls Try.prog 33 #[] w fun e w' => e = .returned (.bool true) ∧ Below w.heap.size w w' := by
  have hrep := fun a c w0 h hn => report_ok 4 E0 100 a c w0 h hn e0_ok (by omega)
  rw [finC_eq] at hrep
  have t0 := e0_run
  have t1 := e0_tot
  have t2 := e0_m
  have t3 := e0_F0
  have t4 := e0_F1
  have t5 := e0_F2
  have t6 := e0_F4
  obtain ⟨s, hs⟩ : ∃ s, s = finC 4 E0 100 := ⟨_, rfl⟩
  rw [← hs] at hrep t0 t1 t2 t3 t4 t5 t6
  clear hs
  obtain ⟨run, tot, sl, m, F⟩ := s
  simp only at t0 t1 t2 t3 t4 t5 t6
  subst t0 t1 t2
  have HREP := Lib.hid hrep
  clear hrep
  go_enter Try.func33, Try.ntmps33
  go_wp2_with fail
  refine (HREP.out _ _ _ ?hx ?hy).mono ?_
  case hx =>
    refine lit_str fun i hi j hj => ?_
    have h1 : i = 0 ∨ i = 1 ∨ i = 2 ∨ i = 3 := by omega
    have h2 : j = 0 ∨ j = 1 ∨ j = 2 := by omega
    rcases h1 with rfl | rfl | rfl | rfl <;> rcases h2 with rfl | rfl | rfl <;> simp [E0]
  case hy => intro h; cases h
  rintro e w1 ⟨hb1, v, rfl, hrow⟩
  obtain ⟨g, cap, rfl, hg, hgl, hcap, hcm, _, hcells⟩ := hrow.at (by show 0 < 2; omega)
  have c0 := hcells 0 (by show 0 < 2 * 3; omega)
  have c1 := hcells 1 (by show 1 < 2 * 3; omega)
  have c2 := hcells 2 (by show 2 < 2 * 3; omega)
  have c4 := hcells 4 (by show 4 < 2 * 3; omega)
  try simp only at c0 c1 c2 c4
  rw [t3] at c0
  rw [t4] at c1
  rw [t5] at c2
  rw [t6] at c4
  have hbel : Below w.heap.size w w1 := ((Below.refl _ _).alloc (Nat.le_refl _) _).trans (hb1.mono (by simp))
  have hs1 := hbel.size
  clear hcells hrow HREP t3 t4 t5 t6
  go_wp2_with fail
  go_ret
  refine ⟨rfl, ?_⟩
  repeat' (with_reducible first | exact Below.refl _ _ | assumption | refine Below.setCell ?_ ?_ _ | refine Below.alloc ?_ ?_ _ | refine below_drewN ?_ _ | refine Below.drew ?_)
  all_goals first | omega | (simp; done) | (simp; omega)
end Go.Proofs.Ytpbnkkeplhgepaa.CL
