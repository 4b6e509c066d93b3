
/-
  The law's within and some: numbers in the range of characters.
-/
import Derived.Test.YtnigebnibikolaaDoorProg
import Derived.Test.YtnigebnibikolaaDoorDoorDirT
import Derived.Test.YtnigebnibikolaaDoorOwn
import Derived.Test.YtnigebnibikolaaDoorCommon
import Derived.WalkLawsBesides
import Derived.Lib.Hide
namespace Go.Proofs.YtnigebnibikolaaDoor.Ref
open Go.RowKit Go.Law
set_option linter.unusedVariables false
set_option linter.unusedSimpArgs false
set_option maxRecDepth 100000
theorem within_any (x lo hi : Int) (w : World) (h1 : 0 ≤ lo) (h2 : lo ≤ hi) (h3 : hi ≤ 1000000000) :
    Calls Tryd.prog 38 #[.int .i64 x, .int .i64 lo, .int .i64 hi] w fun e w' => ∃ r, e = .returned (.int .i64 r) ∧ w = w' ∧ lo ≤ r ∧ r ≤ hi := by
  obtain ⟨m, hm⟩ : ∃ m, hi - lo + 1 = m := ⟨_, rfl⟩
  have b1 := Int.tmod_lt_of_pos x (show 0 < m by omega)
  have b2 : -m < x.tmod m := by
    have := Int.tmod_lt_of_pos (-x) (show 0 < m by omega)
    rw [Int.neg_tmod] at this; omega
  obtain ⟨t, ht⟩ : ∃ t, x.tmod m = t := ⟨_, rfl⟩
  rw [ht] at b1 b2
  have hm0 : 1 ≤ m ∧ m ≤ 1000000001 := by omega
  have b3 : 0 ≤ t + m := by omega
  have hh : hi = lo + m - 1 := by omega
  have HH := Lib.hid hh
  have b4 := Int.emod_nonneg t (show m ≠ 0 by omega)
  have b5 := Int.emod_lt_of_pos t (show 0 < m by omega)
  clear hh
  go_enter Tryd.func38, Tryd.ntmps38
  go_wp2
  go_ret
  exact ⟨lo + t % m, rfl, rfl, by omega, by have := HH.out; omega⟩
theorem within_cell (x hi : Int) (b : Nat) (w : World) (h2 : 0 ≤ hi) (h3 : hi ≤ 1000000000) (hc : ∀ i : Nat, (i : Int) ≤ hi → ∃ y, w.cell? ⟨b, i, none⟩ = some (.int .i64 y) ∧ 0 ≤ y ∧ y ≤ 1000000) :
    Calls Tryd.prog 38 #[.int .i64 x, .int .i64 0, .int .i64 hi] w fun e w' => ∃ (r : Nat) (y : Int), e = .returned (.int .i64 r) ∧ w = w' ∧ (r : Int) ≤ hi ∧ w.cell? ⟨b, r, none⟩ = some (.int .i64 y) ∧ 0 ≤ y ∧ y ≤ 1000000 := by
  refine (within_any x 0 hi w (by omega) h2 h3).mono ?_
  rintro e w' ⟨r, rfl, rfl, h4, h5⟩
  obtain ⟨y, hy, hy1⟩ := hc r.toNat (by omega)
  exact ⟨r.toNat, y, by rw [show ((r.toNat : Nat) : Int) = r by omega], rfl, by omega, hy, hy1⟩
theorem edges_bd : ∀ i, i < 72 → 0 ≤ edgesL.getD i 0 ∧ edgesL.getD i 0 ≤ 1000000 := by decide
theorem edges_cell (w : World) : ∀ i : Nat, (i : Int) ≤ 71 → ∃ y, (w.alloc (.cells (edgesL.map (Value.int .i64)).toArray 3)).cell? ⟨w.heap.size, i, none⟩ = some (.int .i64 y) ∧ 0 ≤ y ∧ y ≤ 1000000 := by
  intro i hi
  refine ⟨edgesL.getD i 0, ?_, edges_bd i (by omega)⟩
  rw [World.cell?_alloc_new]
  have : i < edgesL.length := by show i < 72; omega
  simp [this]
set_option maxHeartbeats 1000000 in
theorem some_any (c : Int) (w : World) :
    Calls Tryd.prog 10 #[.int .i64 c] w fun e w' => ∃ a f, e = .returned (.slice a 5 5) ∧ IntsF w' a 5 f ∧ Below w.heap.size w w' := by
  go_enter Tryd.func10, Tryd.ntmps10
  go_wp2_with fail
  refine (within_cell c 71 w.heap.size _ (by omega) (by omega) (edges_cell w)).mono ?_
  rintro e w1 ⟨r, y, rfl, rfl, hr, hy, hy0, hy1⟩
  have HY := Lib.hid hy
  go_wp2_with fail
  refine (within_any c 0 12288 _ (by omega) (by omega) (by omega)).mono ?_
  rintro e w2 ⟨r2, rfl, rfl, hr1, hr2⟩
  go_wp2_with fail
  go_ret
  refine ⟨_, fun i => match i with | 0 => c | 1 => r2 | 2 => y - 1 | 3 => y | _ => y + 1, rfl, ?_, ?_⟩
  · intro _
    refine ⟨_, 0, rfl, fun i hi => ?_⟩
    have : i = 0 ∨ i = 1 ∨ i = 2 ∨ i = 3 ∨ i = 4 := by omega
    rcases this with rfl | rfl | rfl | rfl | rfl <;> simp
  · repeat' (with_reducible first | exact Below.refl _ _ | assumption | refine Below.setCell ?_ ?_ _ | refine Below.alloc ?_ ?_ _ | refine below_drewN ?_ _ | refine Below.drew ?_)
    all_goals first | omega | (simp; done) | (simp; omega)
end Go.Proofs.YtnigebnibikolaaDoor.Ref
