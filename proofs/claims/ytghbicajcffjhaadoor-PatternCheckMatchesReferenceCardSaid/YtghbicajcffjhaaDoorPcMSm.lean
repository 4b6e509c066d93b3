
/-
  The matcher at the pattern of a digit: checkText, groups, holds, digit, node.
-/
import Derived.Test.YtghbicajcffjhaaDoorPcMAdd
namespace Go.Proofs.YtghbicajcffjhaaDoor.PC
open Go.RowKit Go.Law Go.Law.Pn
set_option linter.unusedVariables false
set_option linter.unusedSimpArgs false
set_option maxRecDepth 100000
theorem ct_any (T : Nat) (w : World) (h : Blk w T #[.int .i64 97, .int .i64 49] 3) : Calls Tryd.prog 51 #[.slice (some ⟨T, 0, none⟩) 2 2] w fun e w' => e = .returned (.int .i64 0) ∧ w = w' := by
  have c0 : w.cell? ⟨T, 0, none⟩ = some (.int .i64 97) := h.cell (i := 0) rfl
  have c1 : w.cell? ⟨T, 1, none⟩ = some (.int .i64 49) := h.cell (i := 1) rfl
  go_enter Tryd.func51, Tryd.ntmps51
  go_wp2_with fail
  refine wp_loop_rounds 3 ?_
  rw [rounds_succ]
  go_wp2_with fail
  rw [rounds_succ]
  go_wp2_with fail
  rw [rounds_succ]
  go_wp2_with fail
  go_ret
  exact ⟨rfl, rfl⟩
theorem groups_any (S : Nat) (w : World) : Calls Tryd.prog 54 #[.agg #[.int .i64 0, .bool false, .bool false, .int .i64 0, .int .i64 0, .slice (some ⟨S, 0, none⟩) 1 1, .slice none 0 0]] w fun e w' => e = .returned (.int .i64 0) ∧ Below w.heap.size w w' := by
  go_enter Tryd.func54, Tryd.ntmps54
  go_wp2_with fail
  refine wp_loop_rounds 1 ?_
  rw [rounds_succ]
  go_wp2_with fail
  go_ret
  exact ⟨rfl, (Below.refl _ _).alloc (Nat.le_refl _) _⟩
theorem holds_no (S : Nat) (w : World) (h : Blk w S #[.int .i64 48, .int .i64 57] 119) : Calls Tryd.prog 116 #[.agg #[.int .i64 0, .bool false, .bool false, .int .i64 0, .int .i64 0, .slice (some ⟨S, 0, none⟩) 1 1, .slice none 0 0], .int .i64 97] w fun e w' => e = .returned (.bool false) ∧ Below w.heap.size w w' := by
  have c0 : w.cell? ⟨S, 0, none⟩ = some (.int .i64 48) := h.cell (i := 0) rfl
  have c1 : w.cell? ⟨S, 1, none⟩ = some (.int .i64 57) := h.cell (i := 1) rfl
  have hl := h.lt
  go_enter Tryd.func116, Tryd.ntmps116
  go_wp2_with fail
  refine wp_loop_rounds 2 ?_
  rw [rounds_succ]
  go_wp2_with fail
  rw [rounds_succ]
  go_wp2_with fail
  go_ret
  exact ⟨rfl, ((Below.refl _ _).alloc (Nat.le_refl _) _).alloc (by simp) _⟩
theorem holds_yes (S : Nat) (w : World) (h : Blk w S #[.int .i64 48, .int .i64 57] 119) : Calls Tryd.prog 116 #[.agg #[.int .i64 0, .bool false, .bool false, .int .i64 0, .int .i64 0, .slice (some ⟨S, 0, none⟩) 1 1, .slice none 0 0], .int .i64 49] w fun e w' => e = .returned (.bool true) ∧ Below w.heap.size w w' := by
  have c0 : w.cell? ⟨S, 0, none⟩ = some (.int .i64 48) := h.cell (i := 0) rfl
  have c1 : w.cell? ⟨S, 1, none⟩ = some (.int .i64 57) := h.cell (i := 1) rfl
  have hl := h.lt
  go_enter Tryd.func116, Tryd.ntmps116
  go_wp2_with fail
  refine wp_loop_rounds 2 ?_
  rw [rounds_succ]
  go_wp2_with fail
  go_ret
  exact ⟨rfl, ((Below.refl _ _).alloc (Nat.le_refl _) _).alloc (by simp) _⟩
/-- the fields of the pattern of a digit -/
abbrev dgC (S : Nat) : Array Value := #[.int .i64 0, .bool false, .bool false, .int .i64 0, .int .i64 0, .slice (some ⟨S, 0, none⟩) 1 1, .slice none 0 0]
theorem digit_any (w : World) : Calls Tryd.prog 23 #[] w fun e w' => ∃ S, e = .returned (.agg (dgC S)) ∧ w.heap.size ≤ S ∧ Blk w' S #[.int .i64 48, .int .i64 57] 119 ∧ Below w.heap.size w w' := by
  go_enter Tryd.func23, Tryd.ntmps23
  go_wp2_with fail
  have hX : Blk ((w.alloc (.cells (dgC (w.heap.size + 1)) 25)).alloc (.cells #[.int .i64 48, .int .i64 57] 119)) w.heap.size (dgC (w.heap.size + 1)) 25 := (Blk.new _ _ _).alloc _
  have hS : Blk ((w.alloc (.cells (dgC (w.heap.size + 1)) 25)).alloc (.cells #[.int .i64 48, .int .i64 57] 119)) (w.heap.size + 1) #[.int .i64 48, .int .i64 57] 119 := by
    have h := Blk.new (w.alloc (.cells (dgC (w.heap.size + 1)) 25)) #[.int .i64 48, .int .i64 57] 119
    rw [show (w.alloc (.cells (dgC (w.heap.size + 1)) 25)).heap.size = w.heap.size + 1 by simp] at h
    exact h
  (try simp only [Exit.inBlock, Exit.then])
  refine bodyPost_ret (v := (.agg (dgC (w.heap.size + 1)))) ?rc rfl ?_
  case rc => exact results_cell_row rfl _ _ (w.heap.size) 25 _ (0, 0) _ rfl hX Tryd.underlying25 rfl (by kernel_rfl)
  exact ⟨w.heap.size + 1, rfl, by omega, hS, ((Below.refl _ _).alloc (Nat.le_refl _) _).alloc (by simp) _⟩
theorem node0_any (base M Pb S n : Nat) (xs : List Value) (v gr : Value) (w : World) (HM : Hid (Blk w M #[v, gr] 164)) (HR : Hid (RowL w base 169 4 v n xs)) (hb : base ≤ w.heap.size) (hMb : M < base) (hn : n ≤ 1000) (hP : Blk w Pb (dgC S) 25) :
    Calls Tryd.prog 81 #[.pointer (some ⟨M, 0, none⟩), .pointer (some ⟨Pb, 0, none⟩), .int .i64 1] w fun e w' => e = .returned (.int .i64 1) ∧ ∃ g cap, RowL w' base 169 4 (.slice (some ⟨g, 0, none⟩) (n + 1) cap) (n + 1) (xs ++ [.int .i64 0, .int .i64 0, .int .i64 0, .pointer (some ⟨Pb, 0, none⟩)]) ∧
      Blk w' M #[.slice (some ⟨g, 0, none⟩) (n + 1) cap, gr] 164 ∧ Go.Law.Aside M v w w' := by
  have c0 : w.cell? ⟨Pb, 0, none⟩ = some (.int .i64 0) := hP.cell (i := 0) rfl
  have HC := Lib.hid (add_any base M n xs v gr 0 0 0 (some ⟨Pb, 0, none⟩) w HM HR hb hMb hn)
  clear hP HM HR
  go_enter Tryd.func81, Tryd.ntmps81
  go_wp2_with (go_at_call 82; refine HC.out.mono ?_; rintro e w2 ⟨rfl, hpost⟩)
  go_ret
  exact ⟨rfl, hpost⟩
end Go.Proofs.YtghbicajcffjhaaDoor.PC
