

/-
  A table is checked.
-/
import Derived.Test.YtabnohphgegflaaTbCell
import Derived.Test.YtabnohphgegflaaTbCkP
import Derived.Test.YtabnohphgegflaaOwnB
namespace Go.Proofs.Ytabnohphgegflaa.TB
open Go.RowKit Go.Law Go.Law.Tb
set_option linter.unusedVariables false
set_option linter.unusedSimpArgs false
set_option maxRecDepth 100000
set_option maxHeartbeats 8000000 in
theorem check_bad (t : TabD) (w : World) (hbad : headBad t) : Calls Try.prog 22 #[.agg t.cells.toArray] w fun e w' => e = .returned (.int .i64 2) ∧ Below w.heap.size w w' := by
  obtain ⟨rows, cols, tn, ta, tc, tcell, width, head, align, tnode⟩ := t
  have hb2 : (rows < 1 ∨ 500 < rows) ∨ (cols < 1 ∨ 64 < cols) ∨ (width < 0 ∨ 31680 < width) ∨ (head < 0 ∨ rows < head) ∨ (align < 0 ∨ 2 < align) ∨ (tnode < 0 ∨ 1073741824 < tnode) := hbad
  have HB2 := Lib.hid hb2
  clear hbad hb2
  obtain ⟨V, hV⟩ : ∃ V : Int, V = 2 := ⟨_, rfl⟩
  rw [← hV]
  have HE := Lib.hid hV
  clear hV
  unfold TabD.cells
  have HBX := Lib.hid (show Below w.heap.size w (w.alloc (.cells #[.int .i64 rows, .int .i64 cols, .slice ta tn tc, .int .i64 width, .int .i64 head, .int .i64 align, .int .i64 tnode] 41)) from (Below.refl _ _).alloc (Nat.le_refl _) _)
  go_enter Try.func22, Try.ntmps22
  by_cases h1 : rows < 1
  · go_upto_region 1 with fail
    refine wp_region_list ?_
    refine cut_at 4 (fun R hR => ?_)
    have HRa := Lib.hid hR
    clear hR
    simp only [List.take_succ_cons, List.take_zero, List.cons_append, List.nil_append]
    go_wp2_with fail
    rw [HRa.out]
    refine skip_go (by kernel_rfl) ?_
    simp only [Exit.then]
    go_step
    refine cond_err (by kernel_rfl) ?_
    simp only [Exit.then]
    (try go_big_unhide)
    refine bodyPost_ret (results_tmp rfl _ _ _) (by kernel_rfl) ?_
    exact ⟨by rw [HE.out]; kernel_rfl, HBX.out⟩
  by_cases h2 : 500 < rows
  · go_upto_region 1 with fail
    refine wp_region_list ?_
    refine cut_at 9 (fun R hR => ?_)
    have HRb := Lib.hid hR
    clear hR
    simp only [List.take_succ_cons, List.take_zero, List.cons_append, List.nil_append]
    go_wp2_with fail
    rw [HRb.out]
    refine skip_go (by kernel_rfl) ?_
    simp only [Exit.then]
    go_step
    refine cond_err (by kernel_rfl) ?_
    simp only [Exit.then]
    (try go_big_unhide)
    refine bodyPost_ret (results_tmp rfl _ _ _) (by kernel_rfl) ?_
    exact ⟨by rw [HE.out]; kernel_rfl, HBX.out⟩
  by_cases h3 : cols < 1
  · go_upto_region 1 with fail
    refine wp_region_list ?_
    refine cut_at 14 (fun R hR => ?_)
    have HRc := Lib.hid hR
    clear hR
    simp only [List.take_succ_cons, List.take_zero, List.cons_append, List.nil_append]
    go_wp2_with fail
    rw [HRc.out]
    refine skip_go (by kernel_rfl) ?_
    simp only [Exit.then]
    go_step
    refine cond_err (by kernel_rfl) ?_
    simp only [Exit.then]
    (try go_big_unhide)
    refine bodyPost_ret (results_tmp rfl _ _ _) (by kernel_rfl) ?_
    exact ⟨by rw [HE.out]; kernel_rfl, HBX.out⟩
  by_cases h4 : 64 < cols
  · go_upto_region 1 with fail
    refine wp_region_list ?_
    refine cut_at 19 (fun R hR => ?_)
    have HRd := Lib.hid hR
    clear hR
    simp only [List.take_succ_cons, List.take_zero, List.cons_append, List.nil_append]
    go_wp2_with fail
    rw [HRd.out]
    refine skip_go (by kernel_rfl) ?_
    simp only [Exit.then]
    go_step
    refine cond_err (by kernel_rfl) ?_
    simp only [Exit.then]
    (try go_big_unhide)
    refine bodyPost_ret (results_tmp rfl _ _ _) (by kernel_rfl) ?_
    exact ⟨by rw [HE.out]; kernel_rfl, HBX.out⟩
  by_cases h5 : width < 0
  · go_upto_region 1 with fail
    refine wp_region_list ?_
    refine cut_at 24 (fun R hR => ?_)
    have HRe := Lib.hid hR
    clear hR
    simp only [List.take_succ_cons, List.take_zero, List.cons_append, List.nil_append]
    go_wp2_with fail
    rw [HRe.out]
    refine skip_go (by kernel_rfl) ?_
    simp only [Exit.then]
    go_step
    refine cond_err (by kernel_rfl) ?_
    simp only [Exit.then]
    (try go_big_unhide)
    refine bodyPost_ret (results_tmp rfl _ _ _) (by kernel_rfl) ?_
    exact ⟨by rw [HE.out]; kernel_rfl, HBX.out⟩
  by_cases h6 : 31680 < width
  · go_upto_region 1 with fail
    refine wp_region_list ?_
    refine cut_at 29 (fun R hR => ?_)
    have HRf := Lib.hid hR
    clear hR
    simp only [List.take_succ_cons, List.take_zero, List.cons_append, List.nil_append]
    go_wp2_with fail
    rw [HRf.out]
    refine skip_go (by kernel_rfl) ?_
    simp only [Exit.then]
    go_step
    refine cond_err (by kernel_rfl) ?_
    simp only [Exit.then]
    (try go_big_unhide)
    refine bodyPost_ret (results_tmp rfl _ _ _) (by kernel_rfl) ?_
    exact ⟨by rw [HE.out]; kernel_rfl, HBX.out⟩
  by_cases h7 : head < 0
  · go_upto_region 1 with fail
    refine wp_region_list ?_
    refine cut_at 34 (fun R hR => ?_)
    have HRg := Lib.hid hR
    clear hR
    simp only [List.take_succ_cons, List.take_zero, List.cons_append, List.nil_append]
    go_wp2_with fail
    rw [HRg.out]
    refine skip_go (by kernel_rfl) ?_
    simp only [Exit.then]
    go_step
    refine cond_err (by kernel_rfl) ?_
    simp only [Exit.then]
    (try go_big_unhide)
    refine bodyPost_ret (results_tmp rfl _ _ _) (by kernel_rfl) ?_
    exact ⟨by rw [HE.out]; kernel_rfl, HBX.out⟩
  by_cases h8 : rows < head
  · go_upto_region 1 with fail
    refine wp_region_list ?_
    refine cut_at 41 (fun R hR => ?_)
    have HRh := Lib.hid hR
    clear hR
    simp only [List.take_succ_cons, List.take_zero, List.cons_append, List.nil_append]
    go_wp2_with fail
    rw [HRh.out]
    refine skip_go (by kernel_rfl) ?_
    simp only [Exit.then]
    go_step
    refine cond_err (by kernel_rfl) ?_
    simp only [Exit.then]
    (try go_big_unhide)
    refine bodyPost_ret (results_tmp rfl _ _ _) (by kernel_rfl) ?_
    exact ⟨by rw [HE.out]; kernel_rfl, HBX.out⟩
  by_cases h9 : align < 0
  · go_upto_region 1 with fail
    refine wp_region_list ?_
    refine cut_at 46 (fun R hR => ?_)
    have HRi := Lib.hid hR
    clear hR
    simp only [List.take_succ_cons, List.take_zero, List.cons_append, List.nil_append]
    go_wp2_with fail
    rw [HRi.out]
    refine skip_go (by kernel_rfl) ?_
    simp only [Exit.then]
    go_step
    refine cond_err (by kernel_rfl) ?_
    simp only [Exit.then]
    (try go_big_unhide)
    refine bodyPost_ret (results_tmp rfl _ _ _) (by kernel_rfl) ?_
    exact ⟨by rw [HE.out]; kernel_rfl, HBX.out⟩
  by_cases h10 : 2 < align
  · go_upto_region 1 with fail
    refine wp_region_list ?_
    refine cut_at 51 (fun R hR => ?_)
    have HRj := Lib.hid hR
    clear hR
    simp only [List.take_succ_cons, List.take_zero, List.cons_append, List.nil_append]
    go_wp2_with fail
    rw [HRj.out]
    refine skip_go (by kernel_rfl) ?_
    simp only [Exit.then]
    go_step
    refine cond_err (by kernel_rfl) ?_
    simp only [Exit.then]
    (try go_big_unhide)
    refine bodyPost_ret (results_tmp rfl _ _ _) (by kernel_rfl) ?_
    exact ⟨by rw [HE.out]; kernel_rfl, HBX.out⟩
  by_cases h11 : tnode < 0
  · go_upto_region 1 with fail
    refine wp_region_list ?_
    refine cut_at 56 (fun R hR => ?_)
    have HRk := Lib.hid hR
    clear hR
    simp only [List.take_succ_cons, List.take_zero, List.cons_append, List.nil_append]
    go_wp2_with fail
    rw [HRk.out]
    refine skip_go (by kernel_rfl) ?_
    simp only [Exit.then]
    go_step
    refine cond_err (by kernel_rfl) ?_
    simp only [Exit.then]
    (try go_big_unhide)
    refine bodyPost_ret (results_tmp rfl _ _ _) (by kernel_rfl) ?_
    exact ⟨by rw [HE.out]; kernel_rfl, HBX.out⟩
  by_cases h12 : 1073741824 < tnode
  · go_upto_region 1 with fail
    refine wp_region_list ?_
    refine cut_at 61 (fun R hR => ?_)
    have HRl := Lib.hid hR
    clear hR
    simp only [List.take_succ_cons, List.take_zero, List.cons_append, List.nil_append]
    go_wp2_with fail
    rw [HRl.out]
    refine skip_go (by kernel_rfl) ?_
    simp only [Exit.then]
    go_step
    refine cond_err (by kernel_rfl) ?_
    simp only [Exit.then]
    (try go_big_unhide)
    refine bodyPost_ret (results_tmp rfl _ _ _) (by kernel_rfl) ?_
    exact ⟨by rw [HE.out]; kernel_rfl, HBX.out⟩
  have := HB2.out
  omega
end Go.Proofs.Ytabnohphgegflaa.TB
