

/-
  A cell of a table is checked.
-/
import Derived.Test.YtabnohphgegflaaTbPar
import Derived.Test.YtabnohphgegflaaSteps
import Derived.BigCall
import Derived.BigGuard
import Derived.Deep.WholeRow
namespace Go.Law.Tb
open Go.RowKit Go.Law
theorem addr_add (b o j : Nat) : (⟨b, o, none⟩ : Addr).add j = ⟨b, o + j, none⟩ := by
  unfold Addr.add
  split
  · rename_i h; subst h; rfl
  · rfl
/-- a struct lies in a row -/
theorem row_range {w : World} {b o s : Nat} {V : Nat → Value} (h : ∀ j, j < s → w.cell? ⟨b, o + j, none⟩ = some (V j)) (cs : List Value) (hl : cs.length = s) (hV : ∀ j, j < s → V j = cs.getD j undef) : w.rangeAt b o cs := fun j v hj => by
  have hlt : j < cs.length := (List.getElem?_eq_some_iff.1 hj).1
  rw [h j (by omega), hV j (by omega), List.getD_eq_getElem?_getD, hj]
  rfl
theorem row_lt {w : World} {b o s : Nat} {V : Nat → Value} (h : ∀ j, j < s + 1 → w.cell? ⟨b, o + j, none⟩ = some (V j)) : b < w.heap.size := lt_of_cell (h 0 (by omega))
end Go.Law.Tb
namespace Go.Proofs.Ytabnohphgegflaa.TB
open Go.RowKit Go.Law Go.Law.Tb
set_option linter.unusedVariables false
set_option linter.unusedSimpArgs false
set_option maxRecDepth 100000
set_option maxHeartbeats 8000000 in
theorem cell_any (t : TabD) (c : CellD) (w : World) (hc : CellOk w c) (hr : 1 ≤ t.rows ∧ t.rows ≤ 500) (hcl : 1 ≤ t.cols ∧ t.cols ≤ 64) : Calls Try.prog 26 #[.agg t.cells.toArray, .agg c.cells.toArray] w fun e w' => e = .returned (.int .i64 (cellE t.rows t.cols c)) ∧ Below w.heap.size w w' := by
  obtain ⟨rows, cols, tn, ta, tc, tcell, width, head, align, tnode⟩ := t
  obtain ⟨row, col, ch, cw, np, ap, cp, par, pad, mn, pref, cnode⟩ := c
  simp only at hr hcl
  obtain ⟨V, hV⟩ : ∃ V, V = cellE rows cols ⟨row, col, ch, cw, np, ap, cp, par, pad, mn, pref, cnode⟩ := ⟨_, rfl⟩
  have HV := Lib.hid hV
  simp only
  rw [← hV]
  have HC := Lib.hid (show CellsF w ap np 17 (fun k => (par k).V) ∧ ∀ k, k < np → ParOk w (par k) from hc)
  unfold TabD.cells CellD.cells
  clear hV hc
  have HBX := Lib.hid (show Below w.heap.size w ((w.alloc (.cells #[.int .i64 rows, .int .i64 cols, .slice ta tn tc, .int .i64 width, .int .i64 head, .int .i64 align, .int .i64 tnode] 41)).alloc (.cells #[.int .i64 row, .int .i64 col, .int .i64 ch, .int .i64 cw, .slice ap np cp, .int .i64 pad, .int .i64 mn, .int .i64 pref, .int .i64 cnode] 44)) from ((Below.refl _ _).alloc (Nat.le_refl _) _).alloc (by simp) _)
  go_enter Try.func26, Try.ntmps26
  by_cases hbox : boxBad rows cols ⟨row, col, ch, cw, np, ap, cp, par, pad, mn, pref, cnode⟩
  · have HE := Lib.hid (show V = 2 by rw [HV.out]; unfold cellE; rw [if_pos hbox])
    have hb2 : (row < 0 ∨ rows ≤ row) ∨ (col < 0 ∨ cols ≤ col) ∨ (ch < 1 ∨ rows - row < ch) ∨ (cw < 1 ∨ cols - col < cw) := hbox
    have HB2 := Lib.hid hb2
    clear hbox hb2
    by_cases h1 : row < 0
    · go_upto_region 1 with fail
      refine wp_region_list ?_
      refine cut_at 4 (fun R hR => ?_)
      have HRa := Lib.hid hR
      clear hR
      simp only [List.take_succ_cons, List.take_zero, List.cons_append, List.nil_append]
      go_wp2_with fail
      rw [HRa.out]
      refine skip_go (by kernel_rfl) ?_
      simp only [Exit.then]
      go_step
      refine cond_err (by kernel_rfl) ?_
      simp only [Exit.then]
      (try go_big_unhide)
      refine bodyPost_ret (results_tmp rfl _ _ _) (by kernel_rfl) ?_
      exact ⟨by rw [HE.out]; kernel_rfl, HBX.out⟩
    by_cases h2 : rows ≤ row
    · go_upto_region 1 with fail
      refine wp_region_list ?_
      refine cut_at 10 (fun R hR => ?_)
      have HRb := Lib.hid hR
      clear hR
      simp only [List.take_succ_cons, List.take_zero, List.cons_append, List.nil_append]
      go_wp2_with fail
      rw [HRb.out]
      refine skip_go (by kernel_rfl) ?_
      simp only [Exit.then]
      go_step
      refine cond_err (by kernel_rfl) ?_
      simp only [Exit.then]
      (try go_big_unhide)
      refine bodyPost_ret (results_tmp rfl _ _ _) (by kernel_rfl) ?_
      exact ⟨by rw [HE.out]; kernel_rfl, HBX.out⟩
    by_cases h3 : col < 0
    · go_upto_region 1 with fail
      refine wp_region_list ?_
      refine cut_at 15 (fun R hR => ?_)
      have HRc := Lib.hid hR
      clear hR
      simp only [List.take_succ_cons, List.take_zero, List.cons_append, List.nil_append]
      go_wp2_with fail
      rw [HRc.out]
      refine skip_go (by kernel_rfl) ?_
      simp only [Exit.then]
      go_step
      refine cond_err (by kernel_rfl) ?_
      simp only [Exit.then]
      (try go_big_unhide)
      refine bodyPost_ret (results_tmp rfl _ _ _) (by kernel_rfl) ?_
      exact ⟨by rw [HE.out]; kernel_rfl, HBX.out⟩
    by_cases h4 : cols ≤ col
    · go_upto_region 1 with fail
      refine wp_region_list ?_
      refine cut_at 22 (fun R hR => ?_)
      have HRd := Lib.hid hR
      clear hR
      simp only [List.take_succ_cons, List.take_zero, List.cons_append, List.nil_append]
      go_wp2_with fail
      rw [HRd.out]
      refine skip_go (by kernel_rfl) ?_
      simp only [Exit.then]
      go_step
      refine cond_err (by kernel_rfl) ?_
      simp only [Exit.then]
      (try go_big_unhide)
      refine bodyPost_ret (results_tmp rfl _ _ _) (by kernel_rfl) ?_
      exact ⟨by rw [HE.out]; kernel_rfl, HBX.out⟩
    by_cases h5 : ch < 1
    · go_upto_region 1 with fail
      refine wp_region_list ?_
      refine cut_at 27 (fun R hR => ?_)
      have HRe := Lib.hid hR
      clear hR
      simp only [List.take_succ_cons, List.take_zero, List.cons_append, List.nil_append]
      go_wp2_with fail
      rw [HRe.out]
      refine skip_go (by kernel_rfl) ?_
      simp only [Exit.then]
      go_step
      refine cond_err (by kernel_rfl) ?_
      simp only [Exit.then]
      (try go_big_unhide)
      refine bodyPost_ret (results_tmp rfl _ _ _) (by kernel_rfl) ?_
      exact ⟨by rw [HE.out]; kernel_rfl, HBX.out⟩
    have e1 : IntKind.i64.wrap (rows - row) = rows - row := IntWalk.i64_in _ ⟨by omega, by omega⟩
    have e2 : IntKind.i64.wrap (cols - col) = cols - col := IntWalk.i64_in _ ⟨by omega, by omega⟩
    by_cases h6 : rows - row < ch
    · go_upto_region 1 with fail
      refine wp_region_list ?_
      refine cut_at 37 (fun R hR => ?_)
      have HRf := Lib.hid hR
      clear hR
      simp only [List.take_succ_cons, List.take_zero, List.cons_append, List.nil_append]
      go_wp2_with fail
      rw [HRf.out]
      refine skip_go (by kernel_rfl) ?_
      simp only [Exit.then]
      go_step
      refine cond_err (by kernel_rfl) ?_
      simp only [Exit.then]
      (try go_big_unhide)
      refine bodyPost_ret (results_tmp rfl _ _ _) (by kernel_rfl) ?_
      exact ⟨by rw [HE.out]; kernel_rfl, HBX.out⟩
    by_cases h7 : cw < 1
    · go_upto_region 1 with fail
      refine wp_region_list ?_
      refine cut_at 42 (fun R hR => ?_)
      have HRg := Lib.hid hR
      clear hR
      simp only [List.take_succ_cons, List.take_zero, List.cons_append, List.nil_append]
      go_wp2_with fail
      rw [HRg.out]
      refine skip_go (by kernel_rfl) ?_
      simp only [Exit.then]
      go_step
      refine cond_err (by kernel_rfl) ?_
      simp only [Exit.then]
      (try go_big_unhide)
      refine bodyPost_ret (results_tmp rfl _ _ _) (by kernel_rfl) ?_
      exact ⟨by rw [HE.out]; kernel_rfl, HBX.out⟩
    by_cases h8 : cols - col < cw
    · go_upto_region 1 with fail
      refine wp_region_list ?_
      refine cut_at 52 (fun R hR => ?_)
      have HRh := Lib.hid hR
      clear hR
      simp only [List.take_succ_cons, List.take_zero, List.cons_append, List.nil_append]
      go_wp2_with fail
      rw [HRh.out]
      refine skip_go (by kernel_rfl) ?_
      simp only [Exit.then]
      go_step
      refine cond_err (by kernel_rfl) ?_
      simp only [Exit.then]
      (try go_big_unhide)
      refine bodyPost_ret (results_tmp rfl _ _ _) (by kernel_rfl) ?_
      exact ⟨by rw [HE.out]; kernel_rfl, HBX.out⟩
    have := HB2.out
    omega
  · have hb2 : (0 ≤ row ∧ row < rows) ∧ (0 ≤ col ∧ col < cols) ∧ (1 ≤ ch ∧ ch ≤ rows - row) ∧ (1 ≤ cw ∧ cw ≤ cols - col) := by
      have : ¬ ((row < 0 ∨ rows ≤ row) ∨ (col < 0 ∨ cols ≤ col) ∨ (ch < 1 ∨ rows - row < ch) ∨ (cw < 1 ∨ cols - col < cw)) := hbox
      omega
    have HV2 := Lib.hid (show V = if numBad ⟨row, col, ch, cw, np, ap, cp, par, pad, mn, pref, cnode⟩ then 2 else if 50 < np then 3 else fstE np (fun k => parE (par k)) 0 by rw [HV.out]; unfold cellE; rw [if_neg hbox])
    have e1 : IntKind.i64.wrap (rows - row) = rows - row := IntWalk.i64_in _ ⟨by omega, by omega⟩
    have e2 : IntKind.i64.wrap (cols - col) = cols - col := IntWalk.i64_in _ ⟨by omega, by omega⟩
    obtain ⟨⟨b1, b2⟩, ⟨b3, b4⟩, ⟨b5, b6⟩, ⟨b7, b8⟩⟩ := hb2
    clear hbox HV
    go_upto_region 3 with fail
    clear e1 e2 b1 b2 b3 b4 b5 b6 b7 b8 hr hcl
    by_cases hnum : numBad ⟨row, col, ch, cw, np, ap, cp, par, pad, mn, pref, cnode⟩
    · have HE := Lib.hid (show V = 2 by rw [HV2.out, if_pos hnum])
      have hb2 : (pad < 0 ∨ 1000 < pad) ∨ (mn < 0 ∨ 31680 < mn) ∨ (pref < 0 ∨ 31680 < pref) ∨ (cnode < 0 ∨ 1073741824 < cnode) := hnum
      have HB2 := Lib.hid hb2
      clear hnum hb2
      by_cases h1 : pad < 0
      · go_upto_region 3 with fail
        refine wp_region_list ?_
        refine cut_at 4 (fun R hR => ?_)
        have HRa := Lib.hid hR
        clear hR
        simp only [List.take_succ_cons, List.take_zero, List.cons_append, List.nil_append]
        go_wp2_with fail
        rw [HRa.out]
        refine skip_go (by kernel_rfl) ?_
        simp only [Exit.then]
        go_step
        refine cond_err (by kernel_rfl) ?_
        simp only [Exit.then]
        (try go_big_unhide)
        refine bodyPost_ret (results_tmp rfl _ _ _) (by kernel_rfl) ?_
        exact ⟨by rw [HE.out]; kernel_rfl, HBX.out⟩
      by_cases h2 : 1000 < pad
      · go_upto_region 3 with fail
        refine wp_region_list ?_
        refine cut_at 8 (fun R hR => ?_)
        have HRb := Lib.hid hR
        clear hR
        simp only [List.take_succ_cons, List.take_zero, List.cons_append, List.nil_append]
        go_wp2_with fail
        rw [HRb.out]
        refine skip_go (by kernel_rfl) ?_
        simp only [Exit.then]
        go_step
        refine cond_err (by kernel_rfl) ?_
        simp only [Exit.then]
        (try go_big_unhide)
        refine bodyPost_ret (results_tmp rfl _ _ _) (by kernel_rfl) ?_
        exact ⟨by rw [HE.out]; kernel_rfl, HBX.out⟩
      by_cases h3 : mn < 0
      · go_upto_region 3 with fail
        refine wp_region_list ?_
        refine cut_at 13 (fun R hR => ?_)
        have HRc := Lib.hid hR
        clear hR
        simp only [List.take_succ_cons, List.take_zero, List.cons_append, List.nil_append]
        go_wp2_with fail
        rw [HRc.out]
        refine skip_go (by kernel_rfl) ?_
        simp only [Exit.then]
        go_step
        refine cond_err (by kernel_rfl) ?_
        simp only [Exit.then]
        (try go_big_unhide)
        refine bodyPost_ret (results_tmp rfl _ _ _) (by kernel_rfl) ?_
        exact ⟨by rw [HE.out]; kernel_rfl, HBX.out⟩
      by_cases h4 : 31680 < mn
      · go_upto_region 3 with fail
        refine wp_region_list ?_
        refine cut_at 18 (fun R hR => ?_)
        have HRd := Lib.hid hR
        clear hR
        simp only [List.take_succ_cons, List.take_zero, List.cons_append, List.nil_append]
        go_wp2_with fail
        rw [HRd.out]
        refine skip_go (by kernel_rfl) ?_
        simp only [Exit.then]
        go_step
        refine cond_err (by kernel_rfl) ?_
        simp only [Exit.then]
        (try go_big_unhide)
        refine bodyPost_ret (results_tmp rfl _ _ _) (by kernel_rfl) ?_
        exact ⟨by rw [HE.out]; kernel_rfl, HBX.out⟩
      by_cases h5 : pref < 0
      · go_upto_region 3 with fail
        refine wp_region_list ?_
        refine cut_at 23 (fun R hR => ?_)
        have HRe := Lib.hid hR
        clear hR
        simp only [List.take_succ_cons, List.take_zero, List.cons_append, List.nil_append]
        go_wp2_with fail
        rw [HRe.out]
        refine skip_go (by kernel_rfl) ?_
        simp only [Exit.then]
        go_step
        refine cond_err (by kernel_rfl) ?_
        simp only [Exit.then]
        (try go_big_unhide)
        refine bodyPost_ret (results_tmp rfl _ _ _) (by kernel_rfl) ?_
        exact ⟨by rw [HE.out]; kernel_rfl, HBX.out⟩
      by_cases h6 : 31680 < pref
      · go_upto_region 3 with fail
        refine wp_region_list ?_
        refine cut_at 28 (fun R hR => ?_)
        have HRf := Lib.hid hR
        clear hR
        simp only [List.take_succ_cons, List.take_zero, List.cons_append, List.nil_append]
        go_wp2_with fail
        rw [HRf.out]
        refine skip_go (by kernel_rfl) ?_
        simp only [Exit.then]
        go_step
        refine cond_err (by kernel_rfl) ?_
        simp only [Exit.then]
        (try go_big_unhide)
        refine bodyPost_ret (results_tmp rfl _ _ _) (by kernel_rfl) ?_
        exact ⟨by rw [HE.out]; kernel_rfl, HBX.out⟩
      by_cases h7 : cnode < 0
      · go_upto_region 3 with fail
        refine wp_region_list ?_
        refine cut_at 33 (fun R hR => ?_)
        have HRg := Lib.hid hR
        clear hR
        simp only [List.take_succ_cons, List.take_zero, List.cons_append, List.nil_append]
        go_wp2_with fail
        rw [HRg.out]
        refine skip_go (by kernel_rfl) ?_
        simp only [Exit.then]
        go_step
        refine cond_err (by kernel_rfl) ?_
        simp only [Exit.then]
        (try go_big_unhide)
        refine bodyPost_ret (results_tmp rfl _ _ _) (by kernel_rfl) ?_
        exact ⟨by rw [HE.out]; kernel_rfl, HBX.out⟩
      by_cases h8 : 1073741824 < cnode
      · go_upto_region 3 with fail
        refine wp_region_list ?_
        refine cut_at 38 (fun R hR => ?_)
        have HRh := Lib.hid hR
        clear hR
        simp only [List.take_succ_cons, List.take_zero, List.cons_append, List.nil_append]
        go_wp2_with fail
        rw [HRh.out]
        refine skip_go (by kernel_rfl) ?_
        simp only [Exit.then]
        go_step
        refine cond_err (by kernel_rfl) ?_
        simp only [Exit.then]
        (try go_big_unhide)
        refine bodyPost_ret (results_tmp rfl _ _ _) (by kernel_rfl) ?_
        exact ⟨by rw [HE.out]; kernel_rfl, HBX.out⟩
      have := HB2.out
      omega
    have hb3 : (0 ≤ pad ∧ pad ≤ 1000) ∧ (0 ≤ mn ∧ mn ≤ 31680) ∧ (0 ≤ pref ∧ pref ≤ 31680) ∧ (0 ≤ cnode ∧ cnode ≤ 1073741824) := by
      have : ¬ ((pad < 0 ∨ 1000 < pad) ∨ (mn < 0 ∨ 31680 < mn) ∨ (pref < 0 ∨ 31680 < pref) ∨ (cnode < 0 ∨ 1073741824 < cnode)) := hnum
      omega
    obtain ⟨⟨b1, b2⟩, ⟨b3, b4⟩, ⟨b5, b6⟩, ⟨b7, b8⟩⟩ := hb3
    have HV3 := Lib.hid (show V = if 50 < np then 3 else fstE np (fun k => parE (par k)) 0 by rw [HV2.out, if_neg hnum])
    clear hnum HV2
    go_upto_region 5 with fail
    clear b1 b2 b3 b4 b5 b6 b7 b8
    by_cases hnp : 50 < np
    · have HE := Lib.hid (show V = 3 by rw [HV3.out, if_pos hnp])
      have e1 : (50 : Int) < (np : Int) := by omega
      go_wp2_with fail
      go_ret
      exact ⟨by rw [HE.out]; rfl, HBX.out⟩
    have HF := Lib.hid (show V = fstE np (fun k => parE (par k)) 0 by rw [HV3.out, if_neg hnp])
    have e1 : ¬ (50 : Int) < (np : Int) := by omega
    clear HV3
    go_wp2_with fail
    obtain ⟨wb, hwb⟩ : ∃ wb, wb = ((w.alloc (.cells #[.int .i64 rows, .int .i64 cols, .slice ta tn tc, .int .i64 width, .int .i64 head, .int .i64 align, .int .i64 tnode] 41)).alloc (.cells #[.int .i64 row, .int .i64 col, .int .i64 ch, .int .i64 cw, .slice ap np cp, .int .i64 pad, .int .i64 mn, .int .i64 pref, .int .i64 cnode] 44)) := ⟨_, rfl⟩
    have HBB := Lib.hid (show Below w.heap.size w wb by rw [hwb]; exact HBX.out)
    rw [← hwb]
    clear hwb HBX
    have HGE := Lib.hid HBB.out.size
    go_loopw [105] (fun iv wr => ∃ i : Nat, iv = .int .i64 i ∧ i ≤ np ∧ (∀ j, j < i → parE (par j) = 0) ∧ Below wb.heap.size wb wr) (fun iv _ => np - (intOf iv).toNat)
    case atStart => exact ⟨0, rfl, by omega, fun j hj => by omega, Below.refl _ _⟩
    case round =>
      obtain ⟨i, rfl, hi, hno, hbel⟩ := hrel
      have HNO := Lib.hid hno
      have HBEL := Lib.hid hbel
      have HBW := Lib.hid (HBB.out.trans (hbel.mono HGE.out))
      have hsz := hbel.size
      clear hno hbel
      by_cases hin : i < np
      · have hin2 : (i : Int) < (np : Int) := by omega
        have HPO := Lib.hid ((HC.out.2 i hin).below (Nat.le_refl _) HBW.out)
        obtain ⟨b, off, hba, hcellG⟩ := (HC.out.1.below (Nat.le_refl _) HBW.out) (by omega)
        have hcell := hcellG i hin
        simp only at hcell
        clear hcellG
        obtain ⟨x, hx⟩ : ∃ x, x = par i := ⟨_, rfl⟩
        rw [← hx] at hcell
        have HX := Lib.hid hx
        have HRG := Lib.hid (row_range hcell x.cells rfl (fun j hj => rfl))
        have zb := row_lt hcell
        obtain ⟨qn, qa, qc, qit, qsize, qbold, qfixed, qalign, qdir, qleft, qright, qfirst, qbefore, qafter, qline, qkeep, qnext, qwidow, qorphan, qahead⟩ := x
        clear hcell hx
        subst hba
        go_upto_region 9 with fail
        refine wp_region_lit ?_
        refine cut_at 1 (fun R hR => ?_)
        have HRAa := Lib.hid hR
        clear hR
        simp only [List.take_succ_cons, List.take_zero, List.cons_append, List.nil_append]
        go_wp2_with fail
        rw [HRAa.out]
        simp only [List.drop_succ_cons, List.drop_zero]
        refine wpList_load_mid rfl 62 _ rfl b (off + i * 17) rfl _ _ HRG.out Try.underlying62 rfl (by kernel_rfl) ?_
        simp only [Act.put, List.setIfInBounds_toArray, List.set_cons_zero, List.set_cons_succ]
        refine cut_at 1 (fun R hR => ?_)
        have HRAb := Lib.hid hR
        clear hR
        simp only [List.take_succ_cons, List.take_zero, List.cons_append, List.nil_append]
        go_wp2_with fail
        rw [HRAb.out]
        simp only [List.drop_succ_cons, List.drop_zero]
        refine st_store_new rfl 62 _ _ rfl _ #[.slice qa qn qc, .int .i64 qsize, .bool qbold, .bool qfixed, .int .i64 qalign, .int .i64 qdir, .int .i64 qleft, .int .i64 qright, .int .i64 qfirst, .int .i64 qbefore, .int .i64 qafter, .int .i64 qline, .bool qkeep, .bool qnext, .int .i64 qwidow, .int .i64 qorphan, .int .i64 qahead] rfl rfl (by kernel_rfl) rfl (by kernel_rfl) ?_
        simp only [Act.put]
        go_upto_region 10 with fail
        have HRN := Lib.hid (show ((wr).alloc (.cells #[.slice qa qn qc, .int .i64 qsize, .bool qbold, .bool qfixed, .int .i64 qalign, .int .i64 qdir, .int .i64 qleft, .int .i64 qright, .int .i64 qfirst, .int .i64 qbefore, .int .i64 qafter, .int .i64 qline, .bool qkeep, .bool qnext, .int .i64 qwidow, .int .i64 qorphan, .int .i64 qahead] 62)).rangeAt (wr).heap.size 0 [.slice qa qn qc, .int .i64 qsize, .bool qbold, .bool qfixed, .int .i64 qalign, .int .i64 qdir, .int .i64 qleft, .int .i64 qright, .int .i64 qfirst, .int .i64 qbefore, .int .i64 qafter, .int .i64 qline, .bool qkeep, .bool qnext, .int .i64 qwidow, .int .i64 qorphan, .int .i64 qahead] from fun j v hj => by rw [Nat.zero_add]; exact (Blk.new wr _ _).cell (by simpa using hj))
        refine wp_region_lit ?_
        refine wpList_load_mid rfl 62 _ rfl (wr).heap.size 0 rfl _ _ HRN.out Try.underlying62 rfl (by kernel_rfl) ?_
        simp only [Act.put, List.setIfInBounds_toArray, List.set_cons_zero, List.set_cons_succ]
        go_wp2_with fail
        have hpo := HPO.out
        rw [← HX.out] at hpo
        refine (par_any ⟨qn, qa, qc, qit, qsize, qbold, qfixed, qalign, qdir, qleft, qright, qfirst, qbefore, qafter, qline, qkeep, qnext, qwidow, qorphan, qahead⟩ _ (hpo.below (Nat.le_refl _) ((Below.refl _ _).alloc (Nat.le_refl _) _))).mono ?_
        rintro e w2 ⟨rfl, hb2⟩
        rw [HX.out]
        have HB2 := Lib.hid (((Below.refl wr.heap.size wr).alloc (Nat.le_refl _) (.cells #[.slice qa qn qc, .int .i64 qsize, .bool qbold, .bool qfixed, .int .i64 qalign, .int .i64 qdir, .int .i64 qleft, .int .i64 qright, .int .i64 qfirst, .int .i64 qbefore, .int .i64 qafter, .int .i64 qline, .bool qkeep, .bool qnext, .int .i64 qwidow, .int .i64 qorphan, .int .i64 qahead] 62)).trans (hb2.mono (by simp)))
        clear hpo hb2
        by_cases he : parE (par i) = 0
        · rw [he]
          have HEZ := Lib.hid he
          clear he
          go_wp2_with fail
          go_roundw
          case rel => exact ⟨i + 1, by go_num, by omega, fun j hj => by
            rcases Nat.lt_or_ge j i with h | h
            · exact HNO.out j h
            · rw [show j = i by omega]; exact HEZ.out, HBEL.out.trans (HB2.out.mono hsz)⟩
          case measure => simp [intOf]; omega
        · have HE := Lib.hid (show V = parE (par i) by rw [HF.out, fstE_some hin HNO.out he])
          have f1 : (parE (par i) != 0) = true := by simpa using he
          clear he
          go_wp2_with fail
          go_ret
          exact ⟨by rw [HE.out]; rfl, HBW.out.trans (HB2.out.mono HBW.out.size)⟩
      · obtain rfl : i = np := by omega
        have hin2 : ¬ ((i : Nat) : Int) < (i : Int) := by omega
        have HE := Lib.hid (show V = 0 by rw [HF.out, fstE_none HNO.out])
        go_wp2_with fail
        go_ret
        exact ⟨by rw [HE.out]; rfl, HBW.out⟩
end Go.Proofs.Ytabnohphgegflaa.TB
