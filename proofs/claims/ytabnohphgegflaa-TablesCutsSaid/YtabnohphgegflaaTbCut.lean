

/-
  A table is cut to a few cells.
-/
import Derived.Test.YtabnohphgegflaaTbCutP
import Derived.Test.YtabnohphgegflaaTbPar
import Derived.Test.YtabnohphgegflaaTbFreeP
import Derived.Deep.CutRange
namespace Go.Proofs.Ytabnohphgegflaa.TB
open Go.RowKit Go.Law Go.Law.Tb
set_option linter.unusedVariables false
set_option linter.unusedSimpArgs false
def TabCap (t : TabD) : Prop := t.n ≤ 1000000000000000 ∧ ∀ i, i < t.n → (t.cell i).np ≤ 1000000000000000 ∧ ∀ k, k < (t.cell i).np → ((t.cell i).par k).n ≤ ((t.cell i).par k).c ∧ ((t.cell i).par k).c ≤ maxLen
def CutPost (w0 w : World) (e : Ending) (w' : World) : Prop := ∃ T : TabD, e = .returned (.agg T.cells.toArray) ∧ (∀ wx, (∀ k, w.heap.size ≤ k → k < w'.heap.size → wx.heap[k]? = w'.heap[k]?) → Below w0.heap.size w0 wx → TabOk wx T) ∧ T.n ≤ 12 ∧ (T.n ≤ T.c ∧ T.c ≤ maxLen) ∧ Below w.heap.size w w'
set_option maxRecDepth 100000
set_option maxHeartbeats 8000000 in
theorem cutTable_any (t : TabD) (w0 w : World) (hc : TabOk w0 t) (hb0 : Below w0.heap.size w0 w) (hcap : TabCap t) : Calls Try.prog 16 #[.agg t.cells.toArray] w (CutPost w0 w) := by
  have HB0 := Lib.hid hb0
  clear hb0
  obtain ⟨T, hT⟩ : ∃ T, T = t := ⟨_, rfl⟩
  have HTT := Lib.hid hT
  rw [← hT] at hc hcap
  have HC := Lib.hid hc
  have HCP := Lib.hid hcap
  have HIP := Lib.hid (show (Try.prog.info? 62).map (fun i => (i.zero, i.size, i.bytes)) = some (some (.agg #[.slice none 0 0, .int .i64 0, .bool false, .bool false, .int .i64 0, .int .i64 0, .int .i64 0, .int .i64 0, .int .i64 0, .int .i64 0, .int .i64 0, .int .i64 0, .bool false, .bool false, .int .i64 0, .int .i64 0, .int .i64 0]), 17, 136) by kernel_rfl)
  have HIC := Lib.hid (show (Try.prog.info? 44).map (fun i => (i.zero, i.size, i.bytes)) = some (some (.agg #[.int .i64 0, .int .i64 0, .int .i64 0, .int .i64 0, .slice none 0 0, .int .i64 0, .int .i64 0, .int .i64 0, .int .i64 0]), 9, 88) by kernel_rfl)
  clear hc hT hcap
  obtain ⟨rows, cols, tn, ta, tc, tcell, width, head, align, tnode⟩ := t
  unfold TabD.cells
  have HTR := Lib.hid (show (T.rows = rows ∧ T.cols = cols ∧ T.head = head) ∧ T.n = tn ∧ T.cell = tcell by rw [HTT.out]; exact ⟨⟨rfl, rfl, rfl⟩, rfl, rfl⟩)
  have hn4 := HCP.out.1
  rw [HTR.out.2.1] at hn4
  go_enter Try.func16, Try.ntmps16
  go_upto_region 2 with fail
  obtain ⟨tbA, htb⟩ : ∃ y : Array Value, y = #[.int .i64 rows, .int .i64 cols, .slice ta tn tc, .int .i64 width, .int .i64 head, .int .i64 align, .int .i64 tnode] := ⟨_, rfl⟩
  obtain ⟨rbA, hrb⟩ : ∃ y : Array Value, y = #[.int .i64 0, .int .i64 0, .slice none 0 0, .int .i64 0, .int .i64 0, .int .i64 0, .int .i64 0] := ⟨_, rfl⟩
  obtain ⟨w2, hw2⟩ : ∃ w2, w2 = (w.alloc (.cells #[.int .i64 rows, .int .i64 cols, .slice ta tn tc, .int .i64 width, .int .i64 head, .int .i64 align, .int .i64 tnode] 41)).alloc (.cells #[.int .i64 0, .int .i64 0, .slice none 0 0, .int .i64 0, .int .i64 0, .int .i64 0, .int .i64 0] 41) := ⟨_, rfl⟩
  have HS2 := Lib.hid (show CtS 41 44 62 w0 w tbA rbA (.slice none 0 0) 0 (fun _ => default) w2 from by
    refine CtS.nil ?_ ?_ ?_ (by decide)
    · rw [hw2]; exact ((Below.refl _ _).alloc (Nat.le_refl _) _).alloc (by simp) _
    · rw [hw2, htb]; exact (Blk.new w _ _).alloc _
    · rw [hw2, hrb]
      have := Blk.new (w.alloc (.cells #[.int .i64 rows, .int .i64 cols, .slice ta tn tc, .int .i64 width, .int .i64 head, .int .i64 align, .int .i64 tnode] 41)) #[.int .i64 0, .int .i64 0, .slice none 0 0, .int .i64 0, .int .i64 0, .int .i64 0, .int .i64 0] 41
      rw [World.size_alloc] at this
      exact this)
  have HTB := Lib.hid (show tbA[2]? = some (.slice ta tn tc) by rw [htb]; rfl)
  have HTBE := Lib.hid htb
  have HRBE := Lib.hid hrb
  rw [← hw2]
  have t2 : w2.cell? ⟨w.heap.size, 2, none⟩ = some (.slice ta tn tc) := HS2.out.tab.cell HTB.out
  clear hw2 htb hrb
  go_wp2_with fail
  go_loopw [3, 12] (fun ov iv wx => ∃ (i m : Nat) (L : Nat → CellD), iv = .int .i64 i ∧ i ≤ tn ∧ m ≤ 12 ∧ m ≤ i ∧ CtS 41 44 62 w0 w tbA rbA ov m L wx) (fun _ iv _ => tn - (intOf iv).toNat)
  case atStart => exact ⟨0, 0, _, rfl, by omega, by omega, by omega, HS2.out⟩
  case round =>
    clear HS2 t2
    obtain ⟨i, m, L, rfl, hi, hm, hmi, hS⟩ := hrel
    have HS := Lib.hid hS
    obtain ⟨wo, rfl⟩ : ∃ wo : World, wo = wr := ⟨_, rfl⟩
    have hsz := hS.size
    obtain ⟨oa, oc, hov, _, _⟩ := RowV.slice hS.out
    subst hov
    clear hS
    by_cases hin : i < tn
    · have hin2 : (i : Int) < (tn : Int) := by omega
      have hcs := HC.out.1.below (Nat.le_refl _) (HB0.out.trans (HS.out.below.mono HB0.out.size))
      rw [HTT.out] at hcs
      obtain ⟨b, off, hba, hcellG⟩ := hcs (by show 0 < tn; omega)
      have hcell := hcellG i hin
      obtain ⟨x, hx⟩ : ∃ x, x = T.cell i := ⟨_, rfl⟩
      have HX := Lib.hid hx
      simp only at hcell hba
      rw [show tcell i = x by rw [hx, HTT.out]] at hcell
      clear hcellG hcs hx
      obtain ⟨row, col, ch, cw, np, ap, cp, par, pad, mn, pref, cnode⟩ := x
      have d0 : wo.cell? ⟨b, off + i * 9, none⟩ = some (.int .i64 row) := hcell 0 (by omega)
      have d1 : wo.cell? ⟨b, off + i * 9 + 1, none⟩ = some (.int .i64 col) := hcell 1 (by omega)
      have d2 : wo.cell? ⟨b, off + i * 9 + 2, none⟩ = some (.int .i64 ch) := hcell 2 (by omega)
      have d3 : wo.cell? ⟨b, off + i * 9 + 3, none⟩ = some (.int .i64 cw) := hcell 3 (by omega)
      have d4 : wo.cell? ⟨b, off + i * 9 + 4, none⟩ = some (.slice ap np cp) := hcell 4 (by omega)
      have d5 : wo.cell? ⟨b, off + i * 9 + 5, none⟩ = some (.int .i64 pad) := hcell 5 (by omega)
      have d6 : wo.cell? ⟨b, off + i * 9 + 6, none⟩ = some (.int .i64 mn) := hcell 6 (by omega)
      have d7 : wo.cell? ⟨b, off + i * 9 + 7, none⟩ = some (.int .i64 pref) := hcell 7 (by omega)
      have d8 : wo.cell? ⟨b, off + i * 9 + 8, none⟩ = some (.int .i64 cnode) := hcell 8 (by omega)
      have zb := lt_of_cell d0
      simp only at zb
      clear hcell
      subst hba
      go_upto_region 5 with fail
      obtain ⟨cbA, hcb⟩ : ∃ y : Array Value, y = #[.int .i64 row, .int .i64 col, .int .i64 ch, .int .i64 cw, .slice ap np cp, .int .i64 pad, .int .i64 mn, .int .i64 pref, .int .i64 cnode] := ⟨_, rfl⟩
      obtain ⟨wc, hwc⟩ : ∃ wc, wc = wo.alloc (Obj.cells #[.int .i64 row, .int .i64 col, .int .i64 ch, .int .i64 cw, .slice ap np cp, .int .i64 pad, .int .i64 mn, .int .i64 pref, .int .i64 cnode] 44) := ⟨_, rfl⟩
      have HB3 := Lib.hid (show Below wo.heap.size wo wc from by rw [hwc]; exact (Below.refl _ _).alloc (Nat.le_refl _) _)
      have HK3 := Lib.hid (show Blk wc wo.heap.size cbA 44 from by rw [hwc, hcb]; exact Blk.new _ _ _)
      have HCB := Lib.hid (show cbA[4]? = some (.slice ap np cp) by rw [hcb]; rfl)
      have HCBE := Lib.hid hcb
      rw [← hwc]
      clear d0 d1 d2 d3 d4 d5 d6 d7 d8 zb hwc hcb
      by_cases h12 : i < 12
      · have h12' : (i : Int) < 12 := by omega
        have c4 : wc.cell? ⟨wo.heap.size, 4, none⟩ = some (.slice ap np cp) := HK3.out.cell HCB.out
        have hnp := (HCP.out.2 i (by rw [HTR.out.2.1]; exact hin)).1
        rw [← HX.out] at hnp
        simp only at hnp
        have HPC := Lib.hid (show ∀ k, k < np → (par k).n ≤ (par k).c ∧ (par k).c ≤ maxLen from by
          have := (HCP.out.2 i (by rw [HTR.out.2.1]; exact hin)).2
          rw [← HX.out] at this
          exact this)
        have HCO := Lib.hid (show CellOk w0 ⟨row, col, ch, cw, np, ap, cp, par, pad, mn, pref, cnode⟩ from by
          rw [HX.out]
          exact HC.out.2 i (by rw [HTR.out.2.1]; exact hin))
        have hkc := HK3.out.lt
        go_wp2_with fail
        go_loopw [6, 22] (fun pv kv wx => ∃ (k m2 : Nat) (P : Nat → ParD), kv = .int .i64 k ∧ k ≤ np ∧ m2 ≤ 3 ∧ m2 ≤ k ∧ PrS 62 w0 wc pv m2 P wx) (fun _ kv _ => np - (intOf kv).toNat)
        case atStart => exact ⟨0, 0, fun _ => default, rfl, by omega, by omega, by omega, Below.refl _ _, RowV.nil _ _ _ _ _, fun k hk => by omega⟩
        case round =>
          clear c4
          obtain ⟨k, m2, P, rfl, hk, hm2, hmk, hP⟩ := hrel
          have HPS := Lib.hid hP
          have hszp := hP.below.size
          obtain ⟨pa, pc, hpv, _, _⟩ := RowV.slice hP.out
          subst hpv
          have HBW := Lib.hid (HB0.out.trans ((HS.out.below.trans ((HB3.out.trans (hP.below.mono HB3.out.size)).mono HS.out.below.size)).mono HB0.out.size))
          clear hP
          by_cases hkn : k < np
          · have hkn2 : (k : Int) < (np : Int) := by omega
            obtain ⟨b, off, hba, hcellG⟩ := (HCO.out.1.below (Nat.le_refl _) HBW.out) (by show 0 < np; omega)
            have hcell := hcellG k hkn
            have hcq := HPC.out k hkn
            have hpo := HCO.out.2 k hkn
            simp only at hcell hba hpo
            clear hcellG
            obtain ⟨x, hx⟩ : ∃ x, x = par k := ⟨_, rfl⟩
            rw [← hx] at hcell
            have HX := Lib.hid hx
            have HRG := Lib.hid (row_range hcell x.cells rfl (fun j hj => rfl))
            have zb := row_lt hcell
            obtain ⟨qn, qa, qc, qit, qsize, qbold, qfixed, qalign, qdir, qleft, qright, qfirst, qbefore, qafter, qline, qkeep, qnext, qwidow, qorphan, qahead⟩ := x
            clear hcell hx
            have HXP := HX
            rw [← HXP.out] at hcq hpo
            simp only at hcq
            have HPO := Lib.hid hpo
            unfold maxLen at hcq
            obtain ⟨hcq1, hcq2⟩ := hcq
            clear hpo
            subst hba
            go_upto_region 9 with fail
            refine wp_region_lit ?_
            refine cut_at 2 (fun R hR => ?_)
            have HRAa := Lib.hid hR
            clear hR
            simp only [List.take_succ_cons, List.take_zero, List.cons_append, List.nil_append]
            go_wp2_with fail
            rw [HRAa.out]
            simp only [List.drop_succ_cons, List.drop_zero]
            refine wpList_load_mid rfl 62 _ rfl b (off + k * 17) rfl _ _ HRG.out Try.underlying62 rfl (by kernel_rfl) ?_
            simp only [Act.put, List.setIfInBounds_toArray, List.set_cons_zero, List.set_cons_succ]
            refine cut_at 2 (fun R hR => ?_)
            have HRAb := Lib.hid hR
            clear hR
            simp only [List.take_succ_cons, List.take_zero, List.cons_append, List.nil_append]
            go_wp2_with fail
            rw [HRAb.out]
            simp only [List.drop_succ_cons, List.drop_zero]
            refine st_store_new rfl 62 _ _ rfl _ #[.slice qa qn qc, .int .i64 qsize, .bool qbold, .bool qfixed, .int .i64 qalign, .int .i64 qdir, .int .i64 qleft, .int .i64 qright, .int .i64 qfirst, .int .i64 qbefore, .int .i64 qafter, .int .i64 qline, .bool qkeep, .bool qnext, .int .i64 qwidow, .int .i64 qorphan, .int .i64 qahead] rfl rfl (by kernel_rfl) rfl (by kernel_rfl) ?_
            simp only [Act.put]
            go_upto_region 10 with fail
            obtain ⟨wp, hwp⟩ : ∃ wp, wp = wr.alloc (Obj.cells #[.slice qa qn qc, .int .i64 qsize, .bool qbold, .bool qfixed, .int .i64 qalign, .int .i64 qdir, .int .i64 qleft, .int .i64 qright, .int .i64 qfirst, .int .i64 qbefore, .int .i64 qafter, .int .i64 qline, .bool qkeep, .bool qnext, .int .i64 qwidow, .int .i64 qorphan, .int .i64 qahead] 62) := ⟨_, rfl⟩
            obtain ⟨kp, hkp⟩ : ∃ kp, kp = wr.heap.size := ⟨_, rfl⟩
            have HKP := Lib.hid (show Blk wp kp #[.slice qa qn qc, .int .i64 qsize, .bool qbold, .bool qfixed, .int .i64 qalign, .int .i64 qdir, .int .i64 qleft, .int .i64 qright, .int .i64 qfirst, .int .i64 qbefore, .int .i64 qafter, .int .i64 qline, .bool qkeep, .bool qnext, .int .i64 qwidow, .int .i64 qorphan, .int .i64 qahead] 62 from by rw [hwp, hkp]; exact Blk.new _ _ _)
            have HPP := Lib.hid (show PrS 62 w0 wc (.slice pa m2 pc) m2 P wp from by rw [hwp]; exact HPS.out.under ((Below.refl _ _).alloc (Nat.le_refl _) _))
            have HNB := Lib.hid (show (Value.slice pa m2 pc).ownBlock ≠ some kp from fun e => by have := HPS.out.out.lt e; omega)
            have hkcp : wc.heap.size ≤ kp := by omega
            rw [← hwp, ← hkp]
            clear hwp hkp zb
            by_cases hk3 : k < 3
            · have hk3' : (k : Int) < 3 := by omega
              have q0 : wp.cell? ⟨kp, 0, none⟩ = some (.slice qa qn qc) := HKP.out.cell (i := 0) rfl
              have f0 := HKP.out.frozen 0
              have zk := HKP.out.lt
              by_cases hq : 40 < qn
              · have hq' : (40 : Int) < (qn : Int) := by omega
                have h40 : (40 : Int) ≤ (qc : Int) := by omega
                have h40' : 40 ≤ qc := by omega
                go_upto_region 13 with fail
                obtain ⟨wq, hwq⟩ : ∃ wq, wq = wp.setCell ⟨kp, 0, none⟩ (.slice qa 40 qc) := ⟨_, rfl⟩
                have HKQ := Lib.hid (show Blk wq kp #[.slice qa 40 qc, .int .i64 qsize, .bool qbold, .bool qfixed, .int .i64 qalign, .int .i64 qdir, .int .i64 qleft, .int .i64 qright, .int .i64 qfirst, .int .i64 qbefore, .int .i64 qafter, .int .i64 qline, .bool qkeep, .bool qnext, .int .i64 qwidow, .int .i64 qorphan, .int .i64 qahead] 62 from by rw [hwq]; exact HKP.out.set 0 _)
                have HPQ := Lib.hid (show PrS 62 w0 wc (.slice pa m2 pc) m2 P wq from by rw [hwq]; exact ⟨HPP.out.below.setCell hkcp _, HPP.out.out.other HNB.out _, HPP.out.par⟩)
                have HPK := Lib.hid (show ParOk w0 ⟨40, qa, qc, qit, qsize, qbold, qfixed, qalign, qdir, qleft, qright, qfirst, qbefore, qafter, qline, qkeep, qnext, qwidow, qorphan, qahead⟩ from CellsF.take HPO.out (by show 40 ≤ qn; omega))
                have zkq := HKQ.out.lt
                rw [← hwq]
                clear hwq q0 f0 zk
                obtain ⟨xs, hown, hxl, hxs⟩ := RowV.own HPQ.out.out
                have HXS := Lib.hid hxs
                have HXL := Lib.hid hxl
                have HRN := Lib.hid (show wq.rangeAt kp 0 [.slice qa 40 qc, .int .i64 qsize, .bool qbold, .bool qfixed, .int .i64 qalign, .int .i64 qdir, .int .i64 qleft, .int .i64 qright, .int .i64 qfirst, .int .i64 qbefore, .int .i64 qafter, .int .i64 qline, .bool qkeep, .bool qnext, .int .i64 qwidow, .int .i64 qorphan, .int .i64 qahead] from fun j v hj => by rw [Nat.zero_add]; exact HKQ.out.cell (by simpa using hj))
                have hlw := HPQ.out.below.size
                clear hxl hxs
                refine wp_region_lit ?_
                refine cut_at 1 (fun R hR => ?_)
                have HRAza := Lib.hid hR
                clear hR
                simp only [List.take_succ_cons, List.take_zero, List.cons_append, List.nil_append]
                go_wp2_with fail
                rw [HRAza.out]
                simp only [List.drop_succ_cons, List.drop_zero]
                refine wpList_load_mid rfl 62 _ rfl kp 0 rfl _ _ HRN.out Try.underlying62 rfl (by kernel_rfl) ?_
                simp only [Act.put, List.setIfInBounds_toArray, List.set_cons_zero, List.set_cons_succ]
                obtain ⟨ii, hii, hz0, hz1, hz2⟩ := info_parts HIP.out
                go_wp2_with (at_builtin; go_loud (refine wpList_append_own _ rfl _ _ 42 rfl (wc.heap.size) 62 ii _ 17 136 Try.underlying42 hii hz0 hz1 hz2 rfl (by decide) _ _ _ rfl (RowL.alloc hown _) ⟨wq.heap.size, 0, none⟩ 1 1 [.slice qa 40 qc, .int .i64 qsize, .bool qbold, .bool qfixed, .int .i64 qalign, .int .i64 qdir, .int .i64 qleft, .int .i64 qright, .int .i64 qfirst, .int .i64 qbefore, .int .i64 qafter, .int .i64 qline, .bool qkeep, .bool qnext, .int .i64 qwidow, .int .i64 qorphan, .int .i64 qahead] rfl rfl ?k1a ?k2a ?k3a ?k4a ?k5a ?_))
                try (case k1a =>
                  intro j u hj
                  have e : Addr.add ⟨wq.heap.size, 0, none⟩ j = ⟨wq.heap.size, j, none⟩ := by simp [Addr.add]; omega
                  rw [e]
                  exact (Blk.new wq _ _).cell (by simpa using hj))
                try (case k2a => intro u hu; simp at hu; rcases hu with rfl | rfl | rfl | rfl | rfl | rfl | rfl | rfl | rfl | rfl | rfl | rfl | rfl | rfl | rfl | rfl | rfl <;> rfl)
                try (case k3a => unfold maxLen; (try simp); (try omega))
                try (case k4a => (try simp); (try omega))
                try (case k5a => (try simp); (try omega))
                intro v6 w6 hown6 hgrow _
                have HP6 := Lib.hid ((HPQ.out.under ((Below.refl wq.heap.size wq).alloc (Nat.le_refl _) _)).push (p := ⟨40, qa, qc, qit, qsize, qbold, qfixed, qalign, qdir, qleft, qright, qfirst, qbefore, qafter, qline, qkeep, qnext, qwidow, qorphan, qahead⟩) HPK.out hgrow HXS.out HXL.out hown6)
                clear hown hown6 hgrow hii hz0 hz1 hz2
                go_wp2_with fail
                go_roundw
                case rel => exact ⟨k + 1, m2 + 1, _, by go_num, by omega, by omega, by omega, HP6.out⟩
                case measure => simp [intOf]; omega
              · have hq' : ¬ (40 : Int) < (qn : Int) := by omega
                obtain ⟨wq, rfl⟩ : ∃ wq : World, wq = wp := ⟨_, rfl⟩
                have HKQ := HKP
                have HPQ := HPP
                have HPK := HPO
                go_upto_region 13 with fail
                clear q0 f0
                obtain ⟨xs, hown, hxl, hxs⟩ := RowV.own HPQ.out.out
                have HXS := Lib.hid hxs
                have HXL := Lib.hid hxl
                have HRN := Lib.hid (show wq.rangeAt kp 0 [.slice qa qn qc, .int .i64 qsize, .bool qbold, .bool qfixed, .int .i64 qalign, .int .i64 qdir, .int .i64 qleft, .int .i64 qright, .int .i64 qfirst, .int .i64 qbefore, .int .i64 qafter, .int .i64 qline, .bool qkeep, .bool qnext, .int .i64 qwidow, .int .i64 qorphan, .int .i64 qahead] from fun j v hj => by rw [Nat.zero_add]; exact HKQ.out.cell (by simpa using hj))
                have hlw := HPQ.out.below.size
                clear hxl hxs
                refine wp_region_lit ?_
                refine cut_at 1 (fun R hR => ?_)
                have HRAzb := Lib.hid hR
                clear hR
                simp only [List.take_succ_cons, List.take_zero, List.cons_append, List.nil_append]
                go_wp2_with fail
                rw [HRAzb.out]
                simp only [List.drop_succ_cons, List.drop_zero]
                refine wpList_load_mid rfl 62 _ rfl kp 0 rfl _ _ HRN.out Try.underlying62 rfl (by kernel_rfl) ?_
                simp only [Act.put, List.setIfInBounds_toArray, List.set_cons_zero, List.set_cons_succ]
                obtain ⟨ii, hii, hz0, hz1, hz2⟩ := info_parts HIP.out
                go_wp2_with (at_builtin; go_loud (refine wpList_append_own _ rfl _ _ 42 rfl (wc.heap.size) 62 ii _ 17 136 Try.underlying42 hii hz0 hz1 hz2 rfl (by decide) _ _ _ rfl (RowL.alloc hown _) ⟨wq.heap.size, 0, none⟩ 1 1 [.slice qa qn qc, .int .i64 qsize, .bool qbold, .bool qfixed, .int .i64 qalign, .int .i64 qdir, .int .i64 qleft, .int .i64 qright, .int .i64 qfirst, .int .i64 qbefore, .int .i64 qafter, .int .i64 qline, .bool qkeep, .bool qnext, .int .i64 qwidow, .int .i64 qorphan, .int .i64 qahead] rfl rfl ?k1b ?k2b ?k3b ?k4b ?k5b ?_))
                try (case k1b =>
                  intro j u hj
                  have e : Addr.add ⟨wq.heap.size, 0, none⟩ j = ⟨wq.heap.size, j, none⟩ := by simp [Addr.add]; omega
                  rw [e]
                  exact (Blk.new wq _ _).cell (by simpa using hj))
                try (case k2b => intro u hu; simp at hu; rcases hu with rfl | rfl | rfl | rfl | rfl | rfl | rfl | rfl | rfl | rfl | rfl | rfl | rfl | rfl | rfl | rfl | rfl <;> rfl)
                try (case k3b => unfold maxLen; (try simp); (try omega))
                try (case k4b => (try simp); (try omega))
                try (case k5b => (try simp); (try omega))
                intro v6 w6 hown6 hgrow _
                have HP6 := Lib.hid ((HPQ.out.under ((Below.refl wq.heap.size wq).alloc (Nat.le_refl _) _)).push (p := ⟨qn, qa, qc, qit, qsize, qbold, qfixed, qalign, qdir, qleft, qright, qfirst, qbefore, qafter, qline, qkeep, qnext, qwidow, qorphan, qahead⟩) HPK.out hgrow HXS.out HXL.out hown6)
                clear hown hown6 hgrow hii hz0 hz1 hz2
                go_wp2_with fail
                go_roundw
                case rel => exact ⟨k + 1, m2 + 1, _, by go_num, by omega, by omega, by omega, HP6.out⟩
                case measure => simp [intOf]; omega
            · have hk3' : ¬ (k : Int) < 3 := by omega
              go_wp2_with fail
              go_roundw
              case rel => exact ⟨k + 1, m2, P, by go_num, by omega, by omega, by omega, HPP.out⟩
              case measure => simp [intOf]; omega
          · obtain rfl : np = k := by omega
            have hnn : ¬ (np : Int) < (np : Int) := by omega
            have HKR := Lib.hid (HK3.out.below HPS.out.below HK3.out.lt)
            have f4 := HKR.out.frozen 4
            have c4 := HKR.out.cell HCB.out
            have zk := HKR.out.lt
            go_upto_region 16 with fail
            obtain ⟨wz, hwz⟩ : ∃ wz, wz = wr.setCell ⟨wo.heap.size, 4, none⟩ (.slice pa m2 pc) := ⟨_, rfl⟩
            have HKZ := Lib.hid (show Blk wz wo.heap.size #[.int .i64 row, .int .i64 col, .int .i64 ch, .int .i64 cw, .slice pa m2 pc, .int .i64 pad, .int .i64 mn, .int .i64 pref, .int .i64 cnode] 44 from by
              rw [hwz]
              have := HKR.out.set 4 (.slice pa m2 pc)
              rw [HCBE.out] at this
              exact this)
            have HSZ := Lib.hid (show CtS 41 44 62 w0 w tbA rbA (.slice oa m oc) m L wz from by
              rw [hwz]
              exact HS.out.under ((HB3.out.trans (HPS.out.below.mono HB3.out.size)).setCell (Nat.le_refl _) _))
            have HGZ := Lib.hid (show CellG 62 (w.heap.size + 2) w0 wz ⟨row, col, ch, cw, m2, pa, pc, P, pad, mn, pref, cnode⟩ from by
              refine ⟨?_, HPS.out.par⟩
              rw [hwz]
              exact RowV.other (HPS.out.out.mono (by have := HB3.out.size; omega)) (fun e => by have := RowV.ge HPS.out.out _ e; simp at this; omega) _)
            have HKC2 := Lib.hid (show wo.heap.size < wz.heap.size from HKZ.out.lt)
            rw [← hwz]
            clear hwz f4 c4 zk
            obtain ⟨xs, hown, hxl, hxs⟩ := RowV.own HSZ.out.out
            have HXS := Lib.hid hxs
            have HXL := Lib.hid hxl
            have HRN := Lib.hid (show wz.rangeAt wo.heap.size 0 [.int .i64 row, .int .i64 col, .int .i64 ch, .int .i64 cw, .slice pa m2 pc, .int .i64 pad, .int .i64 mn, .int .i64 pref, .int .i64 cnode] from fun j v hj => by rw [Nat.zero_add]; exact HKZ.out.cell (by simpa using hj))
            have hszz := HSZ.out.size
            clear hxl hxs
            refine wp_region_lit ?_
            refine cut_at 1 (fun R hR => ?_)
            have HRAzc := Lib.hid hR
            clear hR
            simp only [List.take_succ_cons, List.take_zero, List.cons_append, List.nil_append]
            go_wp2_with fail
            rw [HRAzc.out]
            simp only [List.drop_succ_cons, List.drop_zero]
            refine wpList_load_mid rfl 44 _ rfl wo.heap.size 0 rfl _ _ HRN.out Try.underlying44 rfl (by kernel_rfl) ?_
            simp only [Act.put, List.setIfInBounds_toArray, List.set_cons_zero, List.set_cons_succ]
            obtain ⟨ii, hii, hz0, hz1, hz2⟩ := info_parts HIC.out
            go_wp2_with (at_builtin; go_loud (refine wpList_append_own _ rfl _ _ 39 rfl (w.heap.size + 2) 44 ii _ 9 88 Try.underlying39 hii hz0 hz1 hz2 rfl (by decide) _ _ _ rfl (RowL.alloc hown _) ⟨wz.heap.size, 0, none⟩ 1 1 [.int .i64 row, .int .i64 col, .int .i64 ch, .int .i64 cw, .slice pa m2 pc, .int .i64 pad, .int .i64 mn, .int .i64 pref, .int .i64 cnode] rfl rfl ?j1 ?j2 ?j3 ?j4 ?j5 ?_))
            try (case j1 =>
              intro j u hj
              have e : Addr.add ⟨wz.heap.size, 0, none⟩ j = ⟨wz.heap.size, j, none⟩ := by simp [Addr.add]; omega
              rw [e]
              exact (Blk.new wz _ _).cell (by simpa using hj))
            try (case j2 => intro u hu; simp at hu; rcases hu with rfl | rfl | rfl | rfl | rfl | rfl | rfl | rfl | rfl <;> rfl)
            try (case j3 => unfold maxLen; (try simp); (try omega))
            try (case j4 => (try simp); (try omega))
            try (case j5 => (try simp); (try omega))
            intro v6 w6 hown6 hgrow _
            have HS6 := Lib.hid (HSZ.out.push HGZ.out hgrow HXS.out HXL.out hown6)
            clear hown hown6 hgrow hii hz0 hz1 hz2
            go_wp2_with fail
            go_roundw
            case rel => exact ⟨i + 1, m + 1, _, by go_num, by omega, by omega, by omega, HS6.out⟩
            case measure => simp [intOf]; omega
      · have h12' : ¬ (i : Int) < 12 := by omega
        go_wp2_with fail
        go_roundw
        case rel => exact ⟨i + 1, m, L, by go_num, by omega, by omega, by omega, HS.out.under HB3.out⟩
        case measure => simp [intOf]; omega
    · obtain rfl : i = tn := by omega
      have hnn : ¬ (i : Int) < (i : Int) := by omega
      have f2 := HS.out.tab.frozen
      have zt := HS.out.tab.lt
      have hx := HS.out.tab
      rw [HTBE.out] at hx
      have b2 : wo.cell? ⟨w.heap.size, 2, none⟩ = some (.slice ta i tc) := hx.cell (i := 2) rfl
      go_upto_region 19 with fail
      obtain ⟨wz, hwz⟩ : ∃ wz, wz = wo.setCell ⟨w.heap.size, 2, none⟩ (.slice oa m oc) := ⟨_, rfl⟩
      have hz := hx.set 2 (.slice oa m oc)
      rw [← hwz] at hz
      have hr := HS.out.res.other (a := ⟨w.heap.size, 2, none⟩) (by simp) (.slice oa m oc)
      rw [← hwz, HRBE.out] at hr
      have HZ := Lib.hid (show Blk wz w.heap.size #[.int .i64 rows, .int .i64 cols, .slice oa m oc, .int .i64 width, .int .i64 head, .int .i64 align, .int .i64 tnode] 41 from hz)
      have HR := Lib.hid hr
      have HOZ := Lib.hid (show RowV wz (w.heap.size + 2) 44 9 (.slice oa m oc) m (fun i => (L i).V) ∧ (∀ q, q < m → CellG 62 (w.heap.size + 2) w0 wz (L q)) ∧ Below w.heap.size w wz from by
        rw [hwz]
        refine ⟨HS.out.out.other (fun e => by have := RowV.ge HS.out.out _ e; simp at this; omega) _, fun q hq => (HS.out.cells q hq).block fun k hk => Below.heap_setCell _ _ _ _ (fun e => ?_), HS.out.below.setCell (Nat.le_refl _) _⟩
        have := RowV.ge (HS.out.cells q hq).row _ hk
        simp at e
        omega)
      rw [← hwz]
      clear hwz hz hr hx f2 zt b2
      have z0 : wz.cell? ⟨w.heap.size, 0, none⟩ = some (.int .i64 rows) := HZ.out.cell (i := 0) rfl
      have z1 : wz.cell? ⟨w.heap.size, 1, none⟩ = some (.int .i64 cols) := HZ.out.cell (i := 1) rfl
      have z2 : wz.cell? ⟨w.heap.size, 2, none⟩ = some (.slice oa m oc) := HZ.out.cell (i := 2) rfl
      have z3 : wz.cell? ⟨w.heap.size, 3, none⟩ = some (.int .i64 width) := HZ.out.cell (i := 3) rfl
      have z4 : wz.cell? ⟨w.heap.size, 4, none⟩ = some (.int .i64 head) := HZ.out.cell (i := 4) rfl
      have z5 : wz.cell? ⟨w.heap.size, 5, none⟩ = some (.int .i64 align) := HZ.out.cell (i := 5) rfl
      have z6 : wz.cell? ⟨w.heap.size, 6, none⟩ = some (.int .i64 tnode) := HZ.out.cell (i := 6) rfl
      have r0 : wz.cell? ⟨w.heap.size + 1, 0, none⟩ = some (.int .i64 0) := HR.out.cell (i := 0) rfl
      have r1 : wz.cell? ⟨w.heap.size + 1, 1, none⟩ = some (.int .i64 0) := HR.out.cell (i := 1) rfl
      have r2 : wz.cell? ⟨w.heap.size + 1, 2, none⟩ = some (.slice none 0 0) := HR.out.cell (i := 2) rfl
      have r3 : wz.cell? ⟨w.heap.size + 1, 3, none⟩ = some (.int .i64 0) := HR.out.cell (i := 3) rfl
      have r4 : wz.cell? ⟨w.heap.size + 1, 4, none⟩ = some (.int .i64 0) := HR.out.cell (i := 4) rfl
      have r5 : wz.cell? ⟨w.heap.size + 1, 5, none⟩ = some (.int .i64 0) := HR.out.cell (i := 5) rfl
      have r6 : wz.cell? ⟨w.heap.size + 1, 6, none⟩ = some (.int .i64 0) := HR.out.cell (i := 6) rfl
      have fr := HR.out.frozen
      have zz := HZ.out.lt
      have zr := HR.out.lt
      go_wp2_with fail
      have hfin := (((((((HR.out.set 0 (.int .i64 rows)).set 1 (.int .i64 cols)).set 2 (.slice oa m oc)).set 3 (.int .i64 width)).set 4 (.int .i64 head)).set 5 (.int .i64 align)).set 6 (.int .i64 tnode))
      simp only [List.setIfInBounds_toArray, List.set_cons_zero, List.set_cons_succ] at hfin
      (try simp only [Exit.inBlock, Exit.then])
      refine bodyPost_ret (v := .agg #[.int .i64 rows, .int .i64 cols, .slice oa m oc, .int .i64 width, .int .i64 head, .int .i64 align, .int .i64 tnode]) ?rc rfl ?_
      case rc => exact results_cell_row rfl _ _ ((w.heap.size + 1)) 41 _ (0, 0) _ rfl hfin Try.underlying41 rfl (by kernel_rfl)
      have ho := ((((((((Aside.refl _ _ _ : Only (w.heap.size + 1) wz wz).setR 0 (.int .i64 rows)).setR 1 (.int .i64 cols)).setR 2 (.slice oa m oc)).setR 3 (.int .i64 width)).setR 4 (.int .i64 head)).setR 5 (.int .i64 align)).setR 6 (.int .i64 tnode))
      have hblk : ∀ k, k < wz.heap.size → w.heap.size + 2 ≤ k → _ := fun k hk h2 => Aside.block ho k hk (by omega) (by simp [Value.ownBlock])
      have hof : RowV _ (w.heap.size + 2) 44 9 (.slice oa m oc) m (fun i => (L i).V) := HOZ.out.1.block fun k hk => hblk k (HOZ.out.1.lt hk) (HOZ.out.1.ge k hk)
      have hbf := HOZ.out.2.2.trans (Only.to_below ho (B := w.heap.size) (by omega) (by omega))
      have hzf := ho.size
      obtain ⟨_, _, hv2, hmc, hcm⟩ := RowV.slice hof
      cases hv2
      refine ⟨⟨rows, cols, m, oa, oc, L, width, head, align, tnode⟩, rfl, fun wx hx hb => ⟨?_, fun q hq => ?_⟩, hm, ⟨hmc, hcm⟩, hbf⟩
      · have hox : RowV wx (w.heap.size + 2) 44 9 (.slice oa m oc) m (fun i => (L i).V) := hof.block fun k hk => hx k (by have := hof.ge k hk; omega) (hof.lt hk)
        obtain ⟨a', c', hv', hcells⟩ := RowV.cells hox
        cases hv'
        exact hcells
      · have hg := HOZ.out.2.1 q hq
        have hg2 : RowV wx (w.heap.size + 2) 62 17 (.slice (L q).ap (L q).np (L q).cp) (L q).np (fun k => ((L q).par k).V) := hg.row.block fun k hk => (hx k (by have := hg.row.ge k hk; omega) (by have := hg.row.lt hk; omega)).trans (hblk k (hg.row.lt hk) (hg.row.ge k hk))
        obtain ⟨a2, c2, hv3, hcells2⟩ := RowV.cells hg2
        cases hv3
        exact ⟨hcells2, fun k hk => (hg.par k hk).below (Nat.le_refl _) hb⟩
end Go.Proofs.Ytabnohphgegflaa.TB
