

/-
  The reference checks a table.
-/
import Derived.Test.YtabnohphgegflaaTbFreeP
import Derived.Test.YtabnohphgegflaaTbParR
import Derived.Deep.CutRange
import Derived.BigQuiet
import Derived.BigCall
import Derived.BigGuard
namespace Go.Proofs.Ytabnohphgegflaa.TB
open Go.RowKit Go.Law Go.Law.Tb Ref
set_option linter.unusedVariables false
set_option linter.unusedSimpArgs false
theorem cntP_up {c : CellD} {K : Nat} : ∀ k : Nat, (∀ q, q < k → (c.par q).n ≤ K) → cntP c k ≤ (k : Int) * (K : Int)
  | 0, _ => by simp [cntP]
  | k + 1, h => by
    have := cntP_up k (fun q hq => h q (by omega))
    have h2 := h k (by omega)
    have h3 : ((k + 1 : Nat) : Int) * (K : Int) = (k : Int) * (K : Int) + K := by rw [Int.natCast_add, Int.add_mul]; omega
    unfold cntP
    omega
theorem ret_then {F : Act → World → Prop} {Q : Exit → Act → World → Prop} {a : Act} {w : World} (h : Q .ret a w) : Exit.then F Q .ret a w := h
theorem ret_block {id : Nat} {Q : Exit → Act → World → Prop} {a : Act} {w : World} (h : Q .ret a w) : Exit.inBlock id Q .ret a w := h
set_option maxRecDepth 100000
set_option maxHeartbeats 8000000 in
theorem tableError_any (t : TabD) (w : World) (hc : TabOk w t) (hcap : t.n ≤ t.c ∧ t.c ≤ maxLen) : Calls Try.prog 17 #[.agg t.cells.toArray] w fun e w' => e = .returned (.int .i64 (tabE t)) ∧ Below w.heap.size w w' := by
  have HCAP := Lib.hid hcap
  clear hcap
  obtain ⟨T, hT⟩ : ∃ T, T = t := ⟨_, rfl⟩
  have HTT := Lib.hid hT
  obtain ⟨V, hV⟩ : ∃ V, V = tabE t := ⟨_, rfl⟩
  rw [← hV]
  rw [← hT] at hc hV
  have HV := Lib.hid hV
  have HC := Lib.hid hc
  clear hc hT hV
  obtain ⟨rows, cols, tn, ta, tc, tcell, width, head, align, tnode⟩ := t
  unfold TabD.cells
  have HTR := Lib.hid (show (T.rows = rows ∧ T.cols = cols ∧ T.head = head) ∧ T.n = tn ∧ T.cell = tcell by rw [HTT.out]; exact ⟨⟨rfl, rfl, rfl⟩, rfl, rfl⟩)
  have HBX := Lib.hid (show Below w.heap.size w (w.alloc (.cells #[.int .i64 rows, .int .i64 cols, .slice ta tn tc, .int .i64 width, .int .i64 head, .int .i64 align, .int .i64 tnode] 41)) from (Below.refl _ _).alloc (Nat.le_refl _) _)
  have HVH := Lib.hid (show headBad T → V = 2 from fun h => by rw [HV.out]; unfold tabE; rw [if_pos h])
  have HHB := Lib.hid (show headBad T ↔ ((rows < 1 ∨ 500 < rows) ∨ (cols < 1 ∨ 64 < cols) ∨ (width < 0 ∨ 31680 < width) ∨ (head < 0 ∨ rows < head) ∨ (align < 0 ∨ 2 < align) ∨ (tnode < 0 ∨ 1073741824 < tnode)) by rw [HTT.out]; exact Iff.rfl)
  go_enter Try.func17, Try.ntmps17
  go_upto_region 1 with fail
  go_wp2_with fail
  refine (in_any _ _ _ _).mono ?_
  rintro e w6 ⟨rfl, rfl⟩
  have Oa : inB rows (1) (500) = true ∨ inB rows (1) (500) = false := by cases inB rows (1) (500) <;> simp
  rcases Oa with oa | oa
  case' inr =>
    have HE := Lib.hid (show V = 2 by exact HVH.out (HHB.out.2 (by have := inB_false.1 oa; omega)))
    rw [oa]
    simp only []
    go_step
    refine skip_go (by kernel_rfl) ?_
    simp only [Exit.then]
    go_step
    refine cond_err (by kernel_rfl) ?_
    simp only [Exit.then]
    (repeat (with_reducible first | refine ret_then ?_ | refine ret_block ?_))
    (try go_big_unhide)
    refine bodyPost_ret (results_tmp rfl _ _ _) (by kernel_rfl) ?_
    exact ⟨by rw [HE.out]; kernel_rfl, HBX.out⟩
  rw [oa]
  obtain ⟨p1a, p2a⟩ := inB_true.1 oa
  clear oa
  go_wp2_with fail
  refine (in_any _ _ _ _).mono ?_
  rintro e w6 ⟨rfl, rfl⟩
  have Ob : inB cols (1) (64) = true ∨ inB cols (1) (64) = false := by cases inB cols (1) (64) <;> simp
  rcases Ob with ob | ob
  case' inr =>
    have HE := Lib.hid (show V = 2 by exact HVH.out (HHB.out.2 (by have := inB_false.1 ob; omega)))
    rw [ob]
    simp only []
    go_step
    refine skip_go (by kernel_rfl) ?_
    simp only [Exit.then]
    go_step
    refine cond_err (by kernel_rfl) ?_
    simp only [Exit.then]
    (repeat (with_reducible first | refine ret_then ?_ | refine ret_block ?_))
    (try go_big_unhide)
    refine bodyPost_ret (results_tmp rfl _ _ _) (by kernel_rfl) ?_
    exact ⟨by rw [HE.out]; kernel_rfl, HBX.out⟩
  rw [ob]
  obtain ⟨p1b, p2b⟩ := inB_true.1 ob
  clear ob
  go_wp2_with fail
  refine (in_any _ _ _ _).mono ?_
  rintro e w6 ⟨rfl, rfl⟩
  have Oc : inB width (0) (31680) = true ∨ inB width (0) (31680) = false := by cases inB width (0) (31680) <;> simp
  rcases Oc with oc | oc
  case' inr =>
    have HE := Lib.hid (show V = 2 by exact HVH.out (HHB.out.2 (by have := inB_false.1 oc; omega)))
    rw [oc]
    simp only []
    go_step
    refine skip_go (by kernel_rfl) ?_
    simp only [Exit.then]
    go_step
    refine cond_err (by kernel_rfl) ?_
    simp only [Exit.then]
    (repeat (with_reducible first | refine ret_then ?_ | refine ret_block ?_))
    (try go_big_unhide)
    refine bodyPost_ret (results_tmp rfl _ _ _) (by kernel_rfl) ?_
    exact ⟨by rw [HE.out]; kernel_rfl, HBX.out⟩
  rw [oc]
  obtain ⟨p1c, p2c⟩ := inB_true.1 oc
  clear oc
  go_wp2_with fail
  refine (in_any _ _ _ _).mono ?_
  rintro e w6 ⟨rfl, rfl⟩
  have Od : inB head (0) (rows) = true ∨ inB head (0) (rows) = false := by cases inB head (0) (rows) <;> simp
  rcases Od with od | od
  case' inr =>
    have HE := Lib.hid (show V = 2 by exact HVH.out (HHB.out.2 (by have := inB_false.1 od; omega)))
    rw [od]
    simp only []
    go_step
    refine skip_go (by kernel_rfl) ?_
    simp only [Exit.then]
    go_step
    refine cond_err (by kernel_rfl) ?_
    simp only [Exit.then]
    (repeat (with_reducible first | refine ret_then ?_ | refine ret_block ?_))
    (try go_big_unhide)
    refine bodyPost_ret (results_tmp rfl _ _ _) (by kernel_rfl) ?_
    exact ⟨by rw [HE.out]; kernel_rfl, HBX.out⟩
  rw [od]
  obtain ⟨p1d, p2d⟩ := inB_true.1 od
  clear od
  go_wp2_with fail
  refine (in_any _ _ _ _).mono ?_
  rintro e w6 ⟨rfl, rfl⟩
  have Oe : inB align (0) (2) = true ∨ inB align (0) (2) = false := by cases inB align (0) (2) <;> simp
  rcases Oe with oe | oe
  case' inr =>
    have HE := Lib.hid (show V = 2 by exact HVH.out (HHB.out.2 (by have := inB_false.1 oe; omega)))
    rw [oe]
    simp only []
    go_step
    refine skip_go (by kernel_rfl) ?_
    simp only [Exit.then]
    go_step
    refine cond_err (by kernel_rfl) ?_
    simp only [Exit.then]
    (repeat (with_reducible first | refine ret_then ?_ | refine ret_block ?_))
    (try go_big_unhide)
    refine bodyPost_ret (results_tmp rfl _ _ _) (by kernel_rfl) ?_
    exact ⟨by rw [HE.out]; kernel_rfl, HBX.out⟩
  rw [oe]
  obtain ⟨p1e, p2e⟩ := inB_true.1 oe
  clear oe
  go_wp2_with fail
  have HN4 := Lib.hid (show 4000 < tn → ¬ headBad T → V = 3 from fun h1 h2 => by rw [HV.out]; unfold tabE; rw [if_neg h2, if_pos (by rw [HTR.out.2.1]; exact h1)])
  have HFE := Lib.hid (show ¬ 4000 < tn → ¬ headBad T → V = fstE tn (tcE T) 0 from fun h1 h2 => by rw [HV.out]; unfold tabE; rw [if_neg h2, if_neg (by rw [HTR.out.2.1]; exact h1), HTR.out.2.1])
  by_cases hn : 4000 < tn
  · have e1 : (4000 : Int) < (tn : Int) := by omega
    refine (in_any _ _ _ _).mono ?_
    rintro e w6 ⟨rfl, rfl⟩
    have Of : inB tnode (0) (1073741824) = true ∨ inB tnode (0) (1073741824) = false := by cases inB tnode (0) (1073741824) <;> simp
    rcases Of with of | of
    case' inr =>
      have HE := Lib.hid (show V = 2 by exact HVH.out (HHB.out.2 (by have := inB_false.1 of; omega)))
      rw [of]
      simp only []
      go_step
      refine skip_go (by kernel_rfl) ?_
      simp only [Exit.then]
      go_step
      refine cond_err (by kernel_rfl) ?_
      simp only [Exit.then]
      (repeat (with_reducible first | refine ret_then ?_ | refine ret_block ?_))
      (try go_big_unhide)
      refine bodyPost_ret (results_tmp rfl _ _ _) (by kernel_rfl) ?_
      exact ⟨by rw [HE.out]; kernel_rfl, HBX.out⟩
    rw [of]
    obtain ⟨p1f, p2f⟩ := inB_true.1 of
    clear of
    go_wp2_with fail
    have HE := Lib.hid (show V = 3 from HN4.out hn (fun h => by have := HHB.out.1 h; omega))
    go_ret
    exact ⟨by rw [HE.out]; rfl, HBX.out⟩
  have e1 : ¬ (4000 : Int) < (tn : Int) := by omega
  have hn4 : tn ≤ 4000 := by omega
  refine (in_any _ _ _ _).mono ?_
  rintro e w6 ⟨rfl, rfl⟩
  have Og : inB tnode (0) (1073741824) = true ∨ inB tnode (0) (1073741824) = false := by cases inB tnode (0) (1073741824) <;> simp
  rcases Og with og | og
  case' inr =>
    have HE := Lib.hid (show V = 2 by exact HVH.out (HHB.out.2 (by have := inB_false.1 og; omega)))
    rw [og]
    simp only []
    go_step
    refine skip_go (by kernel_rfl) ?_
    simp only [Exit.then]
    go_step
    refine cond_err (by kernel_rfl) ?_
    simp only [Exit.then]
    (repeat (with_reducible first | refine ret_then ?_ | refine ret_block ?_))
    (try go_big_unhide)
    refine bodyPost_ret (results_tmp rfl _ _ _) (by kernel_rfl) ?_
    exact ⟨by rw [HE.out]; kernel_rfl, HBX.out⟩
  rw [og]
  obtain ⟨p1g, p2g⟩ := inB_true.1 og
  clear og
  go_wp2_with fail
  have HNB := Lib.hid (show ¬ headBad T from fun h => by have := HHB.out.1 h; omega)
  have HF := Lib.hid (show V = fstE tn (tcE T) 0 from HFE.out hn HNB.out)
  have HRC := Lib.hid (show (1 ≤ rows ∧ rows ≤ 500) ∧ (1 ≤ cols ∧ cols ≤ 64) from ⟨⟨p1a, p2a⟩, p1b, p2b⟩)
  obtain ⟨tbA, htb⟩ : ∃ y : Array Value, y = #[.int .i64 rows, .int .i64 cols, .slice ta tn tc, .int .i64 width, .int .i64 head, .int .i64 align, .int .i64 tnode] := ⟨_, rfl⟩
  obtain ⟨w2, hw2⟩ : ∃ w2, w2 = w.alloc (.cells #[.int .i64 rows, .int .i64 cols, .slice ta tn tc, .int .i64 width, .int .i64 head, .int .i64 align, .int .i64 tnode] 41) := ⟨_, rfl⟩
  have HB2 := Lib.hid (show Below w.heap.size w w2 by rw [hw2]; exact HBX.out)
  have HT2 := Lib.hid (show Blk w2 w.heap.size tbA 41 by rw [hw2, htb]; exact Blk.new w _ _)
  have HTB := Lib.hid (show (tbA[0]? = some (.int .i64 rows) ∧ tbA[1]? = some (.int .i64 cols)) ∧ tbA[2]? = some (.slice ta tn tc) by rw [htb]; exact ⟨⟨rfl, rfl⟩, rfl⟩)
  rw [← hw2]
  clear htb hw2 HBX HVH HHB HN4 HFE HNB p1c p2c p1d p2d p1e p2e p1g p2g hn e1
  go_loopw [3, 54] (fun zv iv wx => ∃ i : Nat, zv = .int .i64 (cntC T i) ∧ iv = .int .i64 i ∧ i ≤ tn ∧ (∀ j, j < i → tcE T j = 0) ∧ Below w.heap.size w wx ∧ Blk wx w.heap.size tbA 41) (fun _ iv _ => tn - (intOf iv).toNat)
  case atStart => exact ⟨0, rfl, rfl, by omega, fun j hj => by omega, HB2.out, HT2.out⟩
  case round =>
    clear HB2 HT2
    obtain ⟨i, rfl, rfl, hi, hno, hbel, htab⟩ := hrel
    have HNO := Lib.hid hno
    have HB := Lib.hid hbel
    have HT := Lib.hid htab
    have zt := htab.lt
    clear hno hbel htab
    obtain ⟨wo, rfl⟩ : ∃ wo : World, wo = wr := ⟨_, rfl⟩
    by_cases hin : i < tn
    · have hin2 : (i : Int) < (tn : Int) := by omega
      have hcs := HC.out.1.below (Nat.le_refl _) HB.out
      rw [HTT.out] at hcs
      obtain ⟨b, off, hba, hcellG⟩ := hcs (by show 0 < tn; omega)
      have hcell := hcellG i hin
      obtain ⟨x, hx⟩ : ∃ x, x = T.cell i := ⟨_, rfl⟩
      have HX := Lib.hid hx
      simp only at hcell hba
      rw [show tcell i = x by rw [hx, HTT.out]] at hcell
      clear hcellG hcs hx
      obtain ⟨row, col, ch, cw, np, ap, cp, par, pad, mn, pref, cnode⟩ := x
      have d0 : wo.cell? ⟨b, off + i * 9, none⟩ = some (.int .i64 row) := hcell 0 (by omega)
      have d1 : wo.cell? ⟨b, off + i * 9 + 1, none⟩ = some (.int .i64 col) := hcell 1 (by omega)
      have d2 : wo.cell? ⟨b, off + i * 9 + 2, none⟩ = some (.int .i64 ch) := hcell 2 (by omega)
      have d3 : wo.cell? ⟨b, off + i * 9 + 3, none⟩ = some (.int .i64 cw) := hcell 3 (by omega)
      have d4 : wo.cell? ⟨b, off + i * 9 + 4, none⟩ = some (.slice ap np cp) := hcell 4 (by omega)
      have d5 : wo.cell? ⟨b, off + i * 9 + 5, none⟩ = some (.int .i64 pad) := hcell 5 (by omega)
      have d6 : wo.cell? ⟨b, off + i * 9 + 6, none⟩ = some (.int .i64 mn) := hcell 6 (by omega)
      have d7 : wo.cell? ⟨b, off + i * 9 + 7, none⟩ = some (.int .i64 pref) := hcell 7 (by omega)
      have d8 : wo.cell? ⟨b, off + i * 9 + 8, none⟩ = some (.int .i64 cnode) := hcell 8 (by omega)
      have zb := lt_of_cell d0
      simp only at zb
      clear hcell
      subst hba
      go_upto_region 9 with fail
      obtain ⟨cbA, hcb⟩ : ∃ y : Array Value, y = #[.int .i64 row, .int .i64 col, .int .i64 ch, .int .i64 cw, .slice ap np cp, .int .i64 pad, .int .i64 mn, .int .i64 pref, .int .i64 cnode] := ⟨_, rfl⟩
      obtain ⟨wc, hwc⟩ : ∃ wc, wc = wo.alloc (Obj.cells #[.int .i64 row, .int .i64 col, .int .i64 ch, .int .i64 cw, .slice ap np cp, .int .i64 pad, .int .i64 mn, .int .i64 pref, .int .i64 cnode] 44) := ⟨_, rfl⟩
      have HB3 := Lib.hid (show Below w.heap.size w wc from by rw [hwc]; exact HB.out.alloc HB.out.size _)
      have HT3 := Lib.hid (show Blk wc w.heap.size tbA 41 from by rw [hwc]; exact HT.out.alloc _)
      have HK3 := Lib.hid (show Blk wc wo.heap.size cbA 44 from by rw [hwc, hcb]; exact Blk.new _ _ _)
      have HCB := Lib.hid (show ((cbA[0]? = some (.int .i64 row) ∧ cbA[1]? = some (.int .i64 col)) ∧ (cbA[2]? = some (.int .i64 ch) ∧ cbA[3]? = some (.int .i64 cw)) ∧ cbA[4]? = some (.slice ap np cp)) ∧ (cbA[5]? = some (.int .i64 pad) ∧ cbA[6]? = some (.int .i64 mn)) ∧ (cbA[7]? = some (.int .i64 pref) ∧ cbA[8]? = some (.int .i64 cnode)) by rw [hcb]; exact ⟨⟨⟨rfl, rfl⟩, ⟨rfl, rfl⟩, rfl⟩, ⟨rfl, rfl⟩, rfl, rfl⟩)
      rw [← hwc]
      obtain ⟨kc, hkc⟩ : ∃ kc, kc = wo.heap.size := ⟨_, rfl⟩
      have hzk : w.heap.size < kc := by omega
      rw [← hkc] at HK3 ⊢
      clear d0 d1 d2 d3 d4 d5 d6 d7 d8 zb hwc hcb hkc HB HT
      have t0 : wc.cell? ⟨w.heap.size, 0, none⟩ = some (.int .i64 rows) := HT3.out.cell HTB.out.1.1
      have t1 : wc.cell? ⟨w.heap.size, 1, none⟩ = some (.int .i64 cols) := HT3.out.cell HTB.out.1.2
      have c0 : wc.cell? ⟨kc, 0, none⟩ = some (.int .i64 row) := HK3.out.cell HCB.out.1.1.1
      have c1 : wc.cell? ⟨kc, 1, none⟩ = some (.int .i64 col) := HK3.out.cell HCB.out.1.1.2
      have c2 : wc.cell? ⟨kc, 2, none⟩ = some (.int .i64 ch) := HK3.out.cell HCB.out.1.2.1.1
      have c3 : wc.cell? ⟨kc, 3, none⟩ = some (.int .i64 cw) := HK3.out.cell HCB.out.1.2.1.2
      have c5 : wc.cell? ⟨kc, 5, none⟩ = some (.int .i64 pad) := HK3.out.cell HCB.out.2.1.1
      have c6 : wc.cell? ⟨kc, 6, none⟩ = some (.int .i64 mn) := HK3.out.cell HCB.out.2.1.2
      have c7 : wc.cell? ⟨kc, 7, none⟩ = some (.int .i64 pref) := HK3.out.cell HCB.out.2.2.1
      have c8 : wc.cell? ⟨kc, 8, none⟩ = some (.int .i64 cnode) := HK3.out.cell HCB.out.2.2.2
      have HCE := Lib.hid (show ∀ e : Int, cellE rows cols ⟨row, col, ch, cw, np, ap, cp, par, pad, mn, pref, cnode⟩ = e → e ≠ 0 → V = e from fun e h1 h2 => by
        have hq : cellE T.rows T.cols (T.cell i) = e := by rw [← HX.out, HTR.out.1.1, HTR.out.1.2.1]; exact h1
        have h3 : tcE T i = e := by unfold tcE; rw [if_pos (by rw [hq]; exact h2), hq]
        rw [HF.out, fstE_some hin HNO.out (by rw [h3]; exact h2), h3])
      have HBOX := Lib.hid (show ((row < 0 ∨ rows ≤ row) ∨ (col < 0 ∨ cols ≤ col) ∨ (ch < 1 ∨ rows - row < ch) ∨ (cw < 1 ∨ cols - col < cw)) → V = 2 from fun h => HCE.out 2 (by unfold cellE; exact if_pos h) (by decide))
      have HNUM := Lib.hid (show ((pad < 0 ∨ 1000 < pad) ∨ (mn < 0 ∨ 31680 < mn) ∨ (pref < 0 ∨ 31680 < pref) ∨ (cnode < 0 ∨ 1073741824 < cnode)) → V = 2 from fun h => HCE.out 2 (by
        unfold cellE
        by_cases hb : boxBad rows cols ⟨row, col, ch, cw, np, ap, cp, par, pad, mn, pref, cnode⟩
        · exact if_pos hb
        · rw [if_neg hb]; exact if_pos h) (by decide))
      go_wp2_with fail
      refine (in_any _ _ _ _).mono ?_
      rintro e w6 ⟨rfl, rfl⟩
      have Oh : inB row (0) (rows - 1) = true ∨ inB row (0) (rows - 1) = false := by cases inB row (0) (rows - 1) <;> simp
      rcases Oh with oh | oh
      case' inr =>
        have HE := Lib.hid (show V = 2 by exact HBOX.out (by have := inB_false.1 oh; omega))
        rw [oh]
        simp only []
        go_step
        refine skip_go (by kernel_rfl) ?_
        simp only [Exit.then]
        go_step
        refine cond_err (by kernel_rfl) ?_
        simp only [Exit.then]
        (repeat (with_reducible first | refine ret_then ?_ | refine ret_block ?_))
        (try go_big_unhide)
        refine bodyPost_ret (results_tmp rfl _ _ _) (by kernel_rfl) ?_
        exact ⟨by rw [HE.out]; kernel_rfl, HB3.out⟩
      rw [oh]
      obtain ⟨p1h, p2h⟩ := inB_true.1 oh
      clear oh
      go_wp2_with fail
      refine (in_any _ _ _ _).mono ?_
      rintro e w6 ⟨rfl, rfl⟩
      have Oi : inB col (0) (cols - 1) = true ∨ inB col (0) (cols - 1) = false := by cases inB col (0) (cols - 1) <;> simp
      rcases Oi with oi | oi
      case' inr =>
        have HE := Lib.hid (show V = 2 by exact HBOX.out (by have := inB_false.1 oi; omega))
        rw [oi]
        simp only []
        go_step
        refine skip_go (by kernel_rfl) ?_
        simp only [Exit.then]
        go_step
        refine cond_err (by kernel_rfl) ?_
        simp only [Exit.then]
        (repeat (with_reducible first | refine ret_then ?_ | refine ret_block ?_))
        (try go_big_unhide)
        refine bodyPost_ret (results_tmp rfl _ _ _) (by kernel_rfl) ?_
        exact ⟨by rw [HE.out]; kernel_rfl, HB3.out⟩
      rw [oi]
      obtain ⟨p1i, p2i⟩ := inB_true.1 oi
      clear oi
      go_wp2_with fail
      refine (in_any _ _ _ _).mono ?_
      rintro e w6 ⟨rfl, rfl⟩
      have Oj : inB ch (1) (rows - row) = true ∨ inB ch (1) (rows - row) = false := by cases inB ch (1) (rows - row) <;> simp
      rcases Oj with oj | oj
      case' inr =>
        have HE := Lib.hid (show V = 2 by exact HBOX.out (by have := inB_false.1 oj; omega))
        rw [oj]
        simp only []
        go_step
        refine skip_go (by kernel_rfl) ?_
        simp only [Exit.then]
        go_step
        refine cond_err (by kernel_rfl) ?_
        simp only [Exit.then]
        (repeat (with_reducible first | refine ret_then ?_ | refine ret_block ?_))
        (try go_big_unhide)
        refine bodyPost_ret (results_tmp rfl _ _ _) (by kernel_rfl) ?_
        exact ⟨by rw [HE.out]; kernel_rfl, HB3.out⟩
      rw [oj]
      obtain ⟨p1j, p2j⟩ := inB_true.1 oj
      clear oj
      go_wp2_with fail
      refine (in_any _ _ _ _).mono ?_
      rintro e w6 ⟨rfl, rfl⟩
      have Ok : inB cw (1) (cols - col) = true ∨ inB cw (1) (cols - col) = false := by cases inB cw (1) (cols - col) <;> simp
      rcases Ok with ok | ok
      case' inr =>
        have HE := Lib.hid (show V = 2 by exact HBOX.out (by have := inB_false.1 ok; omega))
        rw [ok]
        simp only []
        go_step
        refine skip_go (by kernel_rfl) ?_
        simp only [Exit.then]
        go_step
        refine cond_err (by kernel_rfl) ?_
        simp only [Exit.then]
        (repeat (with_reducible first | refine ret_then ?_ | refine ret_block ?_))
        (try go_big_unhide)
        refine bodyPost_ret (results_tmp rfl _ _ _) (by kernel_rfl) ?_
        exact ⟨by rw [HE.out]; kernel_rfl, HB3.out⟩
      rw [ok]
      obtain ⟨p1k, p2k⟩ := inB_true.1 ok
      clear ok
      go_wp2_with fail
      refine (in_any _ _ _ _).mono ?_
      rintro e w6 ⟨rfl, rfl⟩
      have Ol : inB pad (0) (1000) = true ∨ inB pad (0) (1000) = false := by cases inB pad (0) (1000) <;> simp
      rcases Ol with ol | ol
      case' inr =>
        have HE := Lib.hid (show V = 2 by exact HNUM.out (by have := inB_false.1 ol; omega))
        rw [ol]
        simp only []
        go_step
        refine skip_go (by kernel_rfl) ?_
        simp only [Exit.then]
        go_step
        refine cond_err (by kernel_rfl) ?_
        simp only [Exit.then]
        (repeat (with_reducible first | refine ret_then ?_ | refine ret_block ?_))
        (try go_big_unhide)
        refine bodyPost_ret (results_tmp rfl _ _ _) (by kernel_rfl) ?_
        exact ⟨by rw [HE.out]; kernel_rfl, HB3.out⟩
      rw [ol]
      obtain ⟨p1l, p2l⟩ := inB_true.1 ol
      clear ol
      go_wp2_with fail
      refine (in_any _ _ _ _).mono ?_
      rintro e w6 ⟨rfl, rfl⟩
      have Om : inB mn (0) (31680) = true ∨ inB mn (0) (31680) = false := by cases inB mn (0) (31680) <;> simp
      rcases Om with om | om
      case' inr =>
        have HE := Lib.hid (show V = 2 by exact HNUM.out (by have := inB_false.1 om; omega))
        rw [om]
        simp only []
        go_step
        refine skip_go (by kernel_rfl) ?_
        simp only [Exit.then]
        go_step
        refine cond_err (by kernel_rfl) ?_
        simp only [Exit.then]
        (repeat (with_reducible first | refine ret_then ?_ | refine ret_block ?_))
        (try go_big_unhide)
        refine bodyPost_ret (results_tmp rfl _ _ _) (by kernel_rfl) ?_
        exact ⟨by rw [HE.out]; kernel_rfl, HB3.out⟩
      rw [om]
      obtain ⟨p1m, p2m⟩ := inB_true.1 om
      clear om
      go_wp2_with fail
      refine (in_any _ _ _ _).mono ?_
      rintro e w6 ⟨rfl, rfl⟩
      have On : inB pref (0) (31680) = true ∨ inB pref (0) (31680) = false := by cases inB pref (0) (31680) <;> simp
      rcases On with on | on
      case' inr =>
        have HE := Lib.hid (show V = 2 by exact HNUM.out (by have := inB_false.1 on; omega))
        rw [on]
        simp only []
        go_step
        refine skip_go (by kernel_rfl) ?_
        simp only [Exit.then]
        go_step
        refine cond_err (by kernel_rfl) ?_
        simp only [Exit.then]
        (repeat (with_reducible first | refine ret_then ?_ | refine ret_block ?_))
        (try go_big_unhide)
        refine bodyPost_ret (results_tmp rfl _ _ _) (by kernel_rfl) ?_
        exact ⟨by rw [HE.out]; kernel_rfl, HB3.out⟩
      rw [on]
      obtain ⟨p1n, p2n⟩ := inB_true.1 on
      clear on
      go_wp2_with fail
      have c4 : wc.cell? ⟨kc, 4, none⟩ = some (.slice ap np cp) := HK3.out.cell HCB.out.1.2.2
      by_cases hnp : 50 < np
      · have e2 : (50 : Int) < (np : Int) := by omega
        refine (in_any _ _ _ _).mono ?_
        rintro e w6 ⟨rfl, rfl⟩
        have Oo : inB cnode (0) (1073741824) = true ∨ inB cnode (0) (1073741824) = false := by cases inB cnode (0) (1073741824) <;> simp
        rcases Oo with oo | oo
        case' inr =>
          have HE := Lib.hid (show V = 2 by exact HNUM.out (by have := inB_false.1 oo; omega))
          rw [oo]
          simp only []
          go_step
          refine skip_go (by kernel_rfl) ?_
          simp only [Exit.then]
          go_step
          refine cond_err (by kernel_rfl) ?_
          simp only [Exit.then]
          (repeat (with_reducible first | refine ret_then ?_ | refine ret_block ?_))
          (try go_big_unhide)
          refine bodyPost_ret (results_tmp rfl _ _ _) (by kernel_rfl) ?_
          exact ⟨by rw [HE.out]; kernel_rfl, HB3.out⟩
        rw [oo]
        obtain ⟨p1o, p2o⟩ := inB_true.1 oo
        clear oo
        go_wp2_with fail
        have HE := Lib.hid (show V = 3 from HCE.out 3 (by
          unfold cellE
          rw [if_neg (show ¬ boxBad rows cols ⟨row, col, ch, cw, np, ap, cp, par, pad, mn, pref, cnode⟩ by unfold boxBad; simp only; omega), if_neg (show ¬ numBad ⟨row, col, ch, cw, np, ap, cp, par, pad, mn, pref, cnode⟩ by unfold numBad; simp only; omega), if_pos hnp]) (by decide))
        go_ret
        exact ⟨by rw [HE.out]; rfl, HB3.out⟩
      have e2 : ¬ (50 : Int) < (np : Int) := by omega
      refine (in_any _ _ _ _).mono ?_
      rintro e w6 ⟨rfl, rfl⟩
      have Op : inB cnode (0) (1073741824) = true ∨ inB cnode (0) (1073741824) = false := by cases inB cnode (0) (1073741824) <;> simp
      rcases Op with op | op
      case' inr =>
        have HE := Lib.hid (show V = 2 by exact HNUM.out (by have := inB_false.1 op; omega))
        rw [op]
        simp only []
        go_step
        refine skip_go (by kernel_rfl) ?_
        simp only [Exit.then]
        go_step
        refine cond_err (by kernel_rfl) ?_
        simp only [Exit.then]
        (repeat (with_reducible first | refine ret_then ?_ | refine ret_block ?_))
        (try go_big_unhide)
        refine bodyPost_ret (results_tmp rfl _ _ _) (by kernel_rfl) ?_
        exact ⟨by rw [HE.out]; kernel_rfl, HB3.out⟩
      rw [op]
      obtain ⟨p1p, p2p⟩ := inB_true.1 op
      clear op
      go_wp2_with fail
      have HCF := Lib.hid (show cellE rows cols ⟨row, col, ch, cw, np, ap, cp, par, pad, mn, pref, cnode⟩ = fstE np (fun k => parE (par k)) 0 by
        unfold cellE
        rw [if_neg (show ¬ boxBad rows cols ⟨row, col, ch, cw, np, ap, cp, par, pad, mn, pref, cnode⟩ by unfold boxBad; simp only; omega), if_neg (show ¬ numBad ⟨row, col, ch, cw, np, ap, cp, par, pad, mn, pref, cnode⟩ by unfold numBad; simp only; omega), if_neg hnp])
      have hn50 : np ≤ 50 := by omega
      have HXR := Lib.hid (show ((T.cell i).row = row ∧ (T.cell i).col = col) ∧ ((T.cell i).h = ch ∧ (T.cell i).w = cw) ∧ (T.cell i).np = np ∧ (T.cell i).par = par by rw [← HX.out]; exact ⟨⟨rfl, rfl⟩, ⟨rfl, rfl⟩, rfl, rfl⟩)
      have hcb := cntC_prev HNO.out
      have HC1 := Lib.hid (show cntC T (i + 1) = cntC T i + cntP (T.cell i) np by show cntC T i + cntP (T.cell i) (T.cell i).np = _; rw [HXR.out.2.2.1])
      obtain ⟨C0, hC0⟩ : ∃ C0, C0 = cntC T i := ⟨_, rfl⟩
      rw [← hC0] at hcb ⊢
      have HC0 := Lib.hid hC0
      obtain ⟨c01, c02⟩ := hcb
      clear hC0 t0 t1 c0 c1 c2 c3 c4 c5 c6 c7 c8 p1l p2l p1m p2m p1n p2n p1p p2p hnp e2 HBOX HNUM
      go_loopw [3, 128] (fun zv kv wx => ∃ k : Nat, zv = .int .i64 (C0 + cntP (T.cell i) k) ∧ kv = .int .i64 k ∧ k ≤ np ∧ (∀ q, q < k → parE (par q) = 0) ∧ Below wc.heap.size wc wx) (fun _ kv _ => np - (intOf kv).toNat)
      case atStart => exact ⟨0, by show _ = Value.int .i64 (C0 + 0); rw [Int.add_zero], rfl, by omega, fun q hq => by omega, Below.refl _ _⟩
      case round =>
        obtain ⟨k, rfl, rfl, hk, hpz, hbl⟩ := hrel
        have hp0 := cntP_ge (T.cell i) k
        have hp1 := cntP_up (c := T.cell i) (K := 3000) k (fun q hq => by rw [HXR.out.2.2.2]; exact parE_len (hpz q hq))
        obtain ⟨S, hS⟩ : ∃ S, S = C0 + cntP (T.cell i) k := ⟨_, rfl⟩
        rw [← hS]
        have s1 : 0 ≤ S := by omega
        have s2 : S ≤ 250000 := by omega
        have HPZ := Lib.hid hpz
        have HBL := Lib.hid hbl
        have HSE := Lib.hid hS
        have hszl := hbl.size
        have HBW := Lib.hid (HB3.out.trans (hbl.mono HB3.out.size))
        clear hbl hS hp0 hp1 hpz
        by_cases hkn : k < np
        · have hkn2 : (k : Int) < (np : Int) := by omega
          have hco2 := (HC.out.2 i (by rw [HTT.out]; exact hin)).below (Nat.le_refl _) HBW.out
          rw [← HX.out] at hco2
          obtain ⟨b, off, hba, hcellG⟩ := hco2.1 (by show 0 < np; omega)
          have HPO := Lib.hid (hco2.2 k (by show k < np; exact hkn))
          have hcell := hcellG k hkn
          simp only at hcell hba
          have HPK := Lib.hid (show cntP (T.cell i) (k + 1) = cntP (T.cell i) k + ((par k).n : Int) by show cntP (T.cell i) k + (((T.cell i).par k).n : Int) = _; rw [HXR.out.2.2.2])
          clear hcellG hco2
          obtain ⟨x, hx⟩ : ∃ x, x = par k := ⟨_, rfl⟩
          rw [← hx] at hcell
          have HX := Lib.hid hx
          have HRG := Lib.hid (row_range hcell x.cells rfl (fun j hj => rfl))
          have zb := row_lt hcell
          obtain ⟨qn, qa, qc, qit, qsize, qbold, qfixed, qalign, qdir, qleft, qright, qfirst, qbefore, qafter, qline, qkeep, qnext, qwidow, qorphan, qahead⟩ := x
          clear hcell hx
          have HXP := HX
          have HPK2 := Lib.hid (show cntP (T.cell i) (k + 1) = cntP (T.cell i) k + (qn : Int) by rw [HPK.out, ← HXP.out])
          clear HPK
          subst hba
          go_upto_region 15 with fail
          refine wp_region_lit ?_
          refine cut_at 1 (fun R hR => ?_)
          have HRAa := Lib.hid hR
          clear hR
          simp only [List.take_succ_cons, List.take_zero, List.cons_append, List.nil_append]
          go_wp2_with fail
          rw [HRAa.out]
          simp only [List.drop_succ_cons, List.drop_zero]
          refine wpList_load_mid rfl 62 _ rfl b (off + k * 17) rfl _ _ HRG.out Try.underlying62 rfl (by kernel_rfl) ?_
          simp only [Act.put, List.setIfInBounds_toArray, List.set_cons_zero, List.set_cons_succ]
          refine cut_at 1 (fun R hR => ?_)
          have HRAb := Lib.hid hR
          clear hR
          simp only [List.take_succ_cons, List.take_zero, List.cons_append, List.nil_append]
          go_wp2_with fail
          rw [HRAb.out]
          simp only [List.drop_succ_cons, List.drop_zero]
          refine st_store_new rfl 62 _ _ rfl _ #[.slice qa qn qc, .int .i64 qsize, .bool qbold, .bool qfixed, .int .i64 qalign, .int .i64 qdir, .int .i64 qleft, .int .i64 qright, .int .i64 qfirst, .int .i64 qbefore, .int .i64 qafter, .int .i64 qline, .bool qkeep, .bool qnext, .int .i64 qwidow, .int .i64 qorphan, .int .i64 qahead] rfl rfl (by kernel_rfl) rfl (by kernel_rfl) ?_
          simp only [Act.put]
          go_upto_region 16 with fail
          have HRN := Lib.hid (show ((wr).alloc (.cells #[.slice qa qn qc, .int .i64 qsize, .bool qbold, .bool qfixed, .int .i64 qalign, .int .i64 qdir, .int .i64 qleft, .int .i64 qright, .int .i64 qfirst, .int .i64 qbefore, .int .i64 qafter, .int .i64 qline, .bool qkeep, .bool qnext, .int .i64 qwidow, .int .i64 qorphan, .int .i64 qahead] 62)).rangeAt (wr).heap.size 0 [.slice qa qn qc, .int .i64 qsize, .bool qbold, .bool qfixed, .int .i64 qalign, .int .i64 qdir, .int .i64 qleft, .int .i64 qright, .int .i64 qfirst, .int .i64 qbefore, .int .i64 qafter, .int .i64 qline, .bool qkeep, .bool qnext, .int .i64 qwidow, .int .i64 qorphan, .int .i64 qahead] from fun j v hj => by rw [Nat.zero_add]; exact (Blk.new wr _ _).cell (by simpa using hj))
          refine wp_region_lit ?_
          refine wpList_load_mid rfl 62 _ rfl (wr).heap.size 0 rfl _ _ HRN.out Try.underlying62 rfl (by kernel_rfl) ?_
          simp only [Act.put, List.setIfInBounds_toArray, List.set_cons_zero, List.set_cons_succ]
          go_wp2_with fail
          have hpo := HPO.out
          rw [← HXP.out] at hpo
          refine (parError_any ⟨qn, qa, qc, qit, qsize, qbold, qfixed, qalign, qdir, qleft, qright, qfirst, qbefore, qafter, qline, qkeep, qnext, qwidow, qorphan, qahead⟩ _ (hpo.below (Nat.le_refl _) ((Below.refl _ _).alloc (Nat.le_refl _) _))).mono ?_
          rintro e w4 ⟨rfl, hb4⟩
          rw [HXP.out]
          have HP4 := Lib.hid (show Blk w4 wr.heap.size #[.slice qa qn qc, .int .i64 qsize, .bool qbold, .bool qfixed, .int .i64 qalign, .int .i64 qdir, .int .i64 qleft, .int .i64 qright, .int .i64 qfirst, .int .i64 qbefore, .int .i64 qafter, .int .i64 qline, .bool qkeep, .bool qnext, .int .i64 qwidow, .int .i64 qorphan, .int .i64 qahead] 62 from (Blk.new wr _ _).below hb4 (by simp))
          have HB4 := Lib.hid (((Below.refl wr.heap.size wr).alloc (Nat.le_refl _) (.cells #[.slice qa qn qc, .int .i64 qsize, .bool qbold, .bool qfixed, .int .i64 qalign, .int .i64 qdir, .int .i64 qleft, .int .i64 qright, .int .i64 qfirst, .int .i64 qbefore, .int .i64 qafter, .int .i64 qline, .bool qkeep, .bool qnext, .int .i64 qwidow, .int .i64 qorphan, .int .i64 qahead] 62)).trans (hb4.mono (by simp)))
          clear hpo hb4
          by_cases he : parE (par k) = 0
          · rw [he]
            have hql := parE_len he
            rw [← HXP.out] at hql
            simp only at hql
            have HEZ := Lib.hid he
            have q0 : w4.cell? ⟨wr.heap.size, 0, none⟩ = some (.slice qa qn qc) := HP4.out.cell (i := 0) rfl
            clear he
            go_wp2_with fail
            go_roundw
            case rel => exact ⟨k + 1, congrArg (Value.int .i64) (show S + (qn : Int) = C0 + cntP (T.cell i) (k + 1) by rw [HPK2.out, HSE.out]; omega), by go_num, by omega, fun j hj => by
              rcases Nat.lt_or_ge j k with h | h
              · exact HPZ.out j h
              · rw [show j = k by omega]; exact HEZ.out, HBL.out.trans (HB4.out.mono hszl)⟩
            case measure => simp [intOf]; omega
          · have HE := Lib.hid (show V = parE (par k) from HCE.out _ (by rw [HCF.out, fstE_some hkn HPZ.out he]) he)
            have f1 : (parE (par k) != 0) = true := by simpa using he
            clear he
            go_wp2_with fail
            go_ret
            exact ⟨by rw [HE.out]; rfl, HBW.out.trans (HB4.out.mono HBW.out.size)⟩
        · obtain rfl : np = k := by omega
          have HCN := Lib.hid (show cntC T (i + 1) = S by rw [HC1.out, HSE.out, HC0.out])
          have hnn : ¬ (np : Int) < (np : Int) := by omega
          have HEC := Lib.hid (show cellE T.rows T.cols (T.cell i) = 0 by rw [HTR.out.1.1, HTR.out.1.2.1, ← HX.out, HCF.out, fstE_none HPZ.out])
          have HTL := Lib.hid (show Blk wr w.heap.size tbA 41 from HT3.out.below HBL.out HT3.out.lt)
          have HKL := Lib.hid (show Blk wr kc cbA 44 from HK3.out.below HBL.out HK3.out.lt)
          clear HCE HCF HT3 HK3 HB3 HPZ
          obtain ⟨wd, rfl⟩ : ∃ wd : World, wd = wr := ⟨_, rfl⟩
          go_upto_region 21 with fail
          go_cut [169] from 143 to 169 (fun tv wx => tv = .bool (ordB T i) ∧ ∃ n : Nat, wx = wd.drewN n)
          case first =>
            have c0 : wd.cell? ⟨kc, 0, none⟩ = some (.int .i64 row) := HKL.out.cell HCB.out.1.1.1
            have c1 : wd.cell? ⟨kc, 1, none⟩ = some (.int .i64 col) := HKL.out.cell HCB.out.1.1.2
            have t2 : wd.cell? ⟨w.heap.size, 2, none⟩ = some (.slice (some ⟨b, off, none⟩) tn tc) := HTL.out.cell HTB.out.2
            by_cases h0 : i = 0
            · have hi0 : decide (0 < i) = false := decide_eq_false (by omega)
              have HOB := Lib.hid (show ordB T i = false from ordB_false.2 (fun h => by have := h.1; omega))
              clear h0
              go_quiet (fail)
              go_wp2_with fail
              go_meet
              exact ⟨by rw [HOB.out], _, rfl⟩
            · obtain ⟨m, hm⟩ : ∃ m, i = m + 1 := ⟨i - 1, by omega⟩
              have hi0 : decide (0 < i) = true := decide_eq_true (by omega)
              have e3 : IntKind.i64.wrap ((i : Int) - 1) = (m : Int) := by rw [IntWalk.i64_in _ ⟨by omega, by omega⟩]; omega
              have hm1 : (m : Int) < (tn : Int) := by omega
              have hcs := HC.out.1.below (Nat.le_refl _) HBW.out
              rw [HTT.out] at hcs
              obtain ⟨b', off', hba', hcellG⟩ := hcs (by show 0 < tn; omega)
              simp only [Option.some.injEq, Addr.mk.injEq, and_true] at hba'
              obtain ⟨hb', ho'⟩ := hba'
              subst hb' ho'
              obtain ⟨pr, hpr⟩ : ∃ pr, pr = (tcell m).row := ⟨_, rfl⟩
              obtain ⟨pc, hpc⟩ : ∃ pc, pc = (tcell m).col := ⟨_, rfl⟩
              have p0 : wd.cell? ⟨b, off + m * 9, none⟩ = some (.int .i64 pr) := by rw [hpr]; exact hcellG m (by show m < tn; omega) 0 (by omega)
              have p1 : wd.cell? ⟨b, off + m * 9 + 1, none⟩ = some (.int .i64 pc) := by rw [hpc]; exact hcellG m (by show m < tn; omega) 1 (by omega)
              have hq := cellE_in (tcE_zero (HNO.out m (by omega))).1
              rw [show (T.cell m).row = pr by rw [hpr, HTT.out], show (T.cell m).col = pc by rw [hpc, HTT.out], HTR.out.1.1, HTR.out.1.2.1] at hq
              have HQ := Lib.hid (show ((T.cell i).row = row ∧ (T.cell i).col = col) ∧ (T.cell (i - 1)).row = pr ∧ (T.cell (i - 1)).col = pc from ⟨HXR.out.1, by rw [hm, HTT.out]; exact ⟨hpr.symm, hpc.symm⟩⟩)
              have e4 : IntKind.i64.wrap (row * 1000) = row * 1000 := IntWalk.i64_in _ ⟨by omega, by omega⟩
              have e5 : IntKind.i64.wrap (row * 1000 + col) = row * 1000 + col := IntWalk.i64_in _ ⟨by omega, by omega⟩
              have e6 : IntKind.i64.wrap (pr * 1000) = pr * 1000 := IntWalk.i64_in _ ⟨by omega, by omega⟩
              have e7 : IntKind.i64.wrap (pr * 1000 + pc) = pr * 1000 + pc := IntWalk.i64_in _ ⟨by omega, by omega⟩
              have HM := Lib.hid hm
              obtain ⟨⟨v1, v2, v3⟩, v4, v5, v6⟩ := hq
              clear hcellG hcs hpr hpc h0 hm
              by_cases h1 : row * 1000 + col ≤ pr * 1000 + pc
              · have HOB := Lib.hid (show ordB T i = true from ordB_true.2 ⟨by have := HM.out; omega, by have := HQ.out; omega⟩)
                have f1 : decide (row * 1000 + col ≤ pr * 1000 + pc) = true := decide_eq_true h1
                clear h1
                go_quiet (fail)
                go_wp2_with fail
                go_meet
                exact ⟨by rw [HOB.out], _, rfl⟩
              · have HOB := Lib.hid (show ordB T i = false from ordB_false.2 (fun h => by have := h.2; have := HQ.out; omega))
                have f1 : decide (row * 1000 + col ≤ pr * 1000 + pc) = false := decide_eq_false h1
                clear h1
                go_quiet (fail)
                go_wp2_with fail
                go_meet
                exact ⟨by rw [HOB.out], _, rfl⟩
          case rest =>
          obtain ⟨rfl, nd, hw3⟩ := hcut
          have HTM := Lib.hid (show Blk wc w.heap.size tbA 41 from by rw [hw3]; exact HTL.out.drewN nd)
          have HKM := Lib.hid (show Blk wc kc cbA 44 from by rw [hw3]; exact HKL.out.drewN nd)
          have HBM := Lib.hid (show Below w.heap.size w wc from by rw [hw3]; exact below_drewN HBW.out nd)
          clear hw3 HTL HKL HBW HBL hszl
          cases hob : ordB T i
          · have HOR := Lib.hid (ordB_false.1 hob)
            clear hob
            have t2 : wc.cell? ⟨w.heap.size, 2, none⟩ = some (.slice (some ⟨b, off, none⟩) tn tc) := HTM.out.cell HTB.out.2
            have hcap : tn ≤ tc ∧ tc ≤ maxLen := HCAP.out
            unfold maxLen at hcap
            obtain ⟨hcap1, hcap2⟩ := hcap
            have hitn : (i : Int) ≤ (tc : Int) := by omega
            have hitn2 : i ≤ tc := by omega
            have hci := cellE_in HEC.out
            rw [HTR.out.1.1, HTR.out.1.2.1, HXR.out.1.1, HXR.out.1.2, HXR.out.2.1.1, HXR.out.2.1.2] at hci
            obtain ⟨⟨r1, r2, r3⟩, r4, r5, r6⟩ := hci
            go_wp2_with fail
            go_loopw [175] (fun jv wx => ∃ j : Nat, jv = .int .i64 j ∧ j ≤ i ∧ (∀ q, q < j → ¬ hit (T.cell i) (T.cell q)) ∧ Below wc.heap.size wc wx) (fun jv _ => i - (intOf jv).toNat)
            case atStart => exact ⟨0, rfl, by omega, fun q hq => by omega, Below.refl _ _⟩
            case round =>
              clear t2
              obtain ⟨j, rfl, hj, hnh, hbl⟩ := hrel
              have HNHJ := Lib.hid hnh
              have HBL := Lib.hid hbl
              have hszl := hbl.size
              have HBN := Lib.hid (HBM.out.trans (hbl.mono HBM.out.size))
              have hzk2 := HKM.out.lt
              clear hnh hbl
              by_cases hji : j < i
              · have hji2 : (j : Int) < (i : Int) := by omega
                have hjn : j < tn := by omega
                have c0 : wr.cell? ⟨kc, 0, none⟩ = some (.int .i64 row) := (HKM.out.below HBL.out HKM.out.lt).cell HCB.out.1.1.1
                have c1 : wr.cell? ⟨kc, 1, none⟩ = some (.int .i64 col) := (HKM.out.below HBL.out HKM.out.lt).cell HCB.out.1.1.2
                have c2 : wr.cell? ⟨kc, 2, none⟩ = some (.int .i64 ch) := (HKM.out.below HBL.out HKM.out.lt).cell HCB.out.1.2.1.1
                have c3 : wr.cell? ⟨kc, 3, none⟩ = some (.int .i64 cw) := (HKM.out.below HBL.out HKM.out.lt).cell HCB.out.1.2.1.2
                have hcs := HC.out.1.below (Nat.le_refl _) HBN.out
                rw [HTT.out] at hcs
                obtain ⟨b', off', hba', hcellG⟩ := hcs (by show 0 < tn; omega)
                simp only [Option.some.injEq, Addr.mk.injEq, and_true] at hba'
                obtain ⟨hb', ho'⟩ := hba'
                subst hb' ho'
                have hcell := hcellG j hjn
                obtain ⟨x, hx⟩ : ∃ x, x = T.cell j := ⟨_, rfl⟩
                have HXJ := Lib.hid hx
                simp only at hcell
                rw [show tcell j = x by rw [hx, HTT.out]] at hcell
                clear hcellG hcs hx
                obtain ⟨rowJ, colJ, chJ, cwJ, npJ, apJ, cpJ, parJ, padJ, mnJ, prefJ, cnodeJ⟩ := x
                have d0 : wr.cell? ⟨b, off + j * 9, none⟩ = some (.int .i64 rowJ) := hcell 0 (by omega)
                have d1 : wr.cell? ⟨b, off + j * 9 + 1, none⟩ = some (.int .i64 colJ) := hcell 1 (by omega)
                have d2 : wr.cell? ⟨b, off + j * 9 + 2, none⟩ = some (.int .i64 chJ) := hcell 2 (by omega)
                have d3 : wr.cell? ⟨b, off + j * 9 + 3, none⟩ = some (.int .i64 cwJ) := hcell 3 (by omega)
                have d4 : wr.cell? ⟨b, off + j * 9 + 4, none⟩ = some (.slice apJ npJ cpJ) := hcell 4 (by omega)
                have d5 : wr.cell? ⟨b, off + j * 9 + 5, none⟩ = some (.int .i64 padJ) := hcell 5 (by omega)
                have d6 : wr.cell? ⟨b, off + j * 9 + 6, none⟩ = some (.int .i64 mnJ) := hcell 6 (by omega)
                have d7 : wr.cell? ⟨b, off + j * 9 + 7, none⟩ = some (.int .i64 prefJ) := hcell 7 (by omega)
                have d8 : wr.cell? ⟨b, off + j * 9 + 8, none⟩ = some (.int .i64 cnodeJ) := hcell 8 (by omega)
                have zb := lt_of_cell d0
                simp only at zb
                clear hcell
                have hcj := cellE_in (tcE_zero (HNO.out j hji)).1
                rw [HTR.out.1.1, HTR.out.1.2.1, ← HXJ.out] at hcj
                simp only at hcj
                have HHT := Lib.hid (show hit (T.cell i) (T.cell j) ↔ (row < rowJ + chJ ∧ rowJ < row + ch ∧ col < colJ + cwJ ∧ colJ < col + cw) by
                  unfold hit
                  rw [HXR.out.1.1, HXR.out.1.2, HXR.out.2.1.1, HXR.out.2.1.2, ← HXJ.out])
                obtain ⟨⟨z1, z2, z3⟩, z4, z5, z6⟩ := hcj
                have hzk3 : kc < wr.heap.size := by omega
                go_upto_region 26 with fail
                by_cases g1 : row < rowJ + chJ
                · by_cases g2 : rowJ < row + ch
                  · by_cases g3 : col < colJ + cwJ
                    · by_cases g4 : colJ < col + cw
                      · have HE := Lib.hid (show V = 6 by
                          have h6 := tcE_hit HEC.out HOR.out (show hitBad T i from ⟨j, hji, HHT.out.2 ⟨g1, g2, g3, g4⟩⟩)
                          rw [HF.out, fstE_some hin HNO.out (by rw [h6]; omega), h6])
                        go_wp2_with fail
                        go_ret
                        exact ⟨by rw [HE.out]; rfl, HBN.out.alloc HBN.out.size _⟩
                      · have HN := Lib.hid (show ¬ hit (T.cell i) (T.cell j) from fun h => by have := HHT.out.1 h; omega)
                        go_wp2_with fail
                        go_roundw
                        case rel => exact ⟨j + 1, by go_num, by omega, fun q hq => by
                          rcases Nat.lt_or_ge q j with h | h
                          · exact HNHJ.out q h
                          · rw [show q = j by omega]; exact HN.out, HBL.out.alloc (by omega) _⟩
                        case measure => simp [intOf]; omega
                    · have HN := Lib.hid (show ¬ hit (T.cell i) (T.cell j) from fun h => by have := HHT.out.1 h; omega)
                      go_wp2_with fail
                      go_roundw
                      case rel => exact ⟨j + 1, by go_num, by omega, fun q hq => by
                        rcases Nat.lt_or_ge q j with h | h
                        · exact HNHJ.out q h
                        · rw [show q = j by omega]; exact HN.out, HBL.out.alloc (by omega) _⟩
                      case measure => simp [intOf]; omega
                  · have HN := Lib.hid (show ¬ hit (T.cell i) (T.cell j) from fun h => by have := HHT.out.1 h; omega)
                    go_wp2_with fail
                    go_roundw
                    case rel => exact ⟨j + 1, by go_num, by omega, fun q hq => by
                      rcases Nat.lt_or_ge q j with h | h
                      · exact HNHJ.out q h
                      · rw [show q = j by omega]; exact HN.out, HBL.out.alloc (by omega) _⟩
                    case measure => simp [intOf]; omega
                · have HN := Lib.hid (show ¬ hit (T.cell i) (T.cell j) from fun h => by have := HHT.out.1 h; omega)
                  go_wp2_with fail
                  go_roundw
                  case rel => exact ⟨j + 1, by go_num, by omega, fun q hq => by
                    rcases Nat.lt_or_ge q j with h | h
                    · exact HNHJ.out q h
                    · rw [show q = j by omega]; exact HN.out, HBL.out.alloc (by omega) _⟩
                  case measure => simp [intOf]; omega
              · obtain rfl : i = j := by omega
                have hnn2 : ¬ (i : Int) < (i : Int) := by omega
                have HNH := Lib.hid (show ¬ hitBad T i from fun ⟨q, hq, h⟩ => HNHJ.out q hq h)
                by_cases hbig : 100000 < S
                · have HE := Lib.hid (show V = 3 by
                    have h3 := tcE_big HEC.out HOR.out HNH.out (by rw [HCN.out]; exact hbig)
                    rw [HF.out, fstE_some hin HNO.out (by rw [h3]; omega), h3])
                  go_wp2_with fail
                  go_ret
                  exact ⟨by rw [HE.out]; rfl, HBN.out⟩
                · have HFI := Lib.hid (tcE_fine HEC.out HOR.out HNH.out (by rw [HCN.out]; exact hbig))
                  go_wp2_with fail
                  go_roundw
                  case rel =>
                    refine ⟨i + 1, congrArg (Value.int .i64) HCN.out.symm, by go_num, by omega, fun q hq => ?_, HBN.out, HTM.out.below HBL.out HTM.out.lt⟩
                    rcases Nat.lt_or_ge q i with h | h
                    · exact HNO.out q h
                    · rw [show q = i by omega]; exact HFI.out
                  case measure => simp [intOf]; omega
          · have HE := Lib.hid (show V = 5 by
              have h5 := tcE_ord HEC.out (ordB_true.1 hob)
              rw [HF.out, fstE_some hin HNO.out (by rw [h5]; omega), h5])
            clear hob
            go_wp2_with fail
            go_ret
            exact ⟨by rw [HE.out]; rfl, HBM.out⟩
    · obtain rfl : i = tn := by omega
      have hin2 : ¬ ((i : Nat) : Int) < (i : Int) := by omega
      have HE := Lib.hid (show V = 0 by rw [HF.out, fstE_none HNO.out])
      go_wp2_with fail
      go_ret
      exact ⟨by rw [HE.out]; rfl, HB.out⟩
end Go.Proofs.Ytabnohphgegflaa.TB
