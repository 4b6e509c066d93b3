

/-
  A table that is not out of range is checked.
-/
import Derived.Test.YtabnohphgegflaaTbCheck
import Derived.BigQuiet
import Derived.Deep.CutRange
namespace Go.Law.Tb
open Go.RowKit Go.Law
theorem tabE_ok {t : TabD} (h : ¬ headBad t) : tabE t = if 4000 < t.n then 3 else fstE t.n (tcE t) 0 := by unfold tabE; rw [if_neg h]
theorem area {rows cols : Int} (h1 : 1 ≤ rows ∧ rows ≤ 500) (h2 : 1 ≤ cols ∧ cols ≤ 64) : 1 ≤ rows * cols ∧ rows * cols ≤ 32000 := by
  have a := Int.mul_le_mul h1.2 h2.2 (by omega) (by omega)
  have b := Int.mul_le_mul h1.1 h2.1 (by omega) (by omega)
  omega
theorem tcE_ord {t : TabD} {i : Nat} (h0 : cellE t.rows t.cols (t.cell i) = 0) (h : ordBad t i) : tcE t i = 5 := by unfold tcE; rw [if_neg (by rw [h0]; simp), if_pos h]
theorem tcE_hit {t : TabD} {i : Nat} (h0 : cellE t.rows t.cols (t.cell i) = 0) (h1 : ¬ ordBad t i) (h2 : hitBad t i) : tcE t i = 6 := by unfold tcE; rw [if_neg (by rw [h0]; simp), if_neg h1, if_pos h2]
theorem tcE_big {t : TabD} {i : Nat} (h0 : cellE t.rows t.cols (t.cell i) = 0) (h1 : ¬ ordBad t i) (h2 : ¬ hitBad t i) (h3 : 100000 < cntC t (i + 1)) : tcE t i = 3 := by unfold tcE; rw [if_neg (by rw [h0]; simp), if_neg h1, if_neg h2, if_pos h3]
theorem tcE_fine {t : TabD} {i : Nat} (h0 : cellE t.rows t.cols (t.cell i) = 0) (h1 : ¬ ordBad t i) (h2 : ¬ hitBad t i) (h3 : ¬ 100000 < cntC t (i + 1)) : tcE t i = 0 := by unfold tcE; rw [if_neg (by rw [h0]; simp), if_neg h1, if_neg h2, if_neg h3]
theorem tcE_zero {t : TabD} {i : Nat} (h : tcE t i = 0) : cellE t.rows t.cols (t.cell i) = 0 ∧ ¬ ordBad t i ∧ ¬ hitBad t i ∧ ¬ 100000 < cntC t (i + 1) := by
  unfold tcE at h
  by_cases h0 : cellE t.rows t.cols (t.cell i) = 0
  · rw [if_neg (by rw [h0]; simp)] at h
    by_cases h1 : ordBad t i
    · rw [if_pos h1] at h; omega
    · rw [if_neg h1] at h
      by_cases h2 : hitBad t i
      · rw [if_pos h2] at h; omega
      · rw [if_neg h2] at h
        by_cases h3 : 100000 < cntC t (i + 1)
        · rw [if_pos h3] at h; omega
        · exact ⟨h0, h1, h2, h3⟩
  · rw [if_pos h0] at h; exact absurd h h0
theorem cntP_ge (c : CellD) : ∀ k, 0 ≤ cntP c k
  | 0 => Int.le_refl _
  | k + 1 => by have := cntP_ge c k; unfold cntP; omega
theorem cntC_ge (t : TabD) : ∀ i, 0 ≤ cntC t i
  | 0 => Int.le_refl _
  | i + 1 => by have := cntC_ge t i; have := cntP_ge (t.cell i) (t.cell i).np; unfold cntC; omega
theorem cntC_prev {t : TabD} {i : Nat} (h : ∀ j, j < i → tcE t j = 0) : 0 ≤ cntC t i ∧ cntC t i ≤ 100000 := by
  refine ⟨cntC_ge t i, ?_⟩
  cases i with
  | zero => simp [cntC]
  | succ k => have := (tcE_zero (h k (by omega))).2.2.2; omega
theorem parE_len {p : ParD} (h : parE p = 0) : p.n ≤ 3000 := by
  unfold parE at h
  by_cases h1 : 3000 < p.n
  · rw [if_pos h1] at h; omega
  · omega
theorem cellE_pars {rows cols : Int} {c : CellD} (h : cellE rows cols c = 0) : c.np ≤ 50 ∧ ∀ k, k < c.np → parE (c.par k) = 0 := by
  unfold cellE at h
  by_cases h1 : boxBad rows cols c
  · rw [if_pos h1] at h; omega
  · rw [if_neg h1] at h
    by_cases h2 : numBad c
    · rw [if_pos h2] at h; omega
    · rw [if_neg h2] at h
      by_cases h3 : 50 < c.np
      · rw [if_pos h3] at h; omega
      · rw [if_neg h3] at h
        exact ⟨by omega, (fstE_zero h).1⟩
theorem cellE_in {rows cols : Int} {c : CellD} (h : cellE rows cols c = 0) : (0 ≤ c.row ∧ 1 ≤ c.h ∧ c.row + c.h ≤ rows) ∧ (0 ≤ c.col ∧ 1 ≤ c.w ∧ c.col + c.w ≤ cols) := by
  have := cellE_box h
  unfold boxBad at this
  omega
theorem cntP_in {rows cols : Int} {c : CellD} (h : cellE rows cols c = 0) (k : Nat) (hk : k ≤ c.np) : 0 ≤ cntP c k ∧ cntP c k ≤ 150000 := by
  obtain ⟨h1, h2⟩ := cellE_pars h
  have := cntP_bd (K := 3000) (fun k hk => parE_len (h2 k hk)) k hk
  omega
theorem flat_lt {r c rows cols : Int} (h1 : 0 ≤ r) (h2 : r < rows) (h3 : 0 ≤ c) (h4 : c < cols) : 0 ≤ r * cols ∧ r * cols + c < rows * cols := by
  have a := Int.mul_nonneg h1 (show 0 ≤ cols by omega)
  have b := Int.mul_le_mul_of_nonneg_right (show r + 1 ≤ rows by omega) (show 0 ≤ cols by omega)
  rw [Int.add_mul, Int.one_mul] at b
  exact ⟨a, by omega⟩
theorem free_row' {t : TabD} {i : Nat} {row col ch cw : Int} {P : Prop} (hx : ((t.cell i).row = row ∧ (t.cell i).col = col) ∧ ((t.cell i).h = ch ∧ (t.cell i).w = cw) ∧ P) {r c : Int} (h : freeTo t i r c) (hc : col + cw ≤ c) : freeTo t i (r + 1) col := by
  have := free_row h (by rw [hx.1.2, hx.2.1.2]; exact hc)
  rw [hx.1.2] at this
  exact this
theorem flg_row' {t : TabD} {i : Nat} {row col ch cw : Int} {P : Prop} (hx : ((t.cell i).row = row ∧ (t.cell i).col = col) ∧ ((t.cell i).h = ch ∧ (t.cell i).w = cw) ∧ P) (r c : Int) (q : Nat) (hc : col + cw ≤ c) : flg t i r c q = flg t i (r + 1) col q := by
  have := flg_row t i r c q (by rw [hx.1.2, hx.2.1.2]; exact hc)
  rw [hx.1.2] at this
  exact this
theorem free_done' {t : TabD} {i : Nat} {row col ch cw : Int} {P : Prop} (hx : ((t.cell i).row = row ∧ (t.cell i).col = col) ∧ ((t.cell i).h = ch ∧ (t.cell i).w = cw) ∧ P) {r : Int} (h : freeTo t i r col) (hc : row + ch ≤ r) (hp : ∀ j, j ≤ i → 0 < (t.cell j).h ∧ 0 < (t.cell j).w) : ¬ hitBad t i :=
  free_done (by rw [hx.1.2]; exact h) (by rw [hx.1.1, hx.2.1.1]; exact hc) hp
theorem flg_done' {t : TabD} {i : Nat} {row col ch cw : Int} {P : Prop} (hx : ((t.cell i).row = row ∧ (t.cell i).col = col) ∧ ((t.cell i).h = ch ∧ (t.cell i).w = cw) ∧ P) (r : Int) (q : Nat) (hc : row + ch ≤ r) : flg t i r col q = flg t (i + 1) (t.cell (i + 1)).row (t.cell (i + 1)).col q := by
  have := flg_done t i r q (by rw [hx.1.1, hx.2.1.1]; exact hc)
  rw [hx.1.2] at this
  exact this
open Classical in
noncomputable def ordB (t : TabD) (i : Nat) : Bool := decide (ordBad t i)
open Classical in
theorem ordB_true {t : TabD} {i : Nat} : ordB t i = true ↔ ordBad t i := by unfold ordB; exact decide_eq_true_iff
open Classical in
theorem ordB_false {t : TabD} {i : Nat} : ordB t i = false ↔ ¬ ordBad t i := by unfold ordB; exact decide_eq_false_iff_not
end Go.Law.Tb
namespace Go.Proofs.Ytabnohphgegflaa.TB
open Go.RowKit Go.Law Go.Law.Tb
set_option linter.unusedVariables false
set_option linter.unusedSimpArgs false
theorem make_used (x : Int) (n : Nat) (hx : x = n) (hn : n ≤ 100000) (w : World) : (Instr.makeSlice 57 (.int .i64 x) (.int .i64 x)).run Try.prog w = .ok (.slice (some ⟨w.heap.size, 0, none⟩) n n) (w.alloc (.cells (madeCells #[.bool false] n) 4)) := by
  subst hx
  obtain ⟨i0, hi, hz0, hz1, hz2⟩ := info_parts (show (Try.prog.info? 4).map (fun i => (i.zero, i.size, i.bytes)) = some (some (.bool false), 1, 1) by kernel_rfl)
  have := run_make (P := Try.prog) w 57 4 i0 (.bool false) Try.underlying57 hi hz0 .i64 .i64 (n : Int) (n : Int) (by omega) (by omega) (by rw [hz2]; omega) (by omega)
  rw [hz1] at this
  simpa [Value.cells] using this
/-- while a cell is marked -/
structure CkS (w : World) (tb cb : Array Value) (kc nq : Nat) (u : Nat → Bool) (wx : World) : Prop where
  below : Below w.heap.size w wx
  tab : Blk wx w.heap.size tb 41
  cel : Blk wx kc cb 44
  own : OwnB wx 4 (w.heap.size + 1) nq u
  apart : w.heap.size + 1 < kc
theorem CkS.drewN {w : World} {tb cb : Array Value} {kc nq : Nat} {u : Nat → Bool} {wx : World} (h : CkS w tb cb kc nq u wx) (n : Nat) : CkS w tb cb kc nq u (wx.drewN n) :=
  ⟨below_drewN h.below _, h.tab.drewN _, h.cel.drewN _, h.own.drewN _, h.apart⟩
theorem CkS.congr {w : World} {tb cb : Array Value} {kc nq : Nat} {u u' : Nat → Bool} {wx : World} (h : CkS w tb cb kc nq u wx) (he : ∀ i, i < nq → u i = u' i) : CkS w tb cb kc nq u' wx :=
  ⟨h.below, h.tab, h.cel, h.own.congr he, h.apart⟩
theorem CkS.put {w : World} {tb cb : Array Value} {kc nq : Nat} {u : Nat → Bool} {wx : World} (h : CkS w tb cb kc nq u wx) (p : Nat) : CkS w tb cb kc nq (fun q => if q = p then true else u q) (wx.setCell ⟨w.heap.size + 1, p, none⟩ (.bool true)) :=
  ⟨h.below.setCell (by simp) _, h.tab.other (by simp) _, h.cel.other (by have := h.apart; simp; omega) _, h.own.set p true, h.apart⟩
theorem CkS.under {w : World} {tb cb : Array Value} {kc nq : Nat} {u : Nat → Bool} {wx wy : World} (h : CkS w tb cb kc nq u wx) (hb : Below wx.heap.size wx wy) : CkS w tb cb kc nq u wy :=
  ⟨h.below.trans (hb.mono h.below.size), h.tab.below hb h.tab.lt, h.cel.below hb h.cel.lt, h.own.block (hb.block _ h.own.lt), h.apart⟩
set_option maxRecDepth 100000
set_option maxHeartbeats 8000000 in
theorem check_ok (t : TabD) (w : World) (hc : TabOk w t) (hok : ¬ headBad t) : Calls Try.prog 22 #[.agg t.cells.toArray] w fun e w' => e = .returned (.int .i64 (tabE t)) ∧ Below w.heap.size w w' := by
  have HT := Lib.hid (tabE_ok hok)
  obtain ⟨V, hV⟩ : ∃ V, V = tabE t := ⟨_, rfl⟩
  rw [← hV]
  rw [← hV] at HT
  clear hV
  obtain ⟨T, hT⟩ : ∃ T, T = t := ⟨_, rfl⟩
  have HTT := Lib.hid hT
  rw [← hT] at HT hc
  have HC := Lib.hid hc
  clear hc hT
  obtain ⟨rows, cols, tn, ta, tc, tcell, width, head, align, tnode⟩ := t
  have hb3 : (1 ≤ rows ∧ rows ≤ 500) ∧ (1 ≤ cols ∧ cols ≤ 64) ∧ (0 ≤ width ∧ width ≤ 31680) ∧ (0 ≤ head ∧ head ≤ rows) ∧ (0 ≤ align ∧ align ≤ 2) ∧ (0 ≤ tnode ∧ tnode ≤ 1073741824) := by
    have : ¬ ((rows < 1 ∨ 500 < rows) ∨ (cols < 1 ∨ 64 < cols) ∨ (width < 0 ∨ 31680 < width) ∨ (head < 0 ∨ rows < head) ∨ (align < 0 ∨ 2 < align) ∨ (tnode < 0 ∨ 1073741824 < tnode)) := hok
    omega
  clear hok
  obtain ⟨⟨b1, b2⟩, ⟨b3, b4⟩, ⟨b5, b6⟩, ⟨b7, b8⟩, ⟨b9, b10⟩, ⟨b11, b12⟩⟩ := hb3
  have HRC := Lib.hid (show (1 ≤ rows ∧ rows ≤ 500) ∧ (1 ≤ cols ∧ cols ≤ 64) from ⟨⟨b1, b2⟩, b3, b4⟩)
  unfold TabD.cells
  have HBX := Lib.hid (show Below w.heap.size w (w.alloc (.cells #[.int .i64 rows, .int .i64 cols, .slice ta tn tc, .int .i64 width, .int .i64 head, .int .i64 align, .int .i64 tnode] 41)) from (Below.refl _ _).alloc (Nat.le_refl _) _)
  go_enter Try.func22, Try.ntmps22
  go_upto_region 3 with fail
  clear b1 b2 b3 b4 b5 b6 b7 b8 b9 b10 b11 b12
  by_cases hn : 4000 < tn
  · have HE := Lib.hid (show V = 3 by rw [HT.out, HTT.out]; exact if_pos hn)
    have e1 : (4000 : Int) < (tn : Int) := by omega
    go_wp2_with fail
    go_ret
    exact ⟨by rw [HE.out]; rfl, HBX.out⟩
  have HF := Lib.hid (show V = fstE tn (tcE T) 0 by rw [HT.out, HTT.out]; exact if_neg hn)
  have e1 : ¬ (4000 : Int) < (tn : Int) := by omega
  clear HT
  obtain ⟨a1, a2⟩ := area HRC.out.1 HRC.out.2
  obtain ⟨nu, hnq⟩ : ∃ nu : Nat, rows * cols = (nu : Int) := ⟨(rows * cols).toNat, by omega⟩
  have e2 : IntKind.i64.wrap (rows * cols) = rows * cols := IntWalk.i64_in _ ⟨by omega, by omega⟩
  have hmk := fun w => make_used (rows * cols) nu hnq (by omega) w
  have HNQ := Lib.hid hnq
  clear a1 a2 hnq
  go_wp2_with fail
  go_loopw [4, 85] (fun z iv wr => ∃ i : Nat, z = .int .i64 (cntC T i) ∧ iv = .int .i64 i ∧ i ≤ tn ∧ (∀ j, j < i → tcE T j = 0) ∧ Blk wr w.heap.size #[.int .i64 rows, .int .i64 cols, .slice ta tn tc, .int .i64 width, .int .i64 head, .int .i64 align, .int .i64 tnode] 41 ∧ OwnB wr 4 (w.heap.size + 1) nu (flg T i (T.cell i).row (T.cell i).col) ∧ Below w.heap.size w wr) (fun _ iv _ => tn - (intOf iv).toNat)
  case atStart =>
    have hk : (w.alloc (.cells #[.int .i64 rows, .int .i64 cols, .slice ta tn tc, .int .i64 width, .int .i64 head, .int .i64 align, .int .i64 tnode] 41)).heap.size = w.heap.size + 1 := by simp
    refine ⟨0, rfl, rfl, by omega, fun j hj => by omega, (Blk.new _ _ _).alloc _, ?_, HBX.out.alloc (by simp) _⟩
    rw [← hk]
    refine (OwnB.make 4 nu).congr (fun q hq => bool_ext ?_)
    rw [flg_start]
    constructor
    · intro h; cases h
    · rintro ⟨j, hj, _⟩; omega
  case round =>
    obtain ⟨i, rfl, rfl, hi, hno, hblk, hown, hbel⟩ := hrel
    have HNO := Lib.hid hno
    have HBLK := Lib.hid hblk
    have HOWN := Lib.hid hown
    have HBEL := Lib.hid hbel
    have hsz := hbel.size
    have HOWN2 := Lib.hid (show w.heap.size + 1 < wr.heap.size from hown.lt)
    clear hno
    by_cases hin : i < tn
    · have hin2 : (i : Int) < (tn : Int) := by omega
      have hcs := HC.out.1.below (Nat.le_refl _) hbel
      rw [HTT.out] at hcs
      obtain ⟨b, off, hba, hcellG⟩ := hcs (by show 0 < tn; omega)
      have hcell := hcellG i hin
      have hco := (HC.out.2 i (by rw [HTT.out]; exact hin)).below (Nat.le_refl _) hbel
      obtain ⟨x, hx⟩ : ∃ x, x = T.cell i := ⟨_, rfl⟩
      have HX := Lib.hid hx
      rw [← hx] at hco
      simp only at hcell hba
      rw [show tcell i = x by rw [hx, HTT.out]] at hcell
      have HCO := Lib.hid hco
      clear hcellG hcs hco hx
      obtain ⟨row, col, ch, cw, np, ap, cp, par, pad, mn, pref, cnode⟩ := x
      have d0 : wr.cell? ⟨b, off + i * 9, none⟩ = some (.int .i64 row) := hcell 0 (by omega)
      have d1 : wr.cell? ⟨b, off + i * 9 + 1, none⟩ = some (.int .i64 col) := hcell 1 (by omega)
      have d2 : wr.cell? ⟨b, off + i * 9 + 2, none⟩ = some (.int .i64 ch) := hcell 2 (by omega)
      have d3 : wr.cell? ⟨b, off + i * 9 + 3, none⟩ = some (.int .i64 cw) := hcell 3 (by omega)
      have d4 : wr.cell? ⟨b, off + i * 9 + 4, none⟩ = some (.slice ap np cp) := hcell 4 (by omega)
      have d5 : wr.cell? ⟨b, off + i * 9 + 5, none⟩ = some (.int .i64 pad) := hcell 5 (by omega)
      have d6 : wr.cell? ⟨b, off + i * 9 + 6, none⟩ = some (.int .i64 mn) := hcell 6 (by omega)
      have d7 : wr.cell? ⟨b, off + i * 9 + 7, none⟩ = some (.int .i64 pref) := hcell 7 (by omega)
      have d8 : wr.cell? ⟨b, off + i * 9 + 8, none⟩ = some (.int .i64 cnode) := hcell 8 (by omega)
      have zb := lt_of_cell d0
      simp only at zb
      have t0 : wr.cell? ⟨w.heap.size, 0, none⟩ = some (.int .i64 rows) := hblk.cell (i := 0) rfl
      have t1 : wr.cell? ⟨w.heap.size, 1, none⟩ = some (.int .i64 cols) := hblk.cell (i := 1) rfl
      have t2 : wr.cell? ⟨w.heap.size, 2, none⟩ = some (.slice ta tn tc) := hblk.cell (i := 2) rfl
      have t3 : wr.cell? ⟨w.heap.size, 3, none⟩ = some (.int .i64 width) := hblk.cell (i := 3) rfl
      have t4 : wr.cell? ⟨w.heap.size, 4, none⟩ = some (.int .i64 head) := hblk.cell (i := 4) rfl
      have t5 : wr.cell? ⟨w.heap.size, 5, none⟩ = some (.int .i64 align) := hblk.cell (i := 5) rfl
      have t6 : wr.cell? ⟨w.heap.size, 6, none⟩ = some (.int .i64 tnode) := hblk.cell (i := 6) rfl
      have zt := hblk.lt
      clear hcell hblk hown hbel
      subst hba
      go_upto_region 10 with fail
      have HRN := Lib.hid (show (wr.alloc (.cells #[.int .i64 row, .int .i64 col, .int .i64 ch, .int .i64 cw, .slice ap np cp, .int .i64 pad, .int .i64 mn, .int .i64 pref, .int .i64 cnode] 44)).rangeAt wr.heap.size 0 [.int .i64 row, .int .i64 col, .int .i64 ch, .int .i64 cw, .slice ap np cp, .int .i64 pad, .int .i64 mn, .int .i64 pref, .int .i64 cnode] from fun j v hj => by rw [Nat.zero_add]; exact (Blk.new wr _ _).cell (by simpa using hj))
      have HRT := Lib.hid (show (wr.alloc (.cells #[.int .i64 row, .int .i64 col, .int .i64 ch, .int .i64 cw, .slice ap np cp, .int .i64 pad, .int .i64 mn, .int .i64 pref, .int .i64 cnode] 44)).rangeAt w.heap.size 0 [.int .i64 rows, .int .i64 cols, .slice (some ⟨b, off, none⟩) tn tc, .int .i64 width, .int .i64 head, .int .i64 align, .int .i64 tnode] from fun j v hj => by rw [Nat.zero_add]; exact (HBLK.out.alloc _).cell (by simpa using hj))
      refine wp_region_lit ?_
      refine wpList_load_mid rfl 41 _ rfl w.heap.size 0 rfl _ _ HRT.out Try.underlying41 rfl (by kernel_rfl) ?_
      simp only [Act.put, List.setIfInBounds_toArray, List.set_cons_zero, List.set_cons_succ]
      refine wpList_load_mid rfl 44 _ rfl wr.heap.size 0 rfl _ _ HRN.out Try.underlying44 rfl (by kernel_rfl) ?_
      simp only [Act.put, List.setIfInBounds_toArray, List.set_cons_zero, List.set_cons_succ]
      go_wp2_with fail
      refine (cell_any ⟨rows, cols, tn, some ⟨b, off, none⟩, tc, tcell, width, head, align, tnode⟩ ⟨row, col, ch, cw, np, ap, cp, par, pad, mn, pref, cnode⟩ _ (HCO.out.below (Nat.le_refl _) ((Below.refl _ _).alloc (Nat.le_refl _) _)) HRC.out.1 HRC.out.2).mono ?_
      rintro e w2 ⟨rfl, hb2⟩
      have hb3 : Below wr.heap.size wr w2 := ((Below.refl wr.heap.size wr).alloc (Nat.le_refl _) (.cells #[.int .i64 row, .int .i64 col, .int .i64 ch, .int .i64 cw, .slice ap np cp, .int .i64 pad, .int .i64 mn, .int .i64 pref, .int .i64 cnode] 44)).trans (hb2.mono (by simp))
      have HC2 := Lib.hid (show Blk w2 wr.heap.size #[.int .i64 row, .int .i64 col, .int .i64 ch, .int .i64 cw, .slice ap np cp, .int .i64 pad, .int .i64 mn, .int .i64 pref, .int .i64 cnode] 44 from (Blk.new wr _ _).below hb2 (by simp))
      have HT2 := Lib.hid (HBLK.out.below hb3 zt)
      have HO2 := Lib.hid (HOWN.out.block (hb3.block _ HOWN.out.lt))
      have HB2 := Lib.hid (HBEL.out.trans (hb3.mono hsz))
      have HB3 := Lib.hid hb3
      clear hb2 hb3 d0 d1 d2 d3 d4 d5 d6 d7 d8 t0 t1 t2 t3 t4 t5 t6 HBLK HOWN
      by_cases he : cellE rows cols ⟨row, col, ch, cw, np, ap, cp, par, pad, mn, pref, cnode⟩ = 0
      · rw [he]
        have HEZ := Lib.hid he
        clear he
        have hap : w.heap.size + 1 < wr.heap.size := by have := HOWN2.out; omega
        have HS2 := Lib.hid (show CkS w #[.int .i64 rows, .int .i64 cols, .slice (some ⟨b, off, none⟩) tn tc, .int .i64 width, .int .i64 head, .int .i64 align, .int .i64 tnode] #[.int .i64 row, .int .i64 col, .int .i64 ch, .int .i64 cw, .slice ap np cp, .int .i64 pad, .int .i64 mn, .int .i64 pref, .int .i64 cnode] wr.heap.size nu (flg T i (T.cell i).row (T.cell i).col) w2 from ⟨HB2.out, HT2.out, HC2.out, HO2.out, hap⟩)
        clear HT2 HC2 HO2 HB2 HB3 HOWN2
        go_upto_region 13 with fail
        go_cut [133] from 96 to 133 (fun tv wx => tv = .bool (ordB T i) ∧ ∃ n : Nat, wx = w2.drewN n)
        case first =>
          have c0 : w2.cell? ⟨wr.heap.size, 0, none⟩ = some (.int .i64 row) := HS2.out.cel.cell (i := 0) rfl
          have c1 : w2.cell? ⟨wr.heap.size, 1, none⟩ = some (.int .i64 col) := HS2.out.cel.cell (i := 1) rfl
          have t2 : w2.cell? ⟨w.heap.size, 2, none⟩ = some (.slice (some ⟨b, off, none⟩) tn tc) := HS2.out.tab.cell (i := 2) rfl
          by_cases h0 : i = 0
          · have hi0 : decide (0 < i) = false := decide_eq_false (by omega)
            have HOB := Lib.hid (show ordB T i = false from ordB_false.2 (fun h => by have := h.1; omega))
            clear h0
            go_quiet (fail)
            go_wp2_with fail
            go_meet
            exact ⟨by rw [HOB.out], _, rfl⟩
          · obtain ⟨m, hm⟩ : ∃ m, i = m + 1 := ⟨i - 1, by omega⟩
            have hi0 : decide (0 < i) = true := decide_eq_true (by omega)
            have e3 : IntKind.i64.wrap ((i : Int) - 1) = (m : Int) := by rw [IntWalk.i64_in _ ⟨by omega, by omega⟩]; omega
            have hm1 : (m : Int) < (tn : Int) := by omega
            have hcs := HC.out.1.below (Nat.le_refl _) HS2.out.below
            rw [HTT.out] at hcs
            obtain ⟨b', off', hba', hcellG⟩ := hcs (by show 0 < tn; omega)
            simp only [Option.some.injEq, Addr.mk.injEq, and_true] at hba'
            obtain ⟨hb', ho'⟩ := hba'
            subst hb' ho'
            obtain ⟨pr, hpr⟩ : ∃ pr, pr = (tcell m).row := ⟨_, rfl⟩
            obtain ⟨pc, hpc⟩ : ∃ pc, pc = (tcell m).col := ⟨_, rfl⟩
            have p0 : w2.cell? ⟨b, off + m * 9, none⟩ = some (.int .i64 pr) := by rw [hpr]; exact hcellG m (by show m < tn; omega) 0 (by omega)
            have p1 : w2.cell? ⟨b, off + m * 9 + 1, none⟩ = some (.int .i64 pc) := by rw [hpc]; exact hcellG m (by show m < tn; omega) 1 (by omega)
            have HQ := Lib.hid (show ((T.cell i).row = row ∧ (T.cell i).col = col) ∧ (T.cell (i - 1)).row = pr ∧ (T.cell (i - 1)).col = pc from ⟨by rw [← HX.out]; exact ⟨rfl, rfl⟩, by rw [hm, HTT.out]; exact ⟨hpr.symm, hpc.symm⟩⟩)
            have HM := Lib.hid hm
            clear hcellG hcs hpr hpc h0 hm
            by_cases h1 : row < pr
            · have HOB := Lib.hid (show ordB T i = true from ordB_true.2 ⟨by have := HM.out; omega, by have := HQ.out; omega⟩)
              have f1 : decide (row < pr) = true := decide_eq_true h1
              clear h1
              go_quiet (fail)
              go_wp2_with fail
              go_meet
              exact ⟨by rw [HOB.out], _, rfl⟩
            · have f1 : decide (row < pr) = false := decide_eq_false h1
              by_cases h2 : row = pr
              · have f2 : (row == pr) = true := by simpa using h2
                by_cases h3 : col ≤ pc
                · have HOB := Lib.hid (show ordB T i = true from ordB_true.2 ⟨by have := HM.out; omega, by have := HQ.out; omega⟩)
                  have f3 : decide (col ≤ pc) = true := decide_eq_true h3
                  clear h1 h2 h3
                  go_quiet (fail)
                  go_wp2_with fail
                  go_meet
                  exact ⟨by rw [HOB.out], _, rfl⟩
                · have HOB := Lib.hid (show ordB T i = false from ordB_false.2 (fun h => by have := h.2; have := HQ.out; omega))
                  have f3 : decide (col ≤ pc) = false := decide_eq_false h3
                  clear h1 h2 h3
                  go_quiet (fail)
                  go_wp2_with fail
                  go_meet
                  exact ⟨by rw [HOB.out], _, rfl⟩
              · have HOB := Lib.hid (show ordB T i = false from ordB_false.2 (fun h => by have := h.2; have := HQ.out; omega))
                have f3 : (row == pr) = false := by simpa using h2
                clear h1 h2
                go_quiet (fail)
                go_wp2_with fail
                go_meet
                exact ⟨by rw [HOB.out], _, rfl⟩
        case rest =>
        obtain ⟨rfl, nd, hw3⟩ := hcut
        have HS3 := Lib.hid (show CkS w _ _ _ _ _ wc from by rw [hw3]; exact HS2.out.drewN nd)
        clear hw3 HS2
        have HEC := Lib.hid (show cellE T.rows T.cols (T.cell i) = 0 by rw [← HX.out, HTT.out]; exact HEZ.out)
        cases hob : ordB T i
        · have HOR := Lib.hid (ordB_false.1 hob)
          clear hob
          go_upto_region 15 with fail
          have htr : T.rows = rows ∧ T.cols = cols := by rw [HTT.out]; exact ⟨rfl, rfl⟩
          have hxr : ((T.cell i).row = row ∧ (T.cell i).col = col) ∧ ((T.cell i).h = ch ∧ (T.cell i).w = cw) ∧ (T.cell i).np = np ∧ (T.cell i).par = par := by rw [← HX.out]; exact ⟨⟨rfl, rfl⟩, ⟨rfl, rfl⟩, rfl, rfl⟩
          have HTR := Lib.hid htr
          have HXR := Lib.hid hxr
          have hbd := cellE_in HEC.out
          rw [htr.1, htr.2, hxr.1.1, hxr.1.2, hxr.2.1.1, hxr.2.1.2] at hbd
          have HRC2 := HRC.out
          obtain ⟨⟨b1, b2, b3⟩, b4, b5, b6⟩ := hbd
          obtain ⟨⟨b7, b8⟩, b9, b10⟩ := HRC2
          have HBD := Lib.hid (show (0 ≤ row ∧ 1 ≤ ch ∧ row + ch ≤ rows) ∧ (0 ≤ col ∧ 1 ≤ cw ∧ col + cw ≤ cols) from ⟨⟨b1, b2, b3⟩, b4, b5, b6⟩)
          clear htr hxr
          obtain ⟨wo, rfl⟩ : ∃ wo : World, wo = wr := ⟨_, rfl⟩
          obtain ⟨kc, hkc⟩ : ∃ kc, kc = wo.heap.size := ⟨_, rfl⟩
          rw [← hkc] at HS3 ⊢
          clear hkc
          obtain ⟨tbA, htb⟩ : ∃ y : Array Value, y = #[.int .i64 rows, .int .i64 cols, .slice (some ⟨b, off, none⟩) tn tc, .int .i64 width, .int .i64 head, .int .i64 align, .int .i64 tnode] := ⟨_, rfl⟩
          obtain ⟨cbA, hcb⟩ : ∃ y : Array Value, y = #[.int .i64 row, .int .i64 col, .int .i64 ch, .int .i64 cw, .slice ap np cp, .int .i64 pad, .int .i64 mn, .int .i64 pref, .int .i64 cnode] := ⟨_, rfl⟩
          have HS4 := Lib.hid (show CkS w tbA cbA kc nu (flg T i row col) wc from by rw [htb, hcb]; have := HS3.out; rw [HXR.out.1.1, HXR.out.1.2] at this; exact this)
          have HTB := Lib.hid (show tbA[1]? = some (.int .i64 cols) ∧ tbA[2]? = some (.slice (some ⟨b, off, none⟩) tn tc) by rw [htb]; exact ⟨rfl, rfl⟩)
          have HCB := Lib.hid (show (cbA[0]? = some (.int .i64 row) ∧ cbA[1]? = some (.int .i64 col)) ∧ (cbA[2]? = some (.int .i64 ch) ∧ cbA[3]? = some (.int .i64 cw)) ∧ cbA[4]? = some (.slice ap np cp) by rw [hcb]; exact ⟨⟨rfl, rfl⟩, ⟨rfl, rfl⟩, rfl⟩)
          have HTBE := Lib.hid htb
          clear htb hcb HS3
          have HFREE := Lib.hid (show freeTo T i row col from by have := free_start T i; rw [HXR.out.1.1, HXR.out.1.2] at this; exact this)
          have c0 : wc.cell? ⟨kc, 0, none⟩ = some (.int .i64 row) := HS4.out.cel.cell HCB.out.1.1
          go_wp2_with fail
          go_loopw [8] (fun rv wx => ∃ r : Int, rv = .int .i64 r ∧ row ≤ r ∧ r ≤ row + ch ∧ freeTo T i r col ∧ CkS w tbA cbA kc nu (flg T i r col) wx) (fun rv _ => (row + ch - intOf rv).toNat)
          case atStart => exact ⟨row, rfl, by omega, by omega, HFREE.out, HS4.out⟩
          case round =>
            clear c0 HS4 HFREE
            obtain ⟨r, rfl, hr1, hr2, hfr, hS⟩ := hrel
            obtain ⟨wa, rfl⟩ : ∃ wa : World, wa = wr := ⟨_, rfl⟩
            have HFR := Lib.hid hfr
            have HS := Lib.hid hS
            clear hfr hS
            have c0 : wa.cell? ⟨kc, 0, none⟩ = some (.int .i64 row) := HS.out.cel.cell HCB.out.1.1
            have c1 : wa.cell? ⟨kc, 1, none⟩ = some (.int .i64 col) := HS.out.cel.cell HCB.out.1.2
            have c2 : wa.cell? ⟨kc, 2, none⟩ = some (.int .i64 ch) := HS.out.cel.cell HCB.out.2.1.1
            by_cases hlt : r < row + ch
            · go_wp2_with fail
              go_loopw [9] (fun cv wx => ∃ c : Int, cv = .int .i64 c ∧ col ≤ c ∧ c ≤ col + cw ∧ freeTo T i r c ∧ CkS w tbA cbA kc nu (flg T i r c) wx) (fun cv _ => (col + cw - intOf cv).toNat)
              case atStart => exact ⟨col, rfl, by omega, by omega, HFR.out, HS.out⟩
              case round =>
                clear c0 c1 c2 HS HFR
                obtain ⟨c, rfl, hc1, hc2, hfc, hS⟩ := hrel
                have HFR := Lib.hid hfc
                have HS := Lib.hid hS
                clear hfc hS
                have c1 : wr.cell? ⟨kc, 1, none⟩ = some (.int .i64 col) := HS.out.cel.cell HCB.out.1.2
                have c3 : wr.cell? ⟨kc, 3, none⟩ = some (.int .i64 cw) := HS.out.cel.cell HCB.out.2.1.2
                by_cases hlt2 : c < col + cw
                · have hra := (area HRC.out.1 HRC.out.2).2
                  obtain ⟨f1, f2⟩ := flat_lt (r := r) (c := c) (rows := rows) (cols := cols) (by omega) (by omega) (by omega) (by omega)
                  obtain ⟨p, hp⟩ : ∃ p : Nat, (p : Int) = r * cols + c := ⟨(r * cols + c).toNat, by omega⟩
                  have hpq : (p : Int) < (nu : Int) := by have := HNQ.out; omega
                  have hpq2 : p < nu := by omega
                  have e1 : IntKind.i64.wrap (r * cols) = r * cols := IntWalk.i64_in _ ⟨by omega, by omega⟩
                  have e2 : IntKind.i64.wrap (r * cols + c) = (p : Int) := by rw [IntWalk.i64_in _ ⟨by omega, by omega⟩, hp]
                  have HP := Lib.hid hp
                  have t1 : wr.cell? ⟨w.heap.size, 1, none⟩ = some (.int .i64 cols) := HS.out.tab.cell HTB.out.1
                  have u0 := HS.out.own.cell hpq2
                  have u1 := HS.out.own.frozen p
                  have HIN := Lib.hid (show inR (T.cell i) r c from by have := HXR.out; unfold inR; omega)
                  have HHIT := Lib.hid (flg_hit T i r c p HIN.out (by omega) (by rw [HTR.out.2]; omega) (by rw [HTR.out.2]; exact hp))
                  clear hp f1 f2 hra
                  obtain ⟨FB, hFB⟩ : ∃ FB, FB = flg T i r c p := ⟨_, rfl⟩
                  rw [← hFB] at u0 HHIT
                  clear hFB
                  cases FB
                  · have HNM := Lib.hid (show ¬ mkd T i r c from fun h => by have := HHIT.out.2 h; cases this)
                    clear HHIT
                    go_wp2_with fail
                    go_roundw
                    case rel => exact ⟨c + 1, rfl, by omega, by omega, free_step HFR.out HNM.out, (HS.out.put p).congr (fun q hq => flg_put T i r c p (by rw [HTR.out.2]; omega) HIN.out (by omega) (by rw [HTR.out.2]; omega) (by rw [HTR.out.2]; exact HP.out) q)⟩
                    case measure => simp [intOf]; omega
                  · have HE := Lib.hid (show V = 6 by
                      have h6 := tcE_hit HEC.out HOR.out (hit_of_mkd HIN.out (HHIT.out.1 rfl))
                      rw [HF.out, fstE_some hin HNO.out (by rw [h6]; omega), h6])
                    clear HHIT
                    go_wp2_with fail
                    go_ret
                    exact ⟨by rw [HE.out]; rfl, HS.out.below⟩
                · have hce : col + cw ≤ c := by omega
                  clear hc1 hc2
                  go_wp2_with fail
                  go_roundw
                  case rel => exact ⟨r + 1, rfl, by omega, by omega, free_row' HXR.out HFR.out hce, HS.out.congr (fun q hq => flg_row' HXR.out r c q hce)⟩
                  case measure => simp [intOf]; omega
            · have hre : row + ch ≤ r := by omega
              have HNH := Lib.hid (show ¬ hitBad T i from free_done' HXR.out HFR.out hre (fun j hj => by
                have hz : cellE T.rows T.cols (T.cell j) = 0 := by
                  rcases Nat.lt_or_ge j i with h | h
                  · exact (tcE_zero (HNO.out j h)).1
                  · rw [show j = i by omega]; exact HEC.out
                have := cellE_in hz
                omega))
              have HS6 := Lib.hid (show CkS w tbA cbA kc nu (flg T (i + 1) (T.cell (i + 1)).row (T.cell (i + 1)).col) wa from HS.out.congr (fun q hq => flg_done' HXR.out r q hre))
              have c4 : wa.cell? ⟨kc, 4, none⟩ = some (.slice ap np cp) := HS6.out.cel.cell HCB.out.2.2
              clear HFR HS c1
              go_upto_region 24 with fail
              have hcb := cntC_prev HNO.out
              have HC1 := Lib.hid (show cntC T (i + 1) = cntC T i + cntP (T.cell i) np by show cntC T i + cntP (T.cell i) (T.cell i).np = _; rw [HXR.out.2.2.1])
              obtain ⟨C0, hC0⟩ : ∃ C0, C0 = cntC T i := ⟨_, rfl⟩
              rw [← hC0] at hcb ⊢
              have HC0 := Lib.hid hC0
              clear hC0
              obtain ⟨c01, c02⟩ := hcb
              go_wp2_with fail
              go_loopw [4, 176] (fun zv kv wy => ∃ k : Nat, zv = .int .i64 (C0 + cntP (T.cell i) k) ∧ kv = .int .i64 k ∧ k ≤ np ∧ Below wa.heap.size wa wy) (fun _ kv _ => np - (intOf kv).toNat)
              case atStart => exact ⟨0, by show _ = Value.int .i64 (C0 + 0); rw [Int.add_zero], rfl, by omega, Below.refl _ _⟩
              case round =>
                obtain ⟨k, rfl, rfl, hk, hbl⟩ := hrel
                have hp0 := cntP_in HEC.out k (by rw [HXR.out.2.2.1]; exact hk)
                obtain ⟨S, hS⟩ : ∃ S, S = C0 + cntP (T.cell i) k := ⟨_, rfl⟩
                rw [← hS]
                have s1 : 0 ≤ S := by omega
                have s2 : S ≤ 250000 := by omega
                have HBL := Lib.hid hbl
                have HSE := Lib.hid hS
                have hszl := hbl.size
                have hn50 := (cellE_pars HEC.out).1
                rw [HXR.out.2.2.1] at hn50
                clear hbl hS hp0 c4
                by_cases hkn : k < np
                · have hkn2 : (k : Int) < (np : Int) := by omega
                  have HBW := Lib.hid (HS6.out.below.trans (HBL.out.mono HS6.out.below.size))
                  have hco2 := (HC.out.2 i (by rw [HTT.out]; exact hin)).below (Nat.le_refl _) HBW.out
                  rw [← HX.out] at hco2
                  obtain ⟨b, off, hba, hcellG⟩ := hco2.1 (by show 0 < np; omega)
                  have hcell := hcellG k hkn
                  simp only at hcell hba
                  have HPK := Lib.hid (show cntP (T.cell i) (k + 1) = cntP (T.cell i) k + ((par k).n : Int) by show cntP (T.cell i) k + (((T.cell i).par k).n : Int) = _; rw [HXR.out.2.2.2])
                  have hql := parE_len ((cellE_pars HEC.out).2 k (by rw [HXR.out.2.2.1]; exact hkn))
                  rw [HXR.out.2.2.2] at hql
                  clear hcellG hco2
                  obtain ⟨x, hx⟩ : ∃ x, x = par k := ⟨_, rfl⟩
                  rw [← hx] at hcell
                  have HX := Lib.hid hx
                  have HRG := Lib.hid (row_range hcell x.cells rfl (fun j hj => rfl))
                  have zb := row_lt hcell
                  obtain ⟨qn, qa, qc, qit, qsize, qbold, qfixed, qalign, qdir, qleft, qright, qfirst, qbefore, qafter, qline, qkeep, qnext, qwidow, qorphan, qahead⟩ := x
                  clear hcell hx
                  rw [← HX.out] at hql
                  simp only at hql
                  have HPK2 := Lib.hid (show cntP (T.cell i) (k + 1) = cntP (T.cell i) k + (qn : Int) by rw [HPK.out, ← HX.out])
                  clear HPK
                  subst hba
                  go_upto_region 26 with fail
                  refine wp_region_lit ?_
                  refine cut_at 1 (fun R hR => ?_)
                  have HRAa := Lib.hid hR
                  clear hR
                  simp only [List.take_succ_cons, List.take_zero, List.cons_append, List.nil_append]
                  go_wp2_with fail
                  rw [HRAa.out]
                  simp only [List.drop_succ_cons, List.drop_zero]
                  refine wpList_load_mid rfl 62 _ rfl b (off + k * 17) rfl _ _ HRG.out Try.underlying62 rfl (by kernel_rfl) ?_
                  simp only [Act.put, List.setIfInBounds_toArray, List.set_cons_zero, List.set_cons_succ]
                  refine cut_at 1 (fun R hR => ?_)
                  have HRAb := Lib.hid hR
                  clear hR
                  simp only [List.take_succ_cons, List.take_zero, List.cons_append, List.nil_append]
                  go_wp2_with fail
                  rw [HRAb.out]
                  simp only [List.drop_succ_cons, List.drop_zero]
                  refine st_store_new rfl 62 _ _ rfl _ #[.slice qa qn qc, .int .i64 qsize, .bool qbold, .bool qfixed, .int .i64 qalign, .int .i64 qdir, .int .i64 qleft, .int .i64 qright, .int .i64 qfirst, .int .i64 qbefore, .int .i64 qafter, .int .i64 qline, .bool qkeep, .bool qnext, .int .i64 qwidow, .int .i64 qorphan, .int .i64 qahead] rfl rfl (by kernel_rfl) rfl (by kernel_rfl) ?_
                  simp only [Act.put]
                  go_upto_region 28 with fail
                  go_wp2_with fail
                  go_roundw
                  case rel => exact ⟨k + 1, congrArg (Value.int .i64) (show S + (qn : Int) = C0 + cntP (T.cell i) (k + 1) by rw [HPK2.out, HSE.out]; omega), by go_num, by omega, HBL.out.trans (((Below.refl wr.heap.size wr).alloc (Nat.le_refl _) _).mono hszl)⟩
                  case measure => simp [intOf]; omega
                · obtain rfl : np = k := by omega
                  have HCN := Lib.hid (show cntC T (i + 1) = S by rw [HC1.out, HSE.out, HC0.out])
                  have hnn : ¬ (np : Int) < (np : Int) := by omega
                  by_cases hbig : 100000 < S
                  · have HE := Lib.hid (show V = 3 by
                      have h3 := tcE_big HEC.out HOR.out HNH.out (by rw [HCN.out]; exact hbig)
                      rw [HF.out, fstE_some hin HNO.out (by rw [h3]; omega), h3])
                    go_wp2_with fail
                    go_ret
                    exact ⟨by rw [HE.out]; rfl, HS6.out.below.trans (HBL.out.mono HS6.out.below.size)⟩
                  · have HFI := Lib.hid (tcE_fine HEC.out HOR.out HNH.out (by rw [HCN.out]; exact hbig))
                    go_wp2_with fail
                    go_roundw
                    case rel =>
                      refine ⟨i + 1, congrArg (Value.int .i64) HCN.out.symm, by go_num, by omega, fun j hj => ?_, by rw [← HTBE.out]; exact HS6.out.tab.below HBL.out HS6.out.tab.lt, HS6.out.own.block (HBL.out.block _ HS6.out.own.lt), HS6.out.below.trans (HBL.out.mono HS6.out.below.size)⟩
                      rcases Nat.lt_or_ge j i with h | h
                      · exact HNO.out j h
                      · rw [show j = i by omega]; exact HFI.out
                    case measure => simp [intOf]; omega
        · have HE := Lib.hid (show V = 5 by
            have h5 := tcE_ord HEC.out (ordB_true.1 hob)
            rw [HF.out, fstE_some hin HNO.out (by rw [h5]; omega), h5])
          clear hob
          go_wp2_with fail
          go_ret
          exact ⟨by rw [HE.out]; rfl, HS3.out.below⟩
      · have HE := Lib.hid (show V = cellE rows cols ⟨row, col, ch, cw, np, ap, cp, par, pad, mn, pref, cnode⟩ by
          have hq : cellE T.rows T.cols (T.cell i) = cellE rows cols ⟨row, col, ch, cw, np, ap, cp, par, pad, mn, pref, cnode⟩ := by rw [← HX.out, HTT.out]
          have h1 : tcE T i = cellE T.rows T.cols (T.cell i) := by unfold tcE; exact if_pos (by rw [hq]; exact he)
          rw [HF.out, fstE_some hin HNO.out (by rw [h1, hq]; exact he), h1, hq])
        have f1 : (cellE rows cols ⟨row, col, ch, cw, np, ap, cp, par, pad, mn, pref, cnode⟩ != 0) = true := by simpa using he
        clear he
        go_wp2_with fail
        go_ret
        exact ⟨by rw [HE.out]; rfl, HB2.out⟩
    · obtain rfl : i = tn := by omega
      have hin2 : ¬ ((i : Nat) : Int) < (i : Int) := by omega
      have HE := Lib.hid (show V = 0 by rw [HF.out, fstE_none HNO.out])
      go_wp2_with fail
      go_ret
      exact ⟨by rw [HE.out]; rfl, HBEL.out⟩
end Go.Proofs.Ytabnohphgegflaa.TB
