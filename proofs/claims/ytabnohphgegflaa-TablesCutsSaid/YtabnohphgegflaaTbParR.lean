

/-
  The reference checks a paragraph.
-/
import Derived.Test.YtabnohphgegflaaTbItem
import Derived.Test.YtabnohphgegflaaSteps
import Derived.BigCall
import Derived.BigGuard
namespace Go.Proofs.Ytabnohphgegflaa.TB
open Go.RowKit Go.Law Go.Law.Tb Ref
set_option linter.unusedVariables false
set_option linter.unusedSimpArgs false
set_option maxRecDepth 100000
theorem lookR_any (s : Int) (b f : Bool) (w : World) : Calls Try.prog 27 #[.agg #[.int .i64 s, .bool b, .bool f]] w fun e w' => e = .returned (.int .i64 (lookE s)) ∧ Below w.heap.size w w' := by
  by_cases h : s < 40 ∨ 4000 < s
  · have e1 : inB s 40 4000 = false := by rw [inB_false]; omega
    rw [show lookE s = 2 by unfold lookE; rw [if_pos h]]
    clear h
    go_enter Try.func27, Try.ntmps27
    go_wp2_with fail
    refine (in_any _ _ _ _).mono ?_
    rintro e w2 ⟨rfl, rfl⟩
    rw [e1]
    go_wp2_with fail
    go_ret
    exact ⟨rfl, (Below.refl _ _).alloc (Nat.le_refl _) _⟩
  · have e1 : inB s 40 4000 = true := by rw [inB_true]; omega
    rw [show lookE s = 0 by unfold lookE; rw [if_neg h]]
    clear h
    go_enter Try.func27, Try.ntmps27
    go_wp2_with fail
    refine (in_any _ _ _ _).mono ?_
    rintro e w2 ⟨rfl, rfl⟩
    rw [e1]
    go_wp2_with fail
    go_ret
    exact ⟨rfl, (Below.refl _ _).alloc (Nat.le_refl _) _⟩
set_option maxHeartbeats 8000000 in
theorem parError_any (p : ParD) (w : World) (hp : ParOk w p) : Calls Try.prog 23 #[.agg p.cells.toArray] w fun e w' => e = .returned (.int .i64 (parE p)) ∧ Below w.heap.size w w' := by
  obtain ⟨V, hV⟩ : ∃ V, V = parE p := ⟨_, rfl⟩
  rw [← hV]
  have HV := Lib.hid hV
  clear hV
  obtain ⟨pn, pa, pc, it, psize, pbold, pfixed, align, dir, left, right, first, before, after, line, keep, next, widow, orphan, ahead⟩ := p
  have HP := Lib.hid (show CellsF w pa pn 9 (fun i => (it i).V) from hp)
  unfold ParD.cells
  clear hp
  by_cases hn : 3000 < pn
  · have HE := Lib.hid (show V = 3 by rw [HV.out]; unfold parE; rw [if_pos hn])
    have e1 : (3000 : Int) < (pn : Int) := by omega
    go_enter Try.func23, Try.ntmps23
    go_wp2_with fail
    go_ret
    exact ⟨by rw [HE.out]; rfl, (Below.refl _ _).alloc (Nat.le_refl _) _⟩
  have e1 : ¬ (3000 : Int) < (pn : Int) := by omega
  obtain ⟨T, hT⟩ : ∃ T, T = tlE ⟨pn, pa, pc, it, psize, pbold, pfixed, align, dir, left, right, first, before, after, line, keep, next, widow, orphan, ahead⟩ := ⟨_, rfl⟩
  have HT := Lib.hid hT
  have HF := Lib.hid (show V = fstE pn (sE it) T by rw [HV.out, hT]; unfold parE; rw [if_neg hn])
  clear hT HV
  go_enter Try.func23, Try.ntmps23
  go_wp2_with fail
  obtain ⟨wb, hwb⟩ : ∃ wb, wb = w.alloc (.cells #[.slice pa pn pc, .int .i64 psize, .bool pbold, .bool pfixed, .int .i64 align, .int .i64 dir, .int .i64 left, .int .i64 right, .int .i64 first, .int .i64 before, .int .i64 after, .int .i64 line, .bool keep, .bool next, .int .i64 widow, .int .i64 orphan, .int .i64 ahead] 62) := ⟨_, rfl⟩
  obtain ⟨g, hg⟩ : ∃ g, g = w.heap.size := ⟨_, rfl⟩
  have HBK := Lib.hid (show Blk wb g #[.slice pa pn pc, .int .i64 psize, .bool pbold, .bool pfixed, .int .i64 align, .int .i64 dir, .int .i64 left, .int .i64 right, .int .i64 first, .int .i64 before, .int .i64 after, .int .i64 line, .bool keep, .bool next, .int .i64 widow, .int .i64 orphan, .int .i64 ahead] 62 by rw [hwb, hg]; exact Blk.new _ _ _)
  have HBB := Lib.hid (show Below w.heap.size w wb by rw [hwb]; exact (Below.refl _ _).alloc (Nat.le_refl _) _)
  have hgl : g < wb.heap.size := HBK.out.lt
  have HGE := Lib.hid (show w.heap.size ≤ wb.heap.size from HBB.out.size)
  rw [← hwb, ← hg]
  clear hwb hg
  go_loopw [3, 14] (fun fv iv wr => ∃ i : Nat, iv = .int .i64 i ∧ i ≤ pn ∧ fv = .int .i64 (fl it i) ∧ fl it i ≤ 4 ∧ (∀ j, j < i → sE it j = 0) ∧ Below wb.heap.size wb wr) (fun _ iv _ => pn - (intOf iv).toNat)
  case atStart => exact ⟨0, rfl, by omega, rfl, by show 0 ≤ 4; omega, fun j hj => by omega, Below.refl _ _⟩
  case round =>
    obtain ⟨i, rfl, hi, rfl, hfl, hno, hbel⟩ := hrel
    have HNO := Lib.hid hno
    have HBEL := Lib.hid hbel
    have HBW := Lib.hid (HBB.out.trans (hbel.mono HGE.out))
    have hsz := hbel.size
    obtain ⟨FL, hFL⟩ : ∃ FL, FL = fl it i := ⟨_, rfl⟩
    have HFL := Lib.hid hFL
    rw [← hFL] at hfl ⊢
    clear hno hbel hFL
    by_cases hin : i < pn
    · have hin2 : (i : Int) < (pn : Int) := by omega
      obtain ⟨b, off, hba, hcellG⟩ := (HP.out.below (Nat.le_refl _) HBW.out) (by show 0 < pn; omega)
      have hcell := hcellG i (by show i < pn; omega)
      obtain ⟨x, hx⟩ : ∃ x, x = it i := ⟨_, rfl⟩
      simp only at hcell hba
      rw [← hx] at hcell
      have HX := Lib.hid hx
      obtain ⟨kind, char, size, bold, fixed, iw, ih, node, frm⟩ := x
      have d0 : (wr).cell? ⟨b, off + i * 9, none⟩ = some (.int .i64 kind) := hcell 0 (by omega)
      have d1 : (wr).cell? ⟨b, off + i * 9 + 1, none⟩ = some (.int .i64 char) := hcell 1 (by omega)
      have d2 : (wr).cell? ⟨b, off + i * 9 + 2, none⟩ = some (.int .i64 size) := hcell 2 (by omega)
      have d3 : (wr).cell? ⟨b, off + i * 9 + 3, none⟩ = some (.bool bold) := hcell 3 (by omega)
      have d4 : (wr).cell? ⟨b, off + i * 9 + 4, none⟩ = some (.bool fixed) := hcell 4 (by omega)
      have d5 : (wr).cell? ⟨b, off + i * 9 + 5, none⟩ = some (.int .i64 iw) := hcell 5 (by omega)
      have d6 : (wr).cell? ⟨b, off + i * 9 + 6, none⟩ = some (.int .i64 ih) := hcell 6 (by omega)
      have d7 : (wr).cell? ⟨b, off + i * 9 + 7, none⟩ = some (.int .i64 node) := hcell 7 (by omega)
      have d8 : (wr).cell? ⟨b, off + i * 9 + 8, none⟩ = some (.int .i64 frm) := hcell 8 (by omega)
      have zb := lt_of_cell d0
      simp only at zb
      clear hcell hcellG hx
      subst hba
      obtain ⟨IE, hIE⟩ : ∃ IE, IE = itemE ⟨kind, char, size, bold, fixed, iw, ih, node, frm⟩ := ⟨_, rfl⟩
      have HIE := Lib.hid hIE
      clear hIE
      have HERR := Lib.hid (show ∀ e : Int, IE = e → e ≠ 0 → V = e from fun e h1 h2 => by
        have h3 : sE it i = e := by
          unfold sE
          rw [← HX.out, ← HIE.out, h1, if_pos h2]
        rw [HF.out, fstE_some hin HNO.out (by rw [h3]; exact h2), h3])
      go_upto_region 7 with fail
      obtain ⟨w2, hw2⟩ : ∃ w2, w2 = wr.alloc (.cells #[.int .i64 kind, .int .i64 char, .int .i64 size, .bool bold, .bool fixed, .int .i64 iw, .int .i64 ih, .int .i64 node, .int .i64 frm] 68) := ⟨_, rfl⟩
      have y0 : w2.cell? ⟨wr.heap.size, 0, none⟩ = some (.int .i64 kind) := by rw [hw2]; exact (Blk.new wr _ _).cell (i := 0) rfl
      have y1 : w2.cell? ⟨wr.heap.size, 1, none⟩ = some (.int .i64 char) := by rw [hw2]; exact (Blk.new wr _ _).cell (i := 1) rfl
      have y2 : w2.cell? ⟨wr.heap.size, 2, none⟩ = some (.int .i64 size) := by rw [hw2]; exact (Blk.new wr _ _).cell (i := 2) rfl
      have y3 : w2.cell? ⟨wr.heap.size, 3, none⟩ = some (.bool bold) := by rw [hw2]; exact (Blk.new wr _ _).cell (i := 3) rfl
      have y4 : w2.cell? ⟨wr.heap.size, 4, none⟩ = some (.bool fixed) := by rw [hw2]; exact (Blk.new wr _ _).cell (i := 4) rfl
      have y5 : w2.cell? ⟨wr.heap.size, 5, none⟩ = some (.int .i64 iw) := by rw [hw2]; exact (Blk.new wr _ _).cell (i := 5) rfl
      have y6 : w2.cell? ⟨wr.heap.size, 6, none⟩ = some (.int .i64 ih) := by rw [hw2]; exact (Blk.new wr _ _).cell (i := 6) rfl
      have y7 : w2.cell? ⟨wr.heap.size, 7, none⟩ = some (.int .i64 node) := by rw [hw2]; exact (Blk.new wr _ _).cell (i := 7) rfl
      have y8 : w2.cell? ⟨wr.heap.size, 8, none⟩ = some (.int .i64 frm) := by rw [hw2]; exact (Blk.new wr _ _).cell (i := 8) rfl
      have HB2 := Lib.hid (show Below wr.heap.size wr w2 by rw [hw2]; exact (Below.refl wr.heap.size wr).alloc (Nat.le_refl _) _)
      have zl : wr.heap.size < w2.heap.size := lt_of_cell y0
      have HBW2 := Lib.hid (HBW.out.trans (HB2.out.mono HBW.out.size))
      have HBE2 := Lib.hid (HBEL.out.trans (HB2.out.mono hsz))
      rw [← hw2]
      clear hw2 d0 d1 d2 d3 d4 d5 d6 d7 d8 zb
      go_upto_block 2 with fail
      go_cut [6, 21] from 18 to 117 (fun cv xv wx => IE = 0 ∧ Below w2.heap.size w2 wx)
      case first =>
        by_cases hk : kind < 0 ∨ 4 < kind
        · have i1 : inB kind 0 4 = false := by rw [inB_false]; omega
          have HE := Lib.hid (HERR.out 8 (by rw [HIE.out]; exact it_kind hk) (by decide))
          go_wp2_with (go_at_call 21; refine (in_any _ _ _ _).mono ?_; rintro e w' ⟨rfl, rfl⟩; first | rw [i1] | rw [i2] | rw [i3] | rw [i4] | rw [i5] | rw [i6] | rw [i7])
          go_ret
          exact ⟨by rw [HE.out]; rfl, HBW2.out⟩
        have i1 : inB kind 0 4 = true := by rw [inB_true]; omega
        by_cases hfr : frm < 0 ∨ 1073741824 < frm
        · have i2 : inB frm 0 1073741824 = false := by rw [inB_false]; omega
          have HE := Lib.hid (HERR.out 2 (by rw [HIE.out]; exact it_frm hk hfr) (by decide))
          go_wp2_with (go_at_call 21; refine (in_any _ _ _ _).mono ?_; rintro e w' ⟨rfl, rfl⟩; first | rw [i1] | rw [i2] | rw [i3] | rw [i4] | rw [i5] | rw [i6] | rw [i7])
          go_ret
          exact ⟨by rw [HE.out]; rfl, HBW2.out⟩
        have i2 : inB frm 0 1073741824 = true := by rw [inB_true]; omega
        by_cases hk0 : kind = 0
        · have HC := Lib.hid (it_char (x := ⟨kind, char, size, bold, fixed, iw, ih, node, frm⟩) hk0 hfr)
          have f0 : (kind == 0) = true := by simpa using hk0
          have f4 : (kind == 4) = false := by simp; omega
          have HK0 := Lib.hid hk0
          clear hk0 hk hfr
          by_cases h1 : iw = 0
          case neg =>
            have g1 : (iw != 0) = true := by simpa using h1
            have HE := Lib.hid (HERR.out 4 (by rw [HIE.out]; rw [HC.out, if_pos (.inl h1)]) (by decide))
            go_wp2_with (go_at_call 21; refine (in_any _ _ _ _).mono ?_; rintro e w' ⟨rfl, rfl⟩; first | rw [i1] | rw [i2] | rw [i3] | rw [i4] | rw [i5] | rw [i6] | rw [i7])
            go_ret
            exact ⟨by rw [HE.out]; rfl, HBW2.out⟩
          have g1 : (iw != 0) = false := by simpa using h1
          by_cases h2 : ih = 0
          case neg =>
            have g2 : (ih != 0) = true := by simpa using h2
            have h1 := Lib.hid h1
            have HE := Lib.hid (HERR.out 4 (by rw [HIE.out]; rw [HC.out, if_pos (.inr h2)]) (by decide))
            go_wp2_with (go_at_call 21; refine (in_any _ _ _ _).mono ?_; rintro e w' ⟨rfl, rfl⟩; first | rw [i1] | rw [i2] | rw [i3] | rw [i4] | rw [i5] | rw [i6] | rw [i7])
            go_ret
            exact ⟨by rw [HE.out]; rfl, HBW2.out⟩
          have g2 : (ih != 0) = false := by simpa using h2
          have HC2 := Lib.hid (HC.out.trans (if_neg (by simp only; omega)))
          clear h1 h2
          by_cases h3 : char = 10
          · have g3 : (char == 10) = true := by simpa using h3
            have h3 := Lib.hid h3
            have HE := Lib.hid (HERR.out 2 (by rw [HIE.out]; rw [HC2.out, if_pos (.inr (.inr h3.out))]) (by decide))
            go_wp2_with (go_at_call 21; refine (in_any _ _ _ _).mono ?_; rintro e w' ⟨rfl, rfl⟩; first | rw [i1] | rw [i2] | rw [i3] | rw [i4] | rw [i5] | rw [i6] | rw [i7])
            go_ret
            exact ⟨by rw [HE.out]; rfl, HBW2.out⟩
          have g3 : (char == 10) = false := by simpa using h3
          by_cases h4 : char < 0 ∨ 1114111 < char
          · have i3 : inB char 0 1114111 = false := by rw [inB_false]; omega
            have HE := Lib.hid (HERR.out 2 (by rw [HIE.out]; rw [HC2.out, if_pos (.inl h4)]) (by decide))
            go_wp2_with (go_at_call 21; refine (in_any _ _ _ _).mono ?_; rintro e w' ⟨rfl, rfl⟩; first | rw [i1] | rw [i2] | rw [i3] | rw [i4] | rw [i5] | rw [i6] | rw [i7])
            go_ret
            exact ⟨by rw [HE.out]; rfl, HBW2.out⟩
          have i3 : inB char 0 1114111 = true := by rw [inB_true]; omega
          by_cases h5 : node < 0 ∨ 1073741824 < node
          · have i4 : inB node 0 1073741824 = false := by rw [inB_false]; omega
            have HE := Lib.hid (HERR.out 2 (by rw [HIE.out]; rw [HC2.out, if_pos (.inr (.inl h5))]) (by decide))
            go_wp2_with (go_at_call 21; refine (in_any _ _ _ _).mono ?_; rintro e w' ⟨rfl, rfl⟩; first | rw [i1] | rw [i2] | rw [i3] | rw [i4] | rw [i5] | rw [i6] | rw [i7])
            go_ret
            exact ⟨by rw [HE.out]; rfl, HBW2.out⟩
          have i4 : inB node 0 1073741824 = true := by rw [inB_true]; omega
          have HC3 := Lib.hid (HC2.out.trans (if_neg (by simp only; omega)))
          clear h3 h4 h5
          go_wp2_with (go_at_call 21; refine (in_any _ _ _ _).mono ?_; rintro e w' ⟨rfl, rfl⟩; first | rw [i1] | rw [i2] | rw [i3] | rw [i4])
          refine (lookR_any size bold fixed _).mono ?_
          rintro e w5 ⟨rfl, hb5⟩
          have HB5 := Lib.hid (show Below w2.heap.size w2 w5 from hb5)
          have z0 : w5.cell? ⟨wr.heap.size, 0, none⟩ = some (.int .i64 kind) := (hb5.cell zl).trans y0
          have zl5 : wr.heap.size < w5.heap.size := lt_of_cell z0
          clear y0 y1 y2 y3 y4 y5 y6 y7 y8 hb5
          by_cases h6 : size < 40 ∨ 4000 < size
          · have HE := Lib.hid (HERR.out 2 (by rw [HIE.out, HC3.out]; unfold lookE; rw [if_pos h6]) (by decide))
            rw [show lookE size = 2 by unfold lookE; rw [if_pos h6]]
            clear h6
            go_wp2_with fail
            go_ret
            exact ⟨by rw [HE.out]; rfl, HBW2.out.trans (HB5.out.mono HBW2.out.size)⟩
          · have HE := Lib.hid (show IE = 0 by rw [HIE.out, HC3.out]; unfold lookE; rw [if_neg h6])
            rw [show lookE size = 0 by unfold lookE; rw [if_neg h6]]
            clear h6
            go_wp2_with fail
            go_meet
            exact ⟨HE.out, HB5.out⟩
        · have HC := Lib.hid (it_obj (x := ⟨kind, char, size, bold, fixed, iw, ih, node, frm⟩) hk hk0 hfr)
          have f0 : (kind == 0) = false := by simpa using hk0
          clear hk0 hk hfr
          by_cases h1 : char = 0
          case neg =>
            have g1 : (char != 0) = true := by simpa using h1
            have HE := Lib.hid (HERR.out 4 (by rw [HIE.out]; rw [HC.out, if_pos (.inl h1)]) (by decide))
            go_wp2_with (go_at_call 21; refine (in_any _ _ _ _).mono ?_; rintro e w' ⟨rfl, rfl⟩; first | rw [i1] | rw [i2] | rw [i3] | rw [i4] | rw [i5] | rw [i6] | rw [i7])
            go_ret
            exact ⟨by rw [HE.out]; rfl, HBW2.out⟩
          have g1 : (char != 0) = false := by simpa using h1
          have HH1 := Lib.hid h1
          clear h1
          by_cases h2 : size = 0
          case neg =>
            have g2 : (size == 0) = false := by simpa using h2
            have HE := Lib.hid (HERR.out 4 (by rw [HIE.out]; rw [HC.out, if_pos (.inr (.inl (.inl h2)))]) (by decide))
            go_wp2_with (go_at_call 21; refine (in_any _ _ _ _).mono ?_; rintro e w' ⟨rfl, rfl⟩; first | rw [i1] | rw [i2] | rw [i3] | rw [i4] | rw [i5] | rw [i6] | rw [i7])
            go_ret
            exact ⟨by rw [HE.out]; rfl, HBW2.out⟩
          have g2 : (size == 0) = true := by simpa using h2
          have HH2 := Lib.hid h2
          clear h2
          cases bold
          case true =>
            have HE := Lib.hid (HERR.out 4 (by rw [HIE.out]; rw [HC.out, if_pos (.inr (.inl (.inr (.inl rfl))))]) (by decide))
            go_wp2_with (go_at_call 21; refine (in_any _ _ _ _).mono ?_; rintro e w' ⟨rfl, rfl⟩; first | rw [i1] | rw [i2] | rw [i3] | rw [i4] | rw [i5] | rw [i6] | rw [i7])
            go_ret
            exact ⟨by rw [HE.out]; rfl, HBW2.out⟩
          cases fixed
          case true =>
            have HE := Lib.hid (HERR.out 4 (by rw [HIE.out]; rw [HC.out, if_pos (.inr (.inl (.inr (.inr rfl))))]) (by decide))
            go_wp2_with (go_at_call 21; refine (in_any _ _ _ _).mono ?_; rintro e w' ⟨rfl, rfl⟩; first | rw [i1] | rw [i2] | rw [i3] | rw [i4] | rw [i5] | rw [i6] | rw [i7])
            go_ret
            exact ⟨by rw [HE.out]; rfl, HBW2.out⟩
          by_cases h4 : kind = 4
          · have f4 : (kind == 4) = true := by simpa using h4
            have HH4 := Lib.hid h4
            clear h4
            by_cases h5 : iw = 0
            case neg =>
              have g5 : (iw != 0) = true := by simpa using h5
              have HE := Lib.hid (HERR.out 4 (by rw [HIE.out]; rw [HC.out, if_pos (.inr (.inr ⟨HH4.out, .inl h5⟩))]) (by decide))
              go_wp2_with (go_at_call 21; refine (in_any _ _ _ _).mono ?_; rintro e w' ⟨rfl, rfl⟩; first | rw [i1] | rw [i2] | rw [i3] | rw [i4] | rw [i5] | rw [i6] | rw [i7])
              go_ret
              exact ⟨by rw [HE.out]; rfl, HBW2.out⟩
            have g5 : (iw != 0) = false := by simpa using h5
            have HH5 := Lib.hid h5
            have i3 : inB iw 0 31680 = true := by rw [inB_true]; omega
            clear h5
            by_cases h6 : ih = 0
            case neg =>
              have g6 : (ih != 0) = true := by simpa using h6
              have HE := Lib.hid (HERR.out 4 (by rw [HIE.out]; rw [HC.out, if_pos (.inr (.inr ⟨HH4.out, .inr h6⟩))]) (by decide))
              go_wp2_with (go_at_call 21; refine (in_any _ _ _ _).mono ?_; rintro e w' ⟨rfl, rfl⟩; first | rw [i1] | rw [i2] | rw [i3] | rw [i4] | rw [i5] | rw [i6] | rw [i7])
              go_ret
              exact ⟨by rw [HE.out]; rfl, HBW2.out⟩
            have g6 : (ih != 0) = false := by simpa using h6
            have HH6 := Lib.hid h6
            have i4 : inB ih 0 31680 = true := by rw [inB_true]; omega
            clear h6
            have HC2 := Lib.hid (HC.out.trans (if_neg (by
              rintro (h | (h | h | h) | ⟨h, h' | h'⟩)
              · exact h HH1.out
              · exact h HH2.out
              · cases h
              · cases h
              · exact h' HH5.out
              · exact h' HH6.out)))
            by_cases h7 : node < 1 ∨ 1073741824 < node
            · have i5 : inB node 1 1073741824 = false := by rw [inB_false]; omega
              have HE := Lib.hid (HERR.out 2 (by rw [HIE.out]; rw [HC2.out, if_pos (.inr (.inr h7))]) (by decide))
              go_wp2_with (go_at_call 21; refine (in_any _ _ _ _).mono ?_; rintro e w' ⟨rfl, rfl⟩; first | rw [i1] | rw [i2] | rw [i3] | rw [i4] | rw [i5] | rw [i6] | rw [i7])
              go_ret
              exact ⟨by rw [HE.out]; rfl, HBW2.out⟩
            have i5 : inB node 1 1073741824 = true := by rw [inB_true]; omega
            have HE := Lib.hid (show IE = 0 by rw [HIE.out, HC2.out, if_neg (by have := HH5.out; have := HH6.out; simp only; omega)])
            clear h7
            go_wp2_with (go_at_call 21; refine (in_any _ _ _ _).mono ?_; rintro e w' ⟨rfl, rfl⟩; first | rw [i1] | rw [i2] | rw [i3] | rw [i4] | rw [i5])
            go_meet
            exact ⟨HE.out, Below.refl _ _⟩
          · have f4 : (kind == 4) = false := by simpa using h4
            have HC2 := Lib.hid (HC.out.trans (if_neg (by
              rintro (h | (h | h | h) | ⟨h, _⟩)
              · exact h HH1.out
              · exact h HH2.out
              · cases h
              · cases h
              · exact h4 h)))
            clear h4
            by_cases h5 : iw < 0 ∨ 31680 < iw
            · have i3 : inB iw 0 31680 = false := by rw [inB_false]; omega
              have HE := Lib.hid (HERR.out 2 (by rw [HIE.out]; rw [HC2.out, if_pos (.inl h5)]) (by decide))
              go_wp2_with (go_at_call 21; refine (in_any _ _ _ _).mono ?_; rintro e w' ⟨rfl, rfl⟩; first | rw [i1] | rw [i2] | rw [i3] | rw [i4] | rw [i5] | rw [i6] | rw [i7])
              go_ret
              exact ⟨by rw [HE.out]; rfl, HBW2.out⟩
            have i3 : inB iw 0 31680 = true := by rw [inB_true]; omega
            by_cases h6 : ih < 0 ∨ 31680 < ih
            · have i4 : inB ih 0 31680 = false := by rw [inB_false]; omega
              have HE := Lib.hid (HERR.out 2 (by rw [HIE.out]; rw [HC2.out, if_pos (.inr (.inl h6))]) (by decide))
              go_wp2_with (go_at_call 21; refine (in_any _ _ _ _).mono ?_; rintro e w' ⟨rfl, rfl⟩; first | rw [i1] | rw [i2] | rw [i3] | rw [i4] | rw [i5] | rw [i6] | rw [i7])
              go_ret
              exact ⟨by rw [HE.out]; rfl, HBW2.out⟩
            have i4 : inB ih 0 31680 = true := by rw [inB_true]; omega
            by_cases h7 : node < 1 ∨ 1073741824 < node
            · have i5 : inB node 1 1073741824 = false := by rw [inB_false]; omega
              have HE := Lib.hid (HERR.out 2 (by rw [HIE.out]; rw [HC2.out, if_pos (.inr (.inr h7))]) (by decide))
              go_wp2_with (go_at_call 21; refine (in_any _ _ _ _).mono ?_; rintro e w' ⟨rfl, rfl⟩; first | rw [i1] | rw [i2] | rw [i3] | rw [i4] | rw [i5] | rw [i6] | rw [i7])
              go_ret
              exact ⟨by rw [HE.out]; rfl, HBW2.out⟩
            have i5 : inB node 1 1073741824 = true := by rw [inB_true]; omega
            have HE := Lib.hid (show IE = 0 by rw [HIE.out, HC2.out, if_neg (by simp only; omega)])
            clear h5 h6 h7
            go_wp2_with (go_at_call 21; refine (in_any _ _ _ _).mono ?_; rintro e w' ⟨rfl, rfl⟩; first | rw [i1] | rw [i2] | rw [i3] | rw [i4] | rw [i5])
            go_meet
            exact ⟨HE.out, Below.refl _ _⟩
      case rest =>
      obtain ⟨hie, hb3⟩ := hcut
      have HIZ := Lib.hid (show itemE (it i) = 0 by rw [← HX.out, ← HIE.out]; exact hie)
      have HBW3 := Lib.hid (HBW2.out.trans (hb3.mono HBW2.out.size))
      have HBE3 := Lib.hid (HBE2.out.trans (hb3.mono HBE2.out.size))
      have z0 : wc.cell? ⟨wr.heap.size, 0, none⟩ = some (.int .i64 kind) := (hb3.cell zl).trans y0
      have zl3 : wr.heap.size < wc.heap.size := lt_of_cell z0
      clear hie hb3 y0 y1 y2 y3 y4 y5 y6 y7 y8
      by_cases hf : kind = 2 ∨ kind = 3
      · have HFN := Lib.hid (show fl it (i + 1) = FL + 1 by rw [HFL.out]; show fl it i + (if isF (it i) then 1 else 0) = _; rw [if_pos (by rw [← HX.out]; exact hf)])
        have e9 : IntKind.i64.wrap ((FL : Int) + 1) = (FL : Int) + 1 := IntWalk.i64_in _ ⟨by omega, by omega⟩
        by_cases h4 : FL = 4
        · have HE := Lib.hid (show V = 3 by
            have h1 : sE it i = 3 := by
              unfold sE
              rw [if_neg (by rw [HIZ.out]; simp), if_pos ⟨by rw [← HX.out]; exact hf, by rw [HFN.out]; omega⟩]
            rw [HF.out, fstE_some hin HNO.out (by rw [h1]; decide), h1])
          have e10 : (4 : Int) < (FL : Int) + 1 := by omega
          have HXX := Lib.hid h4
          clear h4
          by_cases hk2 : kind = 2
          · have f1 : (kind == 2) = true := by simpa using hk2
            clear hk2 hf
            go_wp2_with fail
            go_ret
            exact ⟨by rw [HE.out]; rfl, HBW3.out⟩
          · have f1 : (kind == 2) = false := by simpa using hk2
            have f2 : (kind == 3) = true := by simp; omega
            clear hk2 hf
            go_wp2_with fail
            go_ret
            exact ⟨by rw [HE.out]; rfl, HBW3.out⟩
        · have HS := Lib.hid (show sE it i = 0 by
            unfold sE
            rw [if_neg (by rw [HIZ.out]; simp), if_neg (fun hh => by have := hh.2; rw [HFN.out] at this; omega)])
          have e10 : ¬ (4 : Int) < (FL : Int) + 1 := by omega
          by_cases hk2 : kind = 2
          · have f1 : (kind == 2) = true := by simpa using hk2
            clear hk2 hf
            go_wp2_with fail
            go_roundw
            case rel => exact ⟨i + 1, by go_num, by omega, by rw [HFN.out]; go_num, by rw [HFN.out]; omega, fun j hj => by
              rcases Nat.lt_or_ge j i with h | h
              · exact HNO.out j h
              · rw [show j = i by omega]; exact HS.out, HBE3.out⟩
            case measure => simp [intOf]; omega
          · have f1 : (kind == 2) = false := by simpa using hk2
            have f2 : (kind == 3) = true := by simp; omega
            clear hk2 hf
            go_wp2_with fail
            go_roundw
            case rel => exact ⟨i + 1, by go_num, by omega, by rw [HFN.out]; go_num, by rw [HFN.out]; omega, fun j hj => by
              rcases Nat.lt_or_ge j i with h | h
              · exact HNO.out j h
              · rw [show j = i by omega]; exact HS.out, HBE3.out⟩
            case measure => simp [intOf]; omega
      · have HFN := Lib.hid (show fl it (i + 1) = FL by rw [HFL.out]; show fl it i + (if isF (it i) then 1 else 0) = _; rw [if_neg (by rw [← HX.out]; exact hf)]; rfl)
        have HS := Lib.hid (show sE it i = 0 by
          unfold sE
          rw [if_neg (by rw [HIZ.out]; simp), if_neg (fun hh => hf (by have := hh.1; rw [← HX.out] at this; exact this))])
        have f1 : (kind == 2) = false := by simp; omega
        have f2 : (kind == 3) = false := by simp; omega
        clear hf
        go_wp2_with fail
        go_roundw
        case rel => exact ⟨i + 1, by go_num, by omega, by rw [HFN.out], by rw [HFN.out]; omega, fun j hj => by
          rcases Nat.lt_or_ge j i with h | h
          · exact HNO.out j h
          · rw [show j = i by omega]; exact HS.out, HBE3.out⟩
        case measure => simp [intOf]; omega
    · obtain rfl : i = pn := by omega
      have hin2 : ¬ ((i : Nat) : Int) < (i : Int) := by omega
      have HE := Lib.hid (show V = T by rw [HF.out, fstE_none HNO.out])
      have HVT := Lib.hid (show V = tlE ⟨i, pa, pc, it, psize, pbold, pfixed, align, dir, left, right, first, before, after, line, keep, next, widow, orphan, ahead⟩ by rw [HE.out, HT.out])
      have x1 := (HBEL.out.cell hgl).trans (HBK.out.cell (i := 1) rfl)
      have x2 := (HBEL.out.cell hgl).trans (HBK.out.cell (i := 2) rfl)
      have x3 := (HBEL.out.cell hgl).trans (HBK.out.cell (i := 3) rfl)
      clear HE HT HF HNO HFL hfl hn e1
      have x4 := (HBEL.out.cell hgl).trans (HBK.out.cell (i := 4) rfl)
      have x5 := (HBEL.out.cell hgl).trans (HBK.out.cell (i := 5) rfl)
      have x6 := (HBEL.out.cell hgl).trans (HBK.out.cell (i := 6) rfl)
      go_wp2_with fail
      refine (lookR_any psize pbold pfixed _).mono ?_
      rintro e w5 ⟨rfl, hb5⟩
      have HBE5 := Lib.hid (HBEL.out.trans (hb5.mono hsz))
      have HBW5 := Lib.hid (HBW.out.trans (hb5.mono HBW.out.size))
      have hg5 : g < w5.heap.size := by have := HBE5.out.size; omega
      clear hb5 x1 x2 x3 x4 x5 x6
      have x4 := (HBE5.out.cell hgl).trans (HBK.out.cell (i := 4) rfl)
      have x5 := (HBE5.out.cell hgl).trans (HBK.out.cell (i := 5) rfl)
      have x6 := (HBE5.out.cell hgl).trans (HBK.out.cell (i := 6) rfl)
      have x7 := (HBE5.out.cell hgl).trans (HBK.out.cell (i := 7) rfl)
      have x8 := (HBE5.out.cell hgl).trans (HBK.out.cell (i := 8) rfl)
      have x9 := (HBE5.out.cell hgl).trans (HBK.out.cell (i := 9) rfl)
      have x10 := (HBE5.out.cell hgl).trans (HBK.out.cell (i := 10) rfl)
      have x11 := (HBE5.out.cell hgl).trans (HBK.out.cell (i := 11) rfl)
      have x14 := (HBE5.out.cell hgl).trans (HBK.out.cell (i := 14) rfl)
      have x15 := (HBE5.out.cell hgl).trans (HBK.out.cell (i := 15) rfl)
      have x16 := (HBE5.out.cell hgl).trans (HBK.out.cell (i := 16) rfl)
      by_cases hlk : psize < 40 ∨ 4000 < psize
      · have HE := Lib.hid (show V = 2 by rw [HVT.out]; unfold tlE; rw [if_pos (.inl hlk)])
        rw [show lookE psize = 2 by unfold lookE; rw [if_pos hlk]]
        clear hlk
        simp only []
        go_step
        go_step
        go_step
        refine skip_go (by kernel_rfl) ?_
        simp only [Exit.then]
        go_step
        refine cond_err (by kernel_rfl) ?_
        simp only [Exit.then]
        (try go_big_unhide)
        refine bodyPost_ret (results_tmp rfl _ _ _) (by kernel_rfl) ?_
        exact ⟨by rw [HE.out]; kernel_rfl, HBW5.out⟩
      rw [show lookE psize = 0 by unfold lookE; rw [if_neg hlk]]
      have HLK := Lib.hid hlk
      clear hlk
      go_wp2_with fail
      refine (in_any _ _ _ _).mono ?_
      rintro e w6 ⟨rfl, rfl⟩
      have Oa : inB left (-20000) 20000 = true ∨ inB left (-20000) 20000 = false := by cases inB left (-20000) 20000 <;> simp
      rcases Oa with oa | oa
      case' inr =>
        have HE := Lib.hid (show V = 2 by rw [HVT.out]; unfold tlE; rw [if_pos (by have := inB_false.1 oa; simp only; omega)])
        rw [oa]
        simp only []
        go_step
        refine skip_go (by kernel_rfl) ?_
        simp only [Exit.then]
        go_step
        refine cond_err (by kernel_rfl) ?_
        simp only [Exit.then]
        (try go_big_unhide)
        refine bodyPost_ret (results_tmp rfl _ _ _) (by kernel_rfl) ?_
        exact ⟨by rw [HE.out]; kernel_rfl, HBW5.out⟩
      rw [oa]
      have OOa := Lib.hid (inB_true.1 oa)
      clear oa
      go_wp2_with fail
      refine (in_any _ _ _ _).mono ?_
      rintro e w6 ⟨rfl, rfl⟩
      have Ob : inB right (-20000) 20000 = true ∨ inB right (-20000) 20000 = false := by cases inB right (-20000) 20000 <;> simp
      rcases Ob with ob | ob
      case' inr =>
        have HE := Lib.hid (show V = 2 by rw [HVT.out]; unfold tlE; rw [if_pos (by have := inB_false.1 ob; simp only; omega)])
        rw [ob]
        simp only []
        go_step
        refine skip_go (by kernel_rfl) ?_
        simp only [Exit.then]
        go_step
        refine cond_err (by kernel_rfl) ?_
        simp only [Exit.then]
        (try go_big_unhide)
        refine bodyPost_ret (results_tmp rfl _ _ _) (by kernel_rfl) ?_
        exact ⟨by rw [HE.out]; kernel_rfl, HBW5.out⟩
      rw [ob]
      have OOb := Lib.hid (inB_true.1 ob)
      clear ob
      go_wp2_with fail
      refine (in_any _ _ _ _).mono ?_
      rintro e w6 ⟨rfl, rfl⟩
      have Oc : inB first (-20000) 20000 = true ∨ inB first (-20000) 20000 = false := by cases inB first (-20000) 20000 <;> simp
      rcases Oc with oc | oc
      case' inr =>
        have HE := Lib.hid (show V = 2 by rw [HVT.out]; unfold tlE; rw [if_pos (by have := inB_false.1 oc; simp only; omega)])
        rw [oc]
        simp only []
        go_step
        refine skip_go (by kernel_rfl) ?_
        simp only [Exit.then]
        go_step
        refine cond_err (by kernel_rfl) ?_
        simp only [Exit.then]
        (try go_big_unhide)
        refine bodyPost_ret (results_tmp rfl _ _ _) (by kernel_rfl) ?_
        exact ⟨by rw [HE.out]; kernel_rfl, HBW5.out⟩
      rw [oc]
      have OOc := Lib.hid (inB_true.1 oc)
      clear oc
      go_wp2_with fail
      refine (in_any _ _ _ _).mono ?_
      rintro e w6 ⟨rfl, rfl⟩
      have Od : inB before (0) 20000 = true ∨ inB before (0) 20000 = false := by cases inB before (0) 20000 <;> simp
      rcases Od with od | od
      case' inr =>
        have HE := Lib.hid (show V = 2 by rw [HVT.out]; unfold tlE; rw [if_pos (by have := inB_false.1 od; simp only; omega)])
        rw [od]
        simp only []
        go_step
        refine skip_go (by kernel_rfl) ?_
        simp only [Exit.then]
        go_step
        refine cond_err (by kernel_rfl) ?_
        simp only [Exit.then]
        (try go_big_unhide)
        refine bodyPost_ret (results_tmp rfl _ _ _) (by kernel_rfl) ?_
        exact ⟨by rw [HE.out]; kernel_rfl, HBW5.out⟩
      rw [od]
      have OOd := Lib.hid (inB_true.1 od)
      clear od
      go_wp2_with fail
      refine (in_any _ _ _ _).mono ?_
      rintro e w6 ⟨rfl, rfl⟩
      have Oe : inB after (0) 20000 = true ∨ inB after (0) 20000 = false := by cases inB after (0) 20000 <;> simp
      rcases Oe with oe | oe
      case' inr =>
        have HE := Lib.hid (show V = 2 by rw [HVT.out]; unfold tlE; rw [if_pos (by have := inB_false.1 oe; simp only; omega)])
        rw [oe]
        simp only []
        go_step
        refine skip_go (by kernel_rfl) ?_
        simp only [Exit.then]
        go_step
        refine cond_err (by kernel_rfl) ?_
        simp only [Exit.then]
        (try go_big_unhide)
        refine bodyPost_ret (results_tmp rfl _ _ _) (by kernel_rfl) ?_
        exact ⟨by rw [HE.out]; kernel_rfl, HBW5.out⟩
      rw [oe]
      have OOe := Lib.hid (inB_true.1 oe)
      clear oe
      go_wp2_with fail
      refine (in_any _ _ _ _).mono ?_
      rintro e w6 ⟨rfl, rfl⟩
      have Of : inB line (0) 20000 = true ∨ inB line (0) 20000 = false := by cases inB line (0) 20000 <;> simp
      rcases Of with of | of
      case' inr =>
        have HE := Lib.hid (show V = 2 by rw [HVT.out]; unfold tlE; rw [if_pos (by have := inB_false.1 of; simp only; omega)])
        rw [of]
        simp only []
        go_step
        refine skip_go (by kernel_rfl) ?_
        simp only [Exit.then]
        go_step
        refine cond_err (by kernel_rfl) ?_
        simp only [Exit.then]
        (try go_big_unhide)
        refine bodyPost_ret (results_tmp rfl _ _ _) (by kernel_rfl) ?_
        exact ⟨by rw [HE.out]; kernel_rfl, HBW5.out⟩
      rw [of]
      have OOf := Lib.hid (inB_true.1 of)
      clear of
      go_wp2_with fail
      refine (in_any _ _ _ _).mono ?_
      rintro e w6 ⟨rfl, rfl⟩
      have Og : inB align (0) 3 = true ∨ inB align (0) 3 = false := by cases inB align (0) 3 <;> simp
      rcases Og with og | og
      case' inr =>
        have HE := Lib.hid (show V = 2 by rw [HVT.out]; unfold tlE; rw [if_pos (by have := inB_false.1 og; simp only; omega)])
        rw [og]
        simp only []
        go_step
        refine skip_go (by kernel_rfl) ?_
        simp only [Exit.then]
        go_step
        refine cond_err (by kernel_rfl) ?_
        simp only [Exit.then]
        (try go_big_unhide)
        refine bodyPost_ret (results_tmp rfl _ _ _) (by kernel_rfl) ?_
        exact ⟨by rw [HE.out]; kernel_rfl, HBW5.out⟩
      rw [og]
      have OOg := Lib.hid (inB_true.1 og)
      clear og
      go_wp2_with fail
      refine (in_any _ _ _ _).mono ?_
      rintro e w6 ⟨rfl, rfl⟩
      have Oh : inB dir (-1) 1 = true ∨ inB dir (-1) 1 = false := by cases inB dir (-1) 1 <;> simp
      rcases Oh with oh | oh
      case' inr =>
        have HE := Lib.hid (show V = 2 by rw [HVT.out]; unfold tlE; rw [if_pos (by have := inB_false.1 oh; simp only; omega)])
        rw [oh]
        simp only []
        go_step
        refine skip_go (by kernel_rfl) ?_
        simp only [Exit.then]
        go_step
        refine cond_err (by kernel_rfl) ?_
        simp only [Exit.then]
        (try go_big_unhide)
        refine bodyPost_ret (results_tmp rfl _ _ _) (by kernel_rfl) ?_
        exact ⟨by rw [HE.out]; kernel_rfl, HBW5.out⟩
      rw [oh]
      have OOh := Lib.hid (inB_true.1 oh)
      clear oh
      go_wp2_with fail
      refine (in_any _ _ _ _).mono ?_
      rintro e w6 ⟨rfl, rfl⟩
      have Oi : inB ahead (0) 2 = true ∨ inB ahead (0) 2 = false := by cases inB ahead (0) 2 <;> simp
      rcases Oi with oi | oi
      case' inr =>
        have HE := Lib.hid (show V = 2 by rw [HVT.out]; unfold tlE; rw [if_pos (by have := inB_false.1 oi; simp only; omega)])
        rw [oi]
        simp only []
        go_step
        refine skip_go (by kernel_rfl) ?_
        simp only [Exit.then]
        go_step
        refine cond_err (by kernel_rfl) ?_
        simp only [Exit.then]
        (try go_big_unhide)
        refine bodyPost_ret (results_tmp rfl _ _ _) (by kernel_rfl) ?_
        exact ⟨by rw [HE.out]; kernel_rfl, HBW5.out⟩
      rw [oi]
      have OOi := Lib.hid (inB_true.1 oi)
      clear oi
      go_wp2_with fail
      refine (in_any _ _ _ _).mono ?_
      rintro e w6 ⟨rfl, rfl⟩
      have Oj : inB widow (0) 9 = true ∨ inB widow (0) 9 = false := by cases inB widow (0) 9 <;> simp
      rcases Oj with oj | oj
      case' inr =>
        have HE := Lib.hid (show V = 2 by rw [HVT.out]; unfold tlE; rw [if_pos (by have := inB_false.1 oj; simp only; omega)])
        rw [oj]
        simp only []
        go_step
        refine skip_go (by kernel_rfl) ?_
        simp only [Exit.then]
        go_step
        refine cond_err (by kernel_rfl) ?_
        simp only [Exit.then]
        (try go_big_unhide)
        refine bodyPost_ret (results_tmp rfl _ _ _) (by kernel_rfl) ?_
        exact ⟨by rw [HE.out]; kernel_rfl, HBW5.out⟩
      rw [oj]
      have OOj := Lib.hid (inB_true.1 oj)
      clear oj
      go_wp2_with fail
      refine (in_any _ _ _ _).mono ?_
      rintro e w6 ⟨rfl, rfl⟩
      have Ok : inB orphan (0) 9 = true ∨ inB orphan (0) 9 = false := by cases inB orphan (0) 9 <;> simp
      rcases Ok with ok | ok
      case' inr =>
        have HE := Lib.hid (show V = 2 by rw [HVT.out]; unfold tlE; rw [if_pos (by have := inB_false.1 ok; simp only; omega)])
        rw [ok]
        simp only []
        go_step
        refine skip_go (by kernel_rfl) ?_
        simp only [Exit.then]
        go_step
        refine cond_err (by kernel_rfl) ?_
        simp only [Exit.then]
        (try go_big_unhide)
        refine bodyPost_ret (results_tmp rfl _ _ _) (by kernel_rfl) ?_
        exact ⟨by rw [HE.out]; kernel_rfl, HBW5.out⟩
      rw [ok]
      have OOk := Lib.hid (inB_true.1 ok)
      clear ok
      go_wp2_with fail
      go_ret
      have hf : V = 0 := by
        rw [HVT.out]
        unfold tlE
        have := HLK.out; have := OOa.out; have := OOb.out; have := OOc.out; have := OOd.out; have := OOe.out; have := OOf.out; have := OOg.out; have := OOh.out; have := OOi.out; have := OOj.out; have := OOk.out
        rw [if_neg (by simp only; omega)]
      exact ⟨by rw [hf]; rfl, HBW5.out⟩
end Go.Proofs.Ytabnohphgegflaa.TB
