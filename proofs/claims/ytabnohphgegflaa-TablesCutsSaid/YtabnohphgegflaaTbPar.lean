

/-
  A paragraph is checked.
-/
import Derived.Test.YtabnohphgegflaaTbItem
namespace Go.Proofs.Ytabnohphgegflaa.TB
open Go.RowKit Go.Law Go.Law.Tb
set_option linter.unusedVariables false
set_option linter.unusedSimpArgs false
set_option maxRecDepth 100000
set_option maxHeartbeats 8000000 in
theorem par_any (p : ParD) (w : World) (hp : ParOk w p) : Calls Try.prog 30 #[.agg p.cells.toArray] w fun e w' => e = .returned (.int .i64 (parE p)) ∧ Below w.heap.size w w' := by
  obtain ⟨V, hV⟩ : ∃ V, V = parE p := ⟨_, rfl⟩
  rw [← hV]
  have HV := Lib.hid hV
  clear hV
  obtain ⟨pn, pa, pc, it, psize, pbold, pfixed, align, dir, left, right, first, before, after, line, keep, next, widow, orphan, ahead⟩ := p
  have HP := Lib.hid (show CellsF w pa pn 9 (fun i => (it i).V) from hp)
  unfold ParD.cells
  clear hp
  by_cases hn : 3000 < pn
  · have HE := Lib.hid (show V = 3 by rw [HV.out]; unfold parE; rw [if_pos hn])
    have e1 : (3000 : Int) < (pn : Int) := by omega
    go_enter Try.func30, Try.ntmps30
    go_wp2_with fail
    go_ret
    exact ⟨by rw [HE.out]; rfl, (Below.refl _ _).alloc (Nat.le_refl _) _⟩
  have e1 : ¬ (3000 : Int) < (pn : Int) := by omega
  obtain ⟨T, hT⟩ : ∃ T, T = tlE ⟨pn, pa, pc, it, psize, pbold, pfixed, align, dir, left, right, first, before, after, line, keep, next, widow, orphan, ahead⟩ := ⟨_, rfl⟩
  have HT := Lib.hid hT
  have HF := Lib.hid (show V = fstE pn (sE it) T by rw [HV.out, hT]; unfold parE; rw [if_neg hn])
  clear hT HV
  go_enter Try.func30, Try.ntmps30
  go_wp2_with fail
  obtain ⟨wb, hwb⟩ : ∃ wb, wb = w.alloc (.cells #[.slice pa pn pc, .int .i64 psize, .bool pbold, .bool pfixed, .int .i64 align, .int .i64 dir, .int .i64 left, .int .i64 right, .int .i64 first, .int .i64 before, .int .i64 after, .int .i64 line, .bool keep, .bool next, .int .i64 widow, .int .i64 orphan, .int .i64 ahead] 62) := ⟨_, rfl⟩
  obtain ⟨g, hg⟩ : ∃ g, g = w.heap.size := ⟨_, rfl⟩
  have HBK := Lib.hid (show Blk wb g #[.slice pa pn pc, .int .i64 psize, .bool pbold, .bool pfixed, .int .i64 align, .int .i64 dir, .int .i64 left, .int .i64 right, .int .i64 first, .int .i64 before, .int .i64 after, .int .i64 line, .bool keep, .bool next, .int .i64 widow, .int .i64 orphan, .int .i64 ahead] 62 by rw [hwb, hg]; exact Blk.new _ _ _)
  have HBB := Lib.hid (show Below w.heap.size w wb by rw [hwb]; exact (Below.refl _ _).alloc (Nat.le_refl _) _)
  have hgl : g < wb.heap.size := HBK.out.lt
  have HGE := Lib.hid (show w.heap.size ≤ wb.heap.size from HBB.out.size)
  rw [← hwb, ← hg]
  clear hwb hg
  go_loopw [3, 19] (fun fv iv wr => ∃ i : Nat, iv = .int .i64 i ∧ i ≤ pn ∧ fv = .int .i64 (fl it i) ∧ fl it i ≤ 4 ∧ (∀ j, j < i → sE it j = 0) ∧ Below wb.heap.size wb wr) (fun _ iv _ => pn - (intOf iv).toNat)
  case atStart => exact ⟨0, rfl, by omega, rfl, by show 0 ≤ 4; omega, fun j hj => by omega, Below.refl _ _⟩
  case round =>
    obtain ⟨i, rfl, hi, rfl, hfl, hno, hbel⟩ := hrel
    have HNO := Lib.hid hno
    have HBEL := Lib.hid hbel
    have HBW := Lib.hid (HBB.out.trans (hbel.mono HGE.out))
    have hsz := hbel.size
    obtain ⟨FL, hFL⟩ : ∃ FL, FL = fl it i := ⟨_, rfl⟩
    have HFL := Lib.hid hFL
    rw [← hFL] at hfl ⊢
    clear hno hbel hFL
    by_cases hin : i < pn
    · have hin2 : (i : Int) < (pn : Int) := by omega
      obtain ⟨b, off, hba, hcellG⟩ := (HP.out.below (Nat.le_refl _) HBW.out) (by show 0 < pn; omega)
      have hcell := hcellG i (by show i < pn; omega)
      obtain ⟨x, hx⟩ : ∃ x, x = it i := ⟨_, rfl⟩
      simp only at hcell hba
      rw [← hx] at hcell
      have HX := Lib.hid hx
      obtain ⟨kind, char, size, bold, fixed, iw, ih, node, frm⟩ := x
      have d0 : (wr).cell? ⟨b, off + i * 9, none⟩ = some (.int .i64 kind) := hcell 0 (by omega)
      have d1 : (wr).cell? ⟨b, off + i * 9 + 1, none⟩ = some (.int .i64 char) := hcell 1 (by omega)
      have d2 : (wr).cell? ⟨b, off + i * 9 + 2, none⟩ = some (.int .i64 size) := hcell 2 (by omega)
      have d3 : (wr).cell? ⟨b, off + i * 9 + 3, none⟩ = some (.bool bold) := hcell 3 (by omega)
      have d4 : (wr).cell? ⟨b, off + i * 9 + 4, none⟩ = some (.bool fixed) := hcell 4 (by omega)
      have d5 : (wr).cell? ⟨b, off + i * 9 + 5, none⟩ = some (.int .i64 iw) := hcell 5 (by omega)
      have d6 : (wr).cell? ⟨b, off + i * 9 + 6, none⟩ = some (.int .i64 ih) := hcell 6 (by omega)
      have d7 : (wr).cell? ⟨b, off + i * 9 + 7, none⟩ = some (.int .i64 node) := hcell 7 (by omega)
      have d8 : (wr).cell? ⟨b, off + i * 9 + 8, none⟩ = some (.int .i64 frm) := hcell 8 (by omega)
      have zb := lt_of_cell d0
      simp only at zb
      clear hcell hcellG hx
      subst hba
      obtain ⟨IE, hIE⟩ : ∃ IE, IE = itemE ⟨kind, char, size, bold, fixed, iw, ih, node, frm⟩ := ⟨_, rfl⟩
      have HIE := Lib.hid hIE
      clear hIE
      go_wp2_with fail
      refine (item_any ⟨kind, char, size, bold, fixed, iw, ih, node, frm⟩ _).mono ?_
      rintro e w2 ⟨rfl, hb2⟩
      have HB2 := Lib.hid (show Below wr.heap.size wr w2 from ((Below.refl wr.heap.size wr).alloc (Nat.le_refl _) _).trans (hb2.mono (by simp)))
      have HBW2 := Lib.hid (HBW.out.trans (HB2.out.mono HBW.out.size))
      have HBE2 := Lib.hid (HBEL.out.trans (HB2.out.mono hsz))
      have y0 : w2.cell? ⟨wr.heap.size, 0, none⟩ = some (.int .i64 kind) := (hb2.cell (by simp)).trans ((Blk.new wr _ _).cell (i := 0) rfl)
      have zl := lt_of_cell y0
      simp only at zl
      rw [← HIE.out]
      clear hb2
      by_cases hie : IE = 0
      · have HIZ := Lib.hid (show itemE (it i) = 0 by rw [← HX.out, ← HIE.out]; exact hie)
        have f0 : (IE != 0) = false := by simpa using hie
        by_cases hf : kind = 2 ∨ kind = 3
        · have HFN := Lib.hid (show fl it (i + 1) = FL + 1 by rw [HFL.out]; show fl it i + (if isF (it i) then 1 else 0) = _; rw [if_pos (by rw [← HX.out]; exact hf)])
          have e9 : IntKind.i64.wrap ((FL : Int) + 1) = (FL : Int) + 1 := IntWalk.i64_in _ ⟨by omega, by omega⟩
          by_cases h4 : FL = 4
          · have HE := Lib.hid (show V = 3 by
              have h1 : sE it i = 3 := by
                unfold sE
                rw [if_neg (by rw [HIZ.out]; simp), if_pos ⟨by rw [← HX.out]; exact hf, by rw [HFN.out]; omega⟩]
              rw [HF.out, fstE_some hin HNO.out (by rw [h1]; decide), h1])
            have e10 : (4 : Int) < (FL : Int) + 1 := by omega
            have HXX := Lib.hid h4
            clear h4
            by_cases hk2 : kind = 2
            · have f1 : (kind == 2) = true := by simpa using hk2
              clear hk2 hf
              go_wp2_with fail
              go_ret
              exact ⟨by rw [HE.out]; rfl, HBW2.out⟩
            · have f1 : (kind == 2) = false := by simpa using hk2
              have f2 : (kind == 3) = true := by simp; omega
              clear hk2 hf
              go_wp2_with fail
              go_ret
              exact ⟨by rw [HE.out]; rfl, HBW2.out⟩
          · have HS := Lib.hid (show sE it i = 0 by
              unfold sE
              rw [if_neg (by rw [HIZ.out]; simp), if_neg (fun hh => by have := hh.2; rw [HFN.out] at this; omega)])
            have e10 : ¬ (4 : Int) < (FL : Int) + 1 := by omega
            by_cases hk2 : kind = 2
            · have f1 : (kind == 2) = true := by simpa using hk2
              clear hk2 hf
              go_wp2_with fail
              go_roundw
              case rel => exact ⟨i + 1, by go_num, by omega, by rw [HFN.out]; go_num, by rw [HFN.out]; omega, fun j hj => by
                rcases Nat.lt_or_ge j i with h | h
                · exact HNO.out j h
                · rw [show j = i by omega]; exact HS.out, HBE2.out⟩
              case measure => simp [intOf]; omega
            · have f1 : (kind == 2) = false := by simpa using hk2
              have f2 : (kind == 3) = true := by simp; omega
              clear hk2 hf
              go_wp2_with fail
              go_roundw
              case rel => exact ⟨i + 1, by go_num, by omega, by rw [HFN.out]; go_num, by rw [HFN.out]; omega, fun j hj => by
                rcases Nat.lt_or_ge j i with h | h
                · exact HNO.out j h
                · rw [show j = i by omega]; exact HS.out, HBE2.out⟩
              case measure => simp [intOf]; omega
        · have HFN := Lib.hid (show fl it (i + 1) = FL by rw [HFL.out]; show fl it i + (if isF (it i) then 1 else 0) = _; rw [if_neg (by rw [← HX.out]; exact hf)]; rfl)
          have HS := Lib.hid (show sE it i = 0 by
            unfold sE
            rw [if_neg (by rw [HIZ.out]; simp), if_neg (fun hh => hf (by have := hh.1; rw [← HX.out] at this; exact this))])
          have f1 : (kind == 2) = false := by simp; omega
          have f2 : (kind == 3) = false := by simp; omega
          clear hf
          go_wp2_with fail
          go_roundw
          case rel => exact ⟨i + 1, by go_num, by omega, by rw [HFN.out], by rw [HFN.out]; omega, fun j hj => by
            rcases Nat.lt_or_ge j i with h | h
            · exact HNO.out j h
            · rw [show j = i by omega]; exact HS.out, HBE2.out⟩
          case measure => simp [intOf]; omega
      · have HE := Lib.hid (show V = IE by
          have h1 : sE it i = IE := by
            unfold sE
            rw [← HX.out, ← HIE.out, if_pos hie]
          rw [HF.out, fstE_some hin HNO.out (by rw [h1]; exact hie), h1])
        have f0 : (IE != 0) = true := by simpa using hie
        clear hie
        go_wp2_with fail
        go_ret
        exact ⟨by rw [HE.out]; rfl, HBW2.out⟩
    · obtain rfl : i = pn := by omega
      have hin2 : ¬ ((i : Nat) : Int) < (i : Int) := by omega
      have HE := Lib.hid (show V = T by rw [HF.out, fstE_none HNO.out])
      have HVT := Lib.hid (show V = tlE ⟨i, pa, pc, it, psize, pbold, pfixed, align, dir, left, right, first, before, after, line, keep, next, widow, orphan, ahead⟩ by rw [HE.out, HT.out])
      have x1 := (HBEL.out.cell hgl).trans (HBK.out.cell (i := 1) rfl)
      have x2 := (HBEL.out.cell hgl).trans (HBK.out.cell (i := 2) rfl)
      have x3 := (HBEL.out.cell hgl).trans (HBK.out.cell (i := 3) rfl)
      clear HE HT HF HNO HFL hfl hn e1
      go_wp2_with fail
      refine (look_any psize pbold pfixed _).mono ?_
      rintro e w5 ⟨rfl, hb5⟩
      have HBE5 := Lib.hid (HBEL.out.trans (hb5.mono hsz))
      have HBW5 := Lib.hid (HBW.out.trans (hb5.mono HBW.out.size))
      have hg5 : g < w5.heap.size := by have := HBE5.out.size; omega
      clear hb5 x1 x2 x3
      have x4 := (HBE5.out.cell hgl).trans (HBK.out.cell (i := 4) rfl)
      have x5 := (HBE5.out.cell hgl).trans (HBK.out.cell (i := 5) rfl)
      have x6 := (HBE5.out.cell hgl).trans (HBK.out.cell (i := 6) rfl)
      have x7 := (HBE5.out.cell hgl).trans (HBK.out.cell (i := 7) rfl)
      have x8 := (HBE5.out.cell hgl).trans (HBK.out.cell (i := 8) rfl)
      have x9 := (HBE5.out.cell hgl).trans (HBK.out.cell (i := 9) rfl)
      have x10 := (HBE5.out.cell hgl).trans (HBK.out.cell (i := 10) rfl)
      have x11 := (HBE5.out.cell hgl).trans (HBK.out.cell (i := 11) rfl)
      have x14 := (HBE5.out.cell hgl).trans (HBK.out.cell (i := 14) rfl)
      have x15 := (HBE5.out.cell hgl).trans (HBK.out.cell (i := 15) rfl)
      have x16 := (HBE5.out.cell hgl).trans (HBK.out.cell (i := 16) rfl)
      by_cases hlk : psize < 40 ∨ 4000 < psize
      · have HE := Lib.hid (show V = 2 by rw [HVT.out]; unfold tlE; rw [if_pos (.inl hlk)])
        rw [show lookE psize = 2 by unfold lookE; rw [if_pos hlk]]
        clear hlk
        go_wp2_with fail
        go_ret
        exact ⟨by rw [HE.out]; rfl, HBW5.out⟩
      rw [show lookE psize = 0 by unfold lookE; rw [if_neg hlk]]
      have HLK := Lib.hid hlk
      clear hlk
      have hbA := HBW5.out.alloc HBW5.out.size (.cells #[.int .i64 left, .int .i64 right, .int .i64 first] 3)
      have HBA := Lib.hid hbA
      have HBA2 := Lib.hid (hbA.alloc hbA.size (.cells #[.int .i64 before, .int .i64 after, .int .i64 line] 3))
      clear hbA
      go_wp2_with fail
      refine wp_loop_rounds 4 ?_
      rw [rounds_succ]
      go_wp2_with fail
      refine (out_any _ _ _ _).mono ?_
      rintro e w6 ⟨rfl, rfl⟩
      have Oa : outB left (-20000) 20000 = false ∨ outB left (-20000) 20000 = true := by cases outB left (-20000) 20000 <;> simp
      rcases Oa with oa | oa
      case' inr =>
        have HE := Lib.hid (show V = 2 by rw [HVT.out]; unfold tlE; rw [if_pos (by have := outB_true.1 oa; simp only; omega)])
        rw [oa]
        go_wp2_with fail
        go_ret
        exact ⟨by rw [HE.out]; rfl, HBA.out⟩
      rw [oa]
      have OOa := Lib.hid (outB_false.1 oa)
      clear oa
      go_wp2_with fail
      rw [rounds_succ]
      go_wp2_with fail
      refine (out_any _ _ _ _).mono ?_
      rintro e w6 ⟨rfl, rfl⟩
      have Ob : outB right (-20000) 20000 = false ∨ outB right (-20000) 20000 = true := by cases outB right (-20000) 20000 <;> simp
      rcases Ob with ob | ob
      case' inr =>
        have HE := Lib.hid (show V = 2 by rw [HVT.out]; unfold tlE; rw [if_pos (by have := outB_true.1 ob; simp only; omega)])
        rw [ob]
        go_wp2_with fail
        go_ret
        exact ⟨by rw [HE.out]; rfl, HBA.out⟩
      rw [ob]
      have OOb := Lib.hid (outB_false.1 ob)
      clear ob
      go_wp2_with fail
      rw [rounds_succ]
      go_wp2_with fail
      refine (out_any _ _ _ _).mono ?_
      rintro e w6 ⟨rfl, rfl⟩
      have Oc : outB first (-20000) 20000 = false ∨ outB first (-20000) 20000 = true := by cases outB first (-20000) 20000 <;> simp
      rcases Oc with oc | oc
      case' inr =>
        have HE := Lib.hid (show V = 2 by rw [HVT.out]; unfold tlE; rw [if_pos (by have := outB_true.1 oc; simp only; omega)])
        rw [oc]
        go_wp2_with fail
        go_ret
        exact ⟨by rw [HE.out]; rfl, HBA.out⟩
      rw [oc]
      have OOc := Lib.hid (outB_false.1 oc)
      clear oc
      go_wp2_with fail
      rw [rounds_succ]
      go_wp2_with fail
      refine wp_loop_rounds 4 ?_
      rw [rounds_succ]
      go_wp2_with fail
      refine (out_any _ _ _ _).mono ?_
      rintro e w6 ⟨rfl, rfl⟩
      have Od : outB before (0) 20000 = false ∨ outB before (0) 20000 = true := by cases outB before (0) 20000 <;> simp
      rcases Od with od | od
      case' inr =>
        have HE := Lib.hid (show V = 2 by rw [HVT.out]; unfold tlE; rw [if_pos (by have := outB_true.1 od; simp only; omega)])
        rw [od]
        go_wp2_with fail
        go_ret
        exact ⟨by rw [HE.out]; rfl, HBA2.out⟩
      rw [od]
      have OOd := Lib.hid (outB_false.1 od)
      clear od
      go_wp2_with fail
      rw [rounds_succ]
      go_wp2_with fail
      refine (out_any _ _ _ _).mono ?_
      rintro e w6 ⟨rfl, rfl⟩
      have Oe : outB after (0) 20000 = false ∨ outB after (0) 20000 = true := by cases outB after (0) 20000 <;> simp
      rcases Oe with oe | oe
      case' inr =>
        have HE := Lib.hid (show V = 2 by rw [HVT.out]; unfold tlE; rw [if_pos (by have := outB_true.1 oe; simp only; omega)])
        rw [oe]
        go_wp2_with fail
        go_ret
        exact ⟨by rw [HE.out]; rfl, HBA2.out⟩
      rw [oe]
      have OOe := Lib.hid (outB_false.1 oe)
      clear oe
      go_wp2_with fail
      rw [rounds_succ]
      go_wp2_with fail
      refine (out_any _ _ _ _).mono ?_
      rintro e w6 ⟨rfl, rfl⟩
      have Of : outB line (0) 20000 = false ∨ outB line (0) 20000 = true := by cases outB line (0) 20000 <;> simp
      rcases Of with of | of
      case' inr =>
        have HE := Lib.hid (show V = 2 by rw [HVT.out]; unfold tlE; rw [if_pos (by have := outB_true.1 of; simp only; omega)])
        rw [of]
        go_wp2_with fail
        go_ret
        exact ⟨by rw [HE.out]; rfl, HBA2.out⟩
      rw [of]
      have OOf := Lib.hid (outB_false.1 of)
      clear of
      go_wp2_with fail
      rw [rounds_succ]
      go_wp2_with fail
      refine (out_any _ _ _ _).mono ?_
      rintro e w6 ⟨rfl, rfl⟩
      have Og : outB align (0) 3 = false ∨ outB align (0) 3 = true := by cases outB align (0) 3 <;> simp
      rcases Og with og | og
      case' inr =>
        have HE := Lib.hid (show V = 2 by rw [HVT.out]; unfold tlE; rw [if_pos (by have := outB_true.1 og; simp only; omega)])
        rw [og]
        go_wp2_with fail
        go_ret
        exact ⟨by rw [HE.out]; rfl, HBA2.out⟩
      rw [og]
      have OOg := Lib.hid (outB_false.1 og)
      clear og
      go_wp2_with fail
      refine (out_any _ _ _ _).mono ?_
      rintro e w6 ⟨rfl, rfl⟩
      have Oh : outB dir (-1) 1 = false ∨ outB dir (-1) 1 = true := by cases outB dir (-1) 1 <;> simp
      rcases Oh with oh | oh
      case' inr =>
        have HE := Lib.hid (show V = 2 by rw [HVT.out]; unfold tlE; rw [if_pos (by have := outB_true.1 oh; simp only; omega)])
        rw [oh]
        go_wp2_with fail
        go_ret
        exact ⟨by rw [HE.out]; rfl, HBA2.out⟩
      rw [oh]
      have OOh := Lib.hid (outB_false.1 oh)
      clear oh
      go_wp2_with fail
      refine (out_any _ _ _ _).mono ?_
      rintro e w6 ⟨rfl, rfl⟩
      have Oi : outB ahead (0) 2 = false ∨ outB ahead (0) 2 = true := by cases outB ahead (0) 2 <;> simp
      rcases Oi with oi | oi
      case' inr =>
        have HE := Lib.hid (show V = 2 by rw [HVT.out]; unfold tlE; rw [if_pos (by have := outB_true.1 oi; simp only; omega)])
        rw [oi]
        go_wp2_with fail
        go_ret
        exact ⟨by rw [HE.out]; rfl, HBA2.out⟩
      rw [oi]
      have OOi := Lib.hid (outB_false.1 oi)
      clear oi
      go_wp2_with fail
      refine (out_any _ _ _ _).mono ?_
      rintro e w6 ⟨rfl, rfl⟩
      have Oj : outB widow (0) 9 = false ∨ outB widow (0) 9 = true := by cases outB widow (0) 9 <;> simp
      rcases Oj with oj | oj
      case' inr =>
        have HE := Lib.hid (show V = 2 by rw [HVT.out]; unfold tlE; rw [if_pos (by have := outB_true.1 oj; simp only; omega)])
        rw [oj]
        go_wp2_with fail
        go_ret
        exact ⟨by rw [HE.out]; rfl, HBA2.out⟩
      rw [oj]
      have OOj := Lib.hid (outB_false.1 oj)
      clear oj
      go_wp2_with fail
      refine (out_any _ _ _ _).mono ?_
      rintro e w6 ⟨rfl, rfl⟩
      have Ok : outB orphan (0) 9 = false ∨ outB orphan (0) 9 = true := by cases outB orphan (0) 9 <;> simp
      rcases Ok with ok | ok
      case' inr =>
        have HE := Lib.hid (show V = 2 by rw [HVT.out]; unfold tlE; rw [if_pos (by have := outB_true.1 ok; simp only; omega)])
        rw [ok]
        go_wp2_with fail
        go_ret
        exact ⟨by rw [HE.out]; rfl, HBA2.out⟩
      rw [ok]
      have OOk := Lib.hid (outB_false.1 ok)
      clear ok
      go_wp2_with fail
      go_ret
      have hf : V = 0 := by
        rw [HVT.out]
        unfold tlE
        have := HLK.out; have := OOa.out; have := OOb.out; have := OOc.out; have := OOd.out; have := OOe.out; have := OOf.out; have := OOg.out; have := OOh.out; have := OOi.out; have := OOj.out; have := OOk.out
        rw [if_neg (by simp only; omega)]
      exact ⟨by rw [hf]; rfl, HBA2.out⟩
end Go.Proofs.Ytabnohphgegflaa.TB
