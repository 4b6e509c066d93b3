

/-
  The edges at which a table is divided, and the rows that are repeated.
-/
import Derived.Test.YtabnohphgegflaaTbFreeP
import Derived.Deep.CutRange
namespace Go.Proofs.Ytabnohphgegflaa.TB
open Go.RowKit Go.Law Go.Law.Tb
set_option linter.unusedVariables false
set_option linter.unusedSimpArgs false
theorem check_any (t : TabD) (w : World) (hc : TabOk w t) : Calls Try.prog 22 #[.agg t.cells.toArray] w fun e w' => e = .returned (.int .i64 (tabE t)) ∧ Below w.heap.size w w' := by
  by_cases h : headBad t
  · have e : tabE t = 2 := by unfold tabE; rw [if_pos h]
    rw [e]
    exact check_bad t w h
  · exact check_ok t w hc h
set_option maxRecDepth 100000
set_option maxHeartbeats 8000000 in
theorem cuts_bad (t : TabD) (w : World) (hc : TabOk w t) (h : tabE t ≠ 0) : Calls Try.prog 13 #[.agg t.cells.toArray] w fun e w' => e = .returned (.tuple #[.slice none 0 0, .int .i64 (tabE t)]) ∧ Below w.heap.size w w' := by
  obtain ⟨V, hV⟩ : ∃ V, V = tabE t := ⟨_, rfl⟩
  rw [← hV] at h ⊢
  have g : (V != 0) = true := by simpa using h
  have HV := Lib.hid hV
  have HC := Lib.hid hc
  clear hc h hV
  obtain ⟨rows, cols, tn, ta, tc, tcell, width, head, align, tnode⟩ := t
  unfold TabD.cells
  have HBX := Lib.hid (show Below w.heap.size w (w.alloc (.cells #[.int .i64 rows, .int .i64 cols, .slice ta tn tc, .int .i64 width, .int .i64 head, .int .i64 align, .int .i64 tnode] 41)) from (Below.refl _ _).alloc (Nat.le_refl _) _)
  have HRT := Lib.hid (show (w.alloc (.cells #[.int .i64 rows, .int .i64 cols, .slice ta tn tc, .int .i64 width, .int .i64 head, .int .i64 align, .int .i64 tnode] 41)).rangeAt w.heap.size 0 [.int .i64 rows, .int .i64 cols, .slice ta tn tc, .int .i64 width, .int .i64 head, .int .i64 align, .int .i64 tnode] from fun j v hj => by rw [Nat.zero_add]; exact (Blk.new w _ _).cell (by simpa using hj))
  go_enter Try.func13, Try.ntmps13
  go_upto_region 1 with fail
  refine wp_region_lit ?_
  refine wpList_load_mid rfl 41 _ rfl w.heap.size 0 rfl _ _ HRT.out Try.underlying41 rfl (by kernel_rfl) ?_
  simp only [Act.put, List.setIfInBounds_toArray, List.set_cons_zero, List.set_cons_succ]
  go_wp2_with fail
  refine (check_any ⟨rows, cols, tn, ta, tc, tcell, width, head, align, tnode⟩ _ (HC.out.below (Nat.le_refl _) HBX.out)).mono ?_
  rintro e w2 ⟨rfl, hb2⟩
  rw [← HV.out]
  have HB2 := Lib.hid (HBX.out.trans (hb2.mono HBX.out.size))
  clear hb2
  go_wp2_with fail
  go_ret2
  exact ⟨rfl, HB2.out⟩
def CuPost (w : World) (t : TabD) (e : Ending) (w' : World) : Prop := ∃ v, e = .returned (.tuple #[v, .int .i64 0]) ∧ RowL w' w.heap.size 3 1 v (cutL t (t.rows + 1).toNat).length ((cutL t (t.rows + 1).toNat).map (Value.int .i64)) ∧ Below w.heap.size w w'
set_option maxHeartbeats 8000000 in
theorem cuts_ok (t : TabD) (w : World) (hc : TabOk w t) (h0 : tabE t = 0) : Calls Try.prog 13 #[.agg t.cells.toArray] w (CuPost w t) := by
  obtain ⟨T, hT⟩ : ∃ T, T = t := ⟨_, rfl⟩
  have HTT := Lib.hid hT
  rw [← hT] at hc h0
  rw [show CuPost w t = CuPost w T by rw [hT]]
  have HC := Lib.hid hc
  have H0 := Lib.hid h0
  have HIN := Lib.hid (tab_in h0)
  have HN4 := Lib.hid (tabE_zero h0).2.1
  have HI := Lib.hid (info_parts (show (Try.prog.info? 3).map (fun i => (i.zero, i.size, i.bytes)) = some (some (.int .i64 0), 1, 8) by kernel_rfl))
  clear hc h0 hT
  obtain ⟨rows, cols, tn, ta, tc, tcell, width, head, align, tnode⟩ := t
  unfold TabD.cells
  have HBX := Lib.hid (show Below w.heap.size w (w.alloc (.cells #[.int .i64 rows, .int .i64 cols, .slice ta tn tc, .int .i64 width, .int .i64 head, .int .i64 align, .int .i64 tnode] 41)) from (Below.refl _ _).alloc (Nat.le_refl _) _)
  have HRT := Lib.hid (show (w.alloc (.cells #[.int .i64 rows, .int .i64 cols, .slice ta tn tc, .int .i64 width, .int .i64 head, .int .i64 align, .int .i64 tnode] 41)).rangeAt w.heap.size 0 [.int .i64 rows, .int .i64 cols, .slice ta tn tc, .int .i64 width, .int .i64 head, .int .i64 align, .int .i64 tnode] from fun j v hj => by rw [Nat.zero_add]; exact (Blk.new w _ _).cell (by simpa using hj))
  have htr : (T.rows = rows ∧ T.cols = cols ∧ T.head = head) ∧ T.n = tn ∧ T.cell = tcell := by rw [HTT.out]; exact ⟨⟨rfl, rfl, rfl⟩, rfl, rfl⟩
  have hin := HIN.out
  rw [htr.1.1, htr.1.2.1, htr.1.2.2] at hin
  have hn4 := HN4.out
  rw [htr.2.1] at hn4
  obtain ⟨⟨b1, b2⟩, ⟨b3, b4⟩, b5, b6⟩ := hin
  have HTR := Lib.hid htr
  clear htr
  go_enter Try.func13, Try.ntmps13
  go_upto_region 1 with fail
  refine wp_region_lit ?_
  refine wpList_load_mid rfl 41 _ rfl w.heap.size 0 rfl _ _ HRT.out Try.underlying41 rfl (by kernel_rfl) ?_
  simp only [Act.put, List.setIfInBounds_toArray, List.set_cons_zero, List.set_cons_succ]
  go_wp2_with fail
  refine (check_any ⟨rows, cols, tn, ta, tc, tcell, width, head, align, tnode⟩ _ (by have := HC.out; rw [HTT.out] at this; exact this.below (Nat.le_refl _) HBX.out)).mono ?_
  rintro e w2 ⟨rfl, hb2⟩
  rw [show tabE ⟨rows, cols, tn, ta, tc, tcell, width, head, align, tnode⟩ = 0 by rw [← HTT.out]; exact H0.out]
  have HB2 := Lib.hid (HBX.out.trans (hb2.mono HBX.out.size))
  obtain ⟨tbA, htb⟩ : ∃ y : Array Value, y = #[.int .i64 rows, .int .i64 cols, .slice ta tn tc, .int .i64 width, .int .i64 head, .int .i64 align, .int .i64 tnode] := ⟨_, rfl⟩
  have HT2 := Lib.hid (show Blk w2 w.heap.size tbA 41 by rw [htb]; exact (Blk.new w _ _).below hb2 (by simp))
  have HTB := Lib.hid (show tbA[0]? = some (.int .i64 rows) ∧ tbA[2]? = some (.slice ta tn tc) ∧ tbA[4]? = some (.int .i64 head) by rw [htb]; exact ⟨rfl, rfl, rfl⟩)
  have hsz2 := HT2.out.lt
  clear hb2 htb HBX HRT
  have t0 : w2.cell? ⟨w.heap.size, 0, none⟩ = some (.int .i64 rows) := HT2.out.cell HTB.out.1
  have t4 : w2.cell? ⟨w.heap.size, 4, none⟩ = some (.int .i64 head) := HT2.out.cell HTB.out.2.2
  obtain ⟨nr, hnr⟩ : ∃ nr : Nat, rows + 1 = (nr : Int) := ⟨(rows + 1).toNat, by omega⟩
  have HNR := Lib.hid hnr
  have hmk := fun w => make_used (rows + 1) nr hnr (by omega) w
  have HFS := Lib.hid (show FrS 41 4 w tbA w2.heap.size nr (fre0 T (head + 1)) (w2.alloc (.cells (madeCells #[.bool false] nr) 4)) from
    ⟨HB2.out.alloc HB2.out.size _, HT2.out.alloc _, (OwnB.make 4 nr).congr (fun q hq => by rw [← HTR.out.1.2.2]; exact fre0_start T q), hsz2⟩)
  clear hnr
  go_upto_region 6 with fail
  obtain ⟨w3, hw3⟩ : ∃ w3, w3 = w2.alloc (Obj.cells (madeCells #[.bool false] nr) 4) := ⟨_, rfl⟩
  have HS3 := Lib.hid (show FrS 41 4 w tbA w2.heap.size nr (fre0 T (head + 1)) w3 by rw [hw3]; exact HFS.out)
  rw [← hw3]
  obtain ⟨g, hg⟩ : ∃ g, g = w2.heap.size := ⟨_, rfl⟩
  rw [← hg] at HS3 ⊢
  clear hw3 HFS t0 t4 hmk HT2 HB2 hsz2 hg
  go_wp2_with fail
  go_loopw [6] (fun rv wx => ∃ k : Int, rv = .int .i64 k ∧ head + 1 ≤ k ∧ (k ≤ rows ∨ k = head + 1) ∧ FrS 41 4 w tbA g nr (fre0 T k) wx) (fun rv _ => (rows - intOf rv).toNat)
  case atStart => exact ⟨head + 1, rfl, by omega, .inr rfl, HS3.out⟩
  case round =>
    clear HS3
    obtain ⟨k, rfl, hk1, hk2, hS⟩ := hrel
    have HS := Lib.hid hS
    have HK2 := Lib.hid hk2
    clear hS hk2
    have t0 : wr.cell? ⟨w.heap.size, 0, none⟩ = some (.int .i64 rows) := HS.out.tab.cell HTB.out.1
    by_cases hlt : k < rows
    · obtain ⟨p, hp⟩ : ∃ p : Nat, k = (p : Int) := ⟨k.toNat, by omega⟩
      have hpn : p < nr := by have := HNR.out; omega
      have hpn2 : (p : Int) < (nr : Int) := by omega
      have u1 := HS.out.own.frozen p
      have u0 := HS.out.own.cell hpn
      subst hp
      go_wp2_with fail
      go_roundw
      case rel => exact ⟨(p : Int) + 1, rfl, by omega, .inl (by omega), (HS.out.put p true).congr (fun q hq => fre0_put T p p rfl (by rw [HTR.out.1.2.2]; omega) q)⟩
      case measure => simp [intOf]; omega
    · have HSE := Lib.hid (show FrS 41 4 w tbA g nr (fre T 0 ((T.cell 0).row + 1)) wr from HS.out.congr (fun q hq => fre0_end T k (by rw [HTR.out.1.1]; omega) (by rw [HTR.out.1.1, HTR.out.1.2.2]; exact HK2.out) (by rw [HTR.out.1.1, HTR.out.1.2.2]; omega) q))
      obtain ⟨wa, rfl⟩ : ∃ wa : World, wa = wr := ⟨_, rfl⟩
      have t2 : wa.cell? ⟨w.heap.size, 2, none⟩ = some (.slice ta tn tc) := HSE.out.tab.cell HTB.out.2.1
      clear HS HK2
      go_wp2_with fail
      go_loopw [37] (fun iv wx => ∃ i : Nat, iv = .int .i64 i ∧ i ≤ tn ∧ FrS 41 4 w tbA g nr (fre T i ((T.cell i).row + 1)) wx) (fun iv _ => tn - (intOf iv).toNat)
      case atStart => exact ⟨0, rfl, by omega, HSE.out⟩
      case round =>
        clear HSE t0 t2 hlt hk1
        obtain ⟨i, rfl, hi, hS⟩ := hrel
        have HS := Lib.hid hS
        clear hS
        obtain ⟨wb, rfl⟩ : ∃ wb : World, wb = wr := ⟨_, rfl⟩
        by_cases hin : i < tn
        · have hin2 : (i : Int) < (tn : Int) := by omega
          have hcs := HC.out.1.below (Nat.le_refl _) HS.out.below
          rw [HTT.out] at hcs
          obtain ⟨b, off, hba, hcellG⟩ := hcs (by show 0 < tn; omega)
          have hcell := hcellG i hin
          obtain ⟨x, hx⟩ : ∃ x, x = T.cell i := ⟨_, rfl⟩
          have HX := Lib.hid hx
          have hcc := tab_cell H0.out (i := i) (by rw [HTR.out.2.1]; exact hin)
          rw [HTR.out.1.1, HTR.out.1.2.1, ← hx] at hcc
          simp only at hcell hba
          rw [show tcell i = x by rw [hx, HTT.out]] at hcell
          rw [← hx] at HS
          clear hcellG hcs hx
          obtain ⟨row, col, ch, cw, np, ap, cp, par, pad, mn, pref, cnode⟩ := x
          simp only at hcc HS
          obtain ⟨⟨q1, q2, q3⟩, _⟩ := hcc
          have d0 : wb.cell? ⟨b, off + i * 9, none⟩ = some (.int .i64 row) := hcell 0 (by omega)
          have d1 : wb.cell? ⟨b, off + i * 9 + 1, none⟩ = some (.int .i64 col) := hcell 1 (by omega)
          have d2 : wb.cell? ⟨b, off + i * 9 + 2, none⟩ = some (.int .i64 ch) := hcell 2 (by omega)
          have d3 : wb.cell? ⟨b, off + i * 9 + 3, none⟩ = some (.int .i64 cw) := hcell 3 (by omega)
          have d4 : wb.cell? ⟨b, off + i * 9 + 4, none⟩ = some (.slice ap np cp) := hcell 4 (by omega)
          have d5 : wb.cell? ⟨b, off + i * 9 + 5, none⟩ = some (.int .i64 pad) := hcell 5 (by omega)
          have d6 : wb.cell? ⟨b, off + i * 9 + 6, none⟩ = some (.int .i64 mn) := hcell 6 (by omega)
          have d7 : wb.cell? ⟨b, off + i * 9 + 7, none⟩ = some (.int .i64 pref) := hcell 7 (by omega)
          have d8 : wb.cell? ⟨b, off + i * 9 + 8, none⟩ = some (.int .i64 cnode) := hcell 8 (by omega)
          have zb := lt_of_cell d0
          simp only at zb
          clear hcell
          subst hba
          go_upto_region 12 with fail
          obtain ⟨cbA, hcb⟩ : ∃ y : Array Value, y = #[.int .i64 row, .int .i64 col, .int .i64 ch, .int .i64 cw, .slice ap np cp, .int .i64 pad, .int .i64 mn, .int .i64 pref, .int .i64 cnode] := ⟨_, rfl⟩
          obtain ⟨wc, hwc⟩ : ∃ wc, wc = wb.alloc (Obj.cells #[.int .i64 row, .int .i64 col, .int .i64 ch, .int .i64 cw, .slice ap np cp, .int .i64 pad, .int .i64 mn, .int .i64 pref, .int .i64 cnode] 44) := ⟨_, rfl⟩
          have HSC := Lib.hid (show FrS 41 4 w tbA g nr (fre T i (row + 1)) wc from by rw [hwc]; exact HS.out.under ((Below.refl _ _).alloc (Nat.le_refl _) _))
          have HKC := Lib.hid (show Blk wc wb.heap.size cbA 44 from by rw [hwc, hcb]; exact Blk.new _ _ _)
          have HCB := Lib.hid (show cbA[0]? = some (.int .i64 row) ∧ cbA[2]? = some (.int .i64 ch) by rw [hcb]; exact ⟨rfl, rfl⟩)
          have HGK := Lib.hid (show g < wb.heap.size from HS.out.own.lt)
          rw [← hwc]
          obtain ⟨kc, hkc⟩ : ∃ kc, kc = wb.heap.size := ⟨_, rfl⟩
          rw [← hkc] at HKC HGK ⊢
          clear d0 d1 d2 d3 d4 d5 d6 d7 d8 zb hwc hcb hkc
          have c0 : wc.cell? ⟨kc, 0, none⟩ = some (.int .i64 row) := HKC.out.cell HCB.out.1
          go_wp2_with fail
          go_loopw [9] (fun cv wx => ∃ c : Int, cv = .int .i64 c ∧ row + 1 ≤ c ∧ c ≤ row + ch ∧ FrS 41 4 w tbA g nr (fre T i c) wx ∧ Blk wx kc cbA 44) (fun cv _ => (row + ch - intOf cv).toNat)
          case atStart => exact ⟨row + 1, rfl, by omega, by omega, HSC.out, HKC.out⟩
          case round =>
            clear c0 HSC HKC HS
            obtain ⟨c, rfl, hc1, hc2, hS, hK⟩ := hrel
            have HS := Lib.hid hS
            have HK := Lib.hid hK
            clear hS hK
            have c0 : wr.cell? ⟨kc, 0, none⟩ = some (.int .i64 row) := HK.out.cell HCB.out.1
            have c2 : wr.cell? ⟨kc, 2, none⟩ = some (.int .i64 ch) := HK.out.cell HCB.out.2
            by_cases hlt : c < row + ch
            · obtain ⟨p, hp⟩ : ∃ p : Nat, c = (p : Int) := ⟨c.toNat, by omega⟩
              have hpn : p < nr := by have := HNR.out; omega
              have hpn2 : (p : Int) < (nr : Int) := by omega
              have u1 := HS.out.own.frozen p
              have u0 := HS.out.own.cell hpn
              subst hp
              go_wp2_with fail
              go_roundw
              case rel => exact ⟨(p : Int) + 1, rfl, by omega, by omega, (HS.out.put p false).congr (fun q hq => fre_put T i p p rfl (by rw [← HX.out]; show row < _; omega) q), HK.out.other (by have := HGK.out; simp; omega) _⟩
              case measure => simp [intOf]; omega
            · have hce : c = row + ch := by omega
              have HSE := Lib.hid (show FrS 41 4 w tbA g nr (fre T (i + 1) ((T.cell (i + 1)).row + 1)) wr from HS.out.congr (fun q hq => fre_next T i c (by rw [← HX.out]; exact hce) q))
              clear hce
              go_wp2_with fail
              go_roundw
              case rel => exact ⟨i + 1, by go_num, by omega, HSE.out⟩
              case measure => simp [intOf]; omega
        · obtain rfl : i = tn := by omega
          have hnn : ¬ (i : Int) < (i : Int) := by omega
          have HSE := Lib.hid (show FrS 41 4 w tbA g nr (cutB T) wb from by
            have := HS.out
            rw [show i = T.n from HTR.out.2.1.symm] at this
            exact this)
          have hgk := HS.out.own.lt
          clear HS
          go_wp2_with fail
          go_loopw [10, 59] (fun ov iv wx => ∃ r : Nat, iv = .int .i64 r ∧ r ≤ nr ∧ FrS 41 4 w tbA g nr (cutB T) wx ∧ RowL wx (g + 1) 3 1 ov (cutL T r).length ((cutL T r).map (Value.int .i64))) (fun _ iv _ => nr - (intOf iv).toNat)
          case atStart => exact ⟨0, rfl, by omega, HSE.out, RowL.nil _ _ _ _⟩
          case round =>
            clear HSE hgk
            obtain ⟨r, rfl, hr, hS, hown⟩ := hrel
            have HS := Lib.hid hS
            have HO := Lib.hid hown
            clear hS hown
            have hnr5 : nr ≤ 501 := by have := HNR.out; omega
            by_cases hlt : r < nr
            · have hlt2 : (r : Int) < (nr : Int) := by omega
              have u0 := HS.out.own.cell hlt
              have hln := cutL_len T r
              have hgk := HS.out.own.lt
              obtain ⟨FB, hFB⟩ : ∃ FB, FB = cutB T r := ⟨_, rfl⟩
              rw [← hFB] at u0
              have HFB := Lib.hid hFB
              clear hFB
              cases FB
              · have HL := Lib.hid (cutL_no HFB.out.symm)
                go_wp2_with fail
                go_roundw
                case rel => exact ⟨r + 1, by go_num, by omega, HS.out, by rw [HL.out]; exact HO.out⟩
                case measure => simp [intOf]; omega
              · have HL := Lib.hid (cutL_yes HFB.out.symm)
                obtain ⟨av, cv, hv, hxc, hcm⟩ := RowL.slice HO.out
                obtain ⟨ii, hii, hz0, hz1, hz2⟩ := HI.out
                obtain ⟨ln, hlnE⟩ : ∃ ln, ln = (cutL T r).length := ⟨_, rfl⟩
                have HLN := Lib.hid hlnE
                have hown := HO.out
                rw [← hlnE] at hln hown hxc hv
                subst hv
                clear hlnE
                go_upto_region 22 with fail
                go_wp2_with (at_builtin; refine wpList_append_own _ rfl _ _ 45 rfl (g + 1) 3 ii (.int .i64 0) 1 8 Try.underlying45 hii hz0 hz1 hz2 rfl (by decide) _ _ _ rfl (RowL.alloc hown _) ⟨wr.heap.size, 0, none⟩ 1 1 [.int .i64 r] rfl rfl ?k1 ?k2 ?k3 ?k4 ?k5 ?_)
                try (case k1 =>
                  intro j u hj
                  match j, hj with
                  | 0, hj => (simp at hj; subst hj; simp [Addr.add]))
                try (case k2 => first | rfl | (intro u hu; simp at hu; subst hu; rfl))
                try (case k3 => unfold maxLen; omega)
                try (case k4 => omega)
                try (case k5 => (try simp); (try omega))
                intro v6 w6 hown6 hgrow _
                have HS6 := Lib.hid ((HS.out.under ((Below.refl _ _).alloc (Nat.le_refl _) _)).grown (RowL.alloc hown _) (by omega) hgrow)
                have HO6 := Lib.hid (show RowL w6 (g + 1) 3 1 v6 (cutL T (r + 1)).length ((cutL T (r + 1)).map (Value.int .i64)) from by
                  rw [HL.out, List.map_append, List.length_append, ← HLN.out]; exact hown6)
                clear hown hown6 hgrow hii hz0 hz1 hz2 u0 hgk
                go_wp2_with fail
                go_roundw
                case rel => exact ⟨r + 1, by go_num, by omega, HS6.out, HO6.out⟩
                case measure => simp [intOf]; omega
            · obtain rfl : r = nr := by omega
              have hnn2 : ¬ (r : Int) < (r : Int) := by omega
              obtain ⟨av, cv, hv, hxc, hcm⟩ := RowL.slice HO.out
              have hap := HS.out.apart
              have e : (T.rows + 1).toNat = r := by rw [HTR.out.1.1]; have := HNR.out; omega
              have hO := HO.out
              rw [← e] at hO
              have HPO := Lib.hid (RowL.mono (base' := w.heap.size) hO (by omega))
              clear hO e
              have HV := Lib.hid hv
              clear hv hap hxc hcm
              go_wp2_with fail
              go_ret2
              exact ⟨_, rfl, HPO.out, HS.out.below⟩
theorem headE_low {t : TabD} (h : t.head < 1 ∨ t.rows ≤ t.head) : headE t = 0 := by unfold headE; rw [if_pos h]
theorem headE_over {t : TabD} (h : ¬ (t.head < 1 ∨ t.rows ≤ t.head)) {i : Nat} (hi : i < t.n) (ho : over (t.cell i) t.head) : headE t = 0 := by unfold headE; rw [if_neg h, if_pos ⟨i, hi, ho⟩]
theorem headE_free {t : TabD} (h : ¬ (t.head < 1 ∨ t.rows ≤ t.head)) (ho : ∀ i, i < t.n → ¬ over (t.cell i) t.head) : headE t = t.head := by unfold headE; rw [if_neg h, if_neg (fun ⟨i, hi, hx⟩ => ho i hi hx)]
set_option maxHeartbeats 8000000 in
theorem head_any (t : TabD) (w : World) (hc : TabOk w t) (h0 : tabE t = 0) : Calls Try.prog 15 #[.agg t.cells.toArray] w fun e w' => e = .returned (.int .i64 (headE t)) ∧ Below w.heap.size w w' := by
  obtain ⟨T, hT⟩ : ∃ T, T = t := ⟨_, rfl⟩
  have HTT := Lib.hid hT
  obtain ⟨V, hV⟩ : ∃ V, V = headE t := ⟨_, rfl⟩
  rw [← hV]
  rw [← hT] at hc h0 hV
  have HV := Lib.hid hV
  have HC := Lib.hid hc
  have H0 := Lib.hid h0
  have HIN := Lib.hid (tab_in h0)
  have HN4 := Lib.hid (tabE_zero h0).2.1
  clear hc h0 hT hV
  obtain ⟨rows, cols, tn, ta, tc, tcell, width, head, align, tnode⟩ := t
  unfold TabD.cells
  have HBX := Lib.hid (show Below w.heap.size w (w.alloc (.cells #[.int .i64 rows, .int .i64 cols, .slice ta tn tc, .int .i64 width, .int .i64 head, .int .i64 align, .int .i64 tnode] 41)) from (Below.refl _ _).alloc (Nat.le_refl _) _)
  have HRT := Lib.hid (show (w.alloc (.cells #[.int .i64 rows, .int .i64 cols, .slice ta tn tc, .int .i64 width, .int .i64 head, .int .i64 align, .int .i64 tnode] 41)).rangeAt w.heap.size 0 [.int .i64 rows, .int .i64 cols, .slice ta tn tc, .int .i64 width, .int .i64 head, .int .i64 align, .int .i64 tnode] from fun j v hj => by rw [Nat.zero_add]; exact (Blk.new w _ _).cell (by simpa using hj))
  clear HRT
  have htr : (T.rows = rows ∧ T.cols = cols ∧ T.head = head) ∧ T.n = tn ∧ T.cell = tcell := by rw [HTT.out]; exact ⟨⟨rfl, rfl, rfl⟩, rfl, rfl⟩
  have hin := HIN.out
  rw [htr.1.1, htr.1.2.1, htr.1.2.2] at hin
  have hn4 := HN4.out
  rw [htr.2.1] at hn4
  obtain ⟨⟨b1, b2⟩, ⟨b3, b4⟩, b5, b6⟩ := hin
  have HTR := Lib.hid htr
  clear htr
  go_enter Try.func15, Try.ntmps15
  by_cases h1 : head < 1
  · have HE := Lib.hid (show V = 0 by rw [HV.out]; exact headE_low (.inl (by rw [HTR.out.1.2.2]; exact h1)))
    go_wp2_with fail
    go_ret
    exact ⟨by rw [HE.out]; rfl, HBX.out⟩
  by_cases h2 : rows ≤ head
  · have HE := Lib.hid (show V = 0 by rw [HV.out]; exact headE_low (.inr (by rw [HTR.out.1.2.2, HTR.out.1.1]; exact h2)))
    go_wp2_with fail
    go_ret
    exact ⟨by rw [HE.out]; rfl, HBX.out⟩
  have HNL := Lib.hid (show ¬ (T.head < 1 ∨ T.rows ≤ T.head) by rw [HTR.out.1.2.2, HTR.out.1.1]; omega)
  go_wp2_with fail
  obtain ⟨tbA, htb⟩ : ∃ y : Array Value, y = #[.int .i64 rows, .int .i64 cols, .slice ta tn tc, .int .i64 width, .int .i64 head, .int .i64 align, .int .i64 tnode] := ⟨_, rfl⟩
  obtain ⟨w2, hw2⟩ : ∃ w2, w2 = w.alloc (.cells #[.int .i64 rows, .int .i64 cols, .slice ta tn tc, .int .i64 width, .int .i64 head, .int .i64 align, .int .i64 tnode] 41) := ⟨_, rfl⟩
  have HB2 := Lib.hid (show Below w.heap.size w w2 by rw [hw2]; exact HBX.out)
  have HT2 := Lib.hid (show Blk w2 w.heap.size tbA 41 by rw [hw2, htb]; exact Blk.new w _ _)
  have HTB := Lib.hid (show tbA[4]? = some (.int .i64 head) by rw [htb]; rfl)
  rw [← hw2]
  clear htb hw2 HBX
  go_loopw [18] (fun iv wx => ∃ i : Nat, iv = .int .i64 i ∧ i ≤ tn ∧ (∀ j, j < i → ¬ over (T.cell j) T.head) ∧ Below w.heap.size w wx ∧ Blk wx w.heap.size tbA 41) (fun iv _ => tn - (intOf iv).toNat)
  case atStart => exact ⟨0, rfl, by omega, fun j hj => by omega, HB2.out, HT2.out⟩
  case round =>
    clear HB2 HT2
    obtain ⟨i, rfl, hi, hno, hbel, htab⟩ := hrel
    have HNO := Lib.hid hno
    have HB := Lib.hid hbel
    have HT := Lib.hid htab
    have t4 : wr.cell? ⟨w.heap.size, 4, none⟩ = some (.int .i64 head) := HT.out.cell HTB.out
    have zt := htab.lt
    clear hno hbel htab
    by_cases hin : i < tn
    · have hin2 : (i : Int) < (tn : Int) := by omega
      have hcs := HC.out.1.below (Nat.le_refl _) HB.out
      rw [HTT.out] at hcs
      obtain ⟨b, off, hba, hcellG⟩ := hcs (by show 0 < tn; omega)
      have hcell := hcellG i hin
      obtain ⟨x, hx⟩ : ∃ x, x = T.cell i := ⟨_, rfl⟩
      have HX := Lib.hid hx
      have hcc := tab_cell H0.out (i := i) (by rw [HTR.out.2.1]; exact hin)
      rw [HTR.out.1.1, HTR.out.1.2.1, ← hx] at hcc
      simp only at hcell hba
      rw [show tcell i = x by rw [hx, HTT.out]] at hcell
      clear hcellG hcs hx
      obtain ⟨row, col, ch, cw, np, ap, cp, par, pad, mn, pref, cnode⟩ := x
      simp only at hcc
      obtain ⟨⟨q1, q2, q3⟩, _⟩ := hcc
      have d0 : wr.cell? ⟨b, off + i * 9, none⟩ = some (.int .i64 row) := hcell 0 (by omega)
      have d1 : wr.cell? ⟨b, off + i * 9 + 1, none⟩ = some (.int .i64 col) := hcell 1 (by omega)
      have d2 : wr.cell? ⟨b, off + i * 9 + 2, none⟩ = some (.int .i64 ch) := hcell 2 (by omega)
      have d3 : wr.cell? ⟨b, off + i * 9 + 3, none⟩ = some (.int .i64 cw) := hcell 3 (by omega)
      have d4 : wr.cell? ⟨b, off + i * 9 + 4, none⟩ = some (.slice ap np cp) := hcell 4 (by omega)
      have d5 : wr.cell? ⟨b, off + i * 9 + 5, none⟩ = some (.int .i64 pad) := hcell 5 (by omega)
      have d6 : wr.cell? ⟨b, off + i * 9 + 6, none⟩ = some (.int .i64 mn) := hcell 6 (by omega)
      have d7 : wr.cell? ⟨b, off + i * 9 + 7, none⟩ = some (.int .i64 pref) := hcell 7 (by omega)
      have d8 : wr.cell? ⟨b, off + i * 9 + 8, none⟩ = some (.int .i64 cnode) := hcell 8 (by omega)
      have zb := lt_of_cell d0
      simp only at zb
      clear hcell
      subst hba
      by_cases hov : row < head ∧ head < row + ch
      · have HE := Lib.hid (show V = 0 by rw [HV.out]; exact headE_over HNL.out (i := i) (by rw [HTR.out.2.1]; exact hin) (by rw [HTR.out.1.2.2, ← HX.out]; exact hov))
        obtain ⟨o1, o2⟩ := hov
        go_wp2_with fail
        go_ret
        exact ⟨by rw [HE.out]; rfl, HB.out.alloc (by omega) _⟩
      · have HNE := Lib.hid (show ¬ over (T.cell i) T.head by rw [HTR.out.1.2.2, ← HX.out]; exact hov)
        by_cases o1 : row < head
        · have o2 : ¬ head < row + ch := by omega
          clear hov
          go_wp2_with fail
          go_roundw
          case rel => exact ⟨i + 1, by go_num, by omega, fun j hj => by
            rcases Nat.lt_or_ge j i with h | h
            · exact HNO.out j h
            · rw [show j = i by omega]; exact HNE.out, HB.out.alloc (by omega) _, HT.out.alloc _⟩
          case measure => simp [intOf]; omega
        · clear hov
          go_wp2_with fail
          go_roundw
          case rel => exact ⟨i + 1, by go_num, by omega, fun j hj => by
            rcases Nat.lt_or_ge j i with h | h
            · exact HNO.out j h
            · rw [show j = i by omega]; exact HNE.out, HB.out.alloc (by omega) _, HT.out.alloc _⟩
          case measure => simp [intOf]; omega
    · obtain rfl : i = tn := by omega
      have hnn : ¬ (i : Int) < (i : Int) := by omega
      have HE := Lib.hid (show V = head by rw [HV.out, headE_free HNL.out (fun j hj => HNO.out j (by rw [HTR.out.2.1] at hj; exact hj)), HTR.out.1.2.2])
      go_wp2_with fail
      go_ret
      exact ⟨by rw [HE.out]; rfl, HB.out⟩
end Go.Proofs.Ytabnohphgegflaa.TB
