

/-
  Expand.
-/
import Derived.Test.YtnigebnibikolabPxCut
import Derived.Test.YtnigebnibikolabPxSt
import Derived.Laws.AppendOwnNone
import Derived.Laws.RangeString
import Derived.Laws.RangeAny
import Derived.Laws.Runes
import Derived.Deep.CutRange
import Derived.Deep.CutBlock
import Derived.StillTailTactics
namespace Go.Proofs.Ytnigebnibikolab.PX
open Go.RowKit Go.Law Go.Law.Px
set_option linter.unusedVariables false
set_option linter.unusedSimpArgs false
set_option maxRecDepth 100000
def ExPost (w : World) (R : List Int × Int) (e : Ending) (w' : World) : Prop := ∃ v, e = .returned (.tuple #[v, .int .i64 R.2]) ∧ RowL w' w.heap.size 3 1 v R.1.length (R.1.map (Value.int .i64)) ∧ Below w.heap.size w w'
set_option maxHeartbeats 8000000 in
theorem exp_any (s : ByteArray) (f0 t0 : Int) (nT : Nat) (T : Nat → Int) (aT : Option Addr) (cT nG : Nat) (G : Nat → Nat → Int) (aG : Option Addr) (cG : Nat) (w : World) (hT : IntsF w aT nT T) (hG : StrF w aG nG 2 G)
    (hT0 : aT = none → cT = 0) (hG0 : aG = none → cG = 0) (hTc : nT ≤ cT) (hGc : nG ≤ cG) (hs : s.size ≤ 1048576) (hnT : nT ≤ 1048576) (hcT : cT ≤ 1000000000000000) (hnG : cG ≤ 8796093021952) :
    Calls Try.prog 4 #[.string s, .slice aT nT cT, .agg #[.int .i64 f0, .int .i64 t0, .slice aG nG cG]] w (ExPost w (tmplF s f0 t0 nG G nT T)) := by
  obtain ⟨ER, hER⟩ : ∃ ER, ER = tmplF s f0 t0 nG G nT T := ⟨_, rfl⟩
  have HER := Lib.hid hER
  rw [← hER]
  have HT := Lib.hid hT
  have HG := Lib.hid hG
  have hIS := info_parts (show (Try.prog.info? 30).map (fun i => (i.zero, i.size, i.bytes)) = some (some (.agg #[.int .i64 0, .int .i64 0]), 2, 16) by kernel_rfl)
  have HIS := Lib.hid hIS
  have hII := info_parts (show (Try.prog.info? 3).map (fun i => (i.zero, i.size, i.bytes)) = some (some (.int .i64 0), 1, 8) by kernel_rfl)
  have HII := Lib.hid hII
  obtain ⟨SC, hSC⟩ : ∃ SC, SC = spC f0 t0 nG G := ⟨_, rfl⟩
  have HSC := Lib.hid hSC
  clear hT hG hIS hII hER hSC
  go_enter Try.func4, Try.ntmps4
  go_upto_region 1 with fail
  obtain ⟨w1, hw1⟩ : ∃ w1, w1 = w.alloc (Obj.cells #[.int .i64 f0, .int .i64 t0, .slice aG nG cG] 25) := ⟨_, rfl⟩
  rw [← hw1]
  have hb1 : Below w.heap.size w w1 := by rw [hw1]; exact (Below.refl _ _).alloc (Nat.le_refl _) _
  have q1 : Blk w1 w.heap.size #[.int .i64 f0, .int .i64 t0, .slice aG nG cG] 25 := by rw [hw1]; exact Blk.new _ _ _
  have hs1 : w.heap.size ≤ w1.heap.size := hb1.size
  have x0 := q1.cell (i := 0) rfl
  have x1 := q1.cell (i := 1) rfl
  have x2 := q1.cell (i := 2) rfl
  have zx := q1.lt
  clear hw1 q1
  go_cut [8] from 19 (fun sv wx => ∃ a c, sv = .slice a (1 + nG) c ∧ RowL wx w.heap.size 30 2 sv (1 + nG) SC ∧ Below w.heap.size w wx)
  case first =>
    rcases aG with _ | ad
    · obtain rfl : cG = 0 := hG0 rfl
      obtain rfl : nG = 0 := by omega
      have hr := row_single (w := w1) (base := w.heap.size) (e := 30) (cs := [.int .i64 f0, .int .i64 t0]) (s := 2) rfl hs1
      have HR := Lib.hid hr
      have HB1 := Lib.hid hb1
      clear hr hG0 hT0 hb1
      go_wp2_with fail
      go_meet
      exact ⟨_, _, rfl, by rw [HSC.out]; exact HR.out, HB1.out.alloc hs1 _⟩
    · have hr := row_single (w := w1) (base := w.heap.size) (e := 30) (cs := [.int .i64 f0, .int .i64 t0]) (s := 2) rfl hs1
      have HR := Lib.hid hr
      have HB1 := Lib.hid hb1
      have hb2 := hb1.alloc hs1 (Obj.cells #[.int .i64 f0, .int .i64 t0] 30)
      have hnews : ∀ j u, ((List.range (nG * 2)).map (fun j => Value.int .i64 (G (j / 2) (j % 2))))[j]? = some u → (w1.alloc (Obj.cells #[.int .i64 f0, .int .i64 t0] 30)).cell? (ad.add j) = some u := by
        by_cases h0 : nG = 0
        · subst h0; intro j u h; simp at h
        · obtain ⟨b, off, hb, hc⟩ := HG.out.below (Nat.le_refl _) hb2 (by omega)
          cases hb
          exact pairs_cells hc
      have HN := Lib.hid hnews
      obtain ⟨ii, hii, hz0, hz1, hz2⟩ := HIS.out
      clear hr hG0 hT0 hb1 hb2 hnews
      go_wp2_with (at_builtin; go_loud (refine wpList_append_own _ rfl _ _ 23 rfl (w.heap.size) 30 ii _ 2 16 Try.underlying23 hii hz0 hz1 hz2 rfl (by decide) _ _ _ rfl HR.out ad nG cG ((List.range (nG * 2)).map (fun j => Value.int .i64 (G (j / 2) (j % 2)))) rfl (by simp) HN.out ?k2 ?k3 ?k4 ?k5 ?_))
      case k2 => intro u hu; simp at hu; obtain ⟨_, _, rfl⟩ := hu; rfl
      case k3 => unfold maxLen; omega
      case k4 => omega
      case k5 => (try simp); (try omega)
      intro v5 w5 hown hgrow _
      obtain ⟨a5, c5, rfl, _, _⟩ := RowL.slice hown
      have HO := Lib.hid hown
      have HB5 := Lib.hid (Below.grown (HB1.out.alloc hs1 (Obj.cells #[.int .i64 f0, .int .i64 t0] 30)) hgrow (by simp; omega) (fun k hk => RowL.ge HR.out k hk))
      clear hown hgrow hii hz0 hz1 hz2
      go_wp2_with fail
      go_meet
      exact ⟨_, _, rfl, by rw [HSC.out]; exact HO.out, HB5.out⟩
  case rest =>
  obtain ⟨aS, cS, rfl, hrow, hbel⟩ := hcut
  obtain ⟨gS, capS, hv, hg1, hg2, _, _, _, _⟩ := RowL.at hrow (by omega)
  obtain ⟨rfl, rfl⟩ : aS = some ⟨gS, 0, none⟩ ∧ cS = capS := by cases hv; exact ⟨rfl, rfl⟩
  have HPX := Lib.hid (show PxS 30 3 w.heap.size w (.slice (some ⟨gS, 0, none⟩) (1 + nG) cS) (1 + nG) SC (.slice none 0 0) [] wc from ⟨hbel, hbel.size, hrow, RowL.nil _ _ _ _, by decide⟩)
  clear x0 x1 x2 zx hb1 hs1 hrow hbel hv hg1 hg2
  by_cases h9 : 9 < nG
  · have HE := Lib.hid (show ER = ([], 3) by rw [HER.out]; unfold tmplF; rw [if_pos h9])
    go_wp2_with fail
    go_ret2
    exact ⟨_, by rw [HE.out]; rfl, by rw [HE.out]; exact RowL.nil _ _ _ _, HPX.out.below⟩
  · go_wp2_with fail
    go_loopw [33] (fun iv wr => ∃ i : Nat, iv = .int .i64 i ∧ i ≤ 1 + nG ∧ (∀ k, k < i → ¬ badS k (spF f0 t0 G k).1 (spF f0 t0 G k).2 nT) ∧ PxS 30 3 w.heap.size w (.slice (some ⟨gS, 0, none⟩) (1 + nG) cS) (1 + nG) SC (.slice none 0 0) [] wr) (fun iv _ => 1 + nG - (intOf iv).toNat)
    case atStart => exact ⟨0, rfl, by omega, fun k hk => by omega, HPX.out⟩
    case round =>
      obtain ⟨i, rfl, hi, hall, hO⟩ := hrel
      have HO := Lib.hid hO
      have HALL := Lib.hid hall
      clear hO hall HPX
      by_cases hin : i < 1 + nG
      · have hg := spC_get (f := f0) (t := t0) (G := G) hin
        rw [← HSC.out] at hg
        have d0 := HO.out.at (by omega) hg.1
        have d1 := HO.out.at (by omega) hg.2
        have zb := lt_of_cell d0
        simp only at zb
        have HBY := Lib.hid (fun h => badAny_yes (f := f0) (t := t0) (n := nG) (G := G) (nT := nT) hin h)
        have HNX := Lib.hid (show ¬ badS i (spF f0 t0 G i).1 (spF f0 t0 G i).2 nT → ∀ k, k < i + 1 → ¬ badS k (spF f0 t0 G k).1 (spF f0 t0 G k).2 nT from fun h k hk => by
          by_cases hki : k = i
          · subst hki; exact h
          · exact HALL.out k (by omega))
        obtain ⟨F, hF⟩ : ∃ y, y = (spF f0 t0 G i).1 := ⟨_, rfl⟩
        obtain ⟨U, hU⟩ : ∃ y, y = (spF f0 t0 G i).2 := ⟨_, rfl⟩
        rw [← hF, ← hU] at HBY
        rw [show (spF f0 t0 G i).1 = F from hF.symm, show (spF f0 t0 G i).2 = U from hU.symm] at HNX
        rw [← hF] at d0
        rw [← hU] at d1
        have hi2 : (i : Int) < 1 + (nG : Int) := by omega
        clear hg hF hU
        by_cases hi0 : i = 0
        · subst hi0
          have HCN := Lib.hid (show (0 = 0 ∨ F ≠ -1 ∨ U ≠ -1) from .inl rfl)
          by_cases c1 : F < 0
          · have HE := Lib.hid (show ER = ([], 2) by rw [HER.out]; unfold tmplF; rw [if_neg h9, if_pos (HBY.out ⟨HCN.out, .inl c1⟩)])
            clear HBY HNX HCN
            go_wp2_with fail
            go_ret2
            exact ⟨_, by rw [HE.out]; rfl, by rw [HE.out]; exact RowL.nil _ _ _ _, (HO.out.under ((Below.refl _ _).alloc (Nat.le_refl _) _)).below⟩
          · by_cases c2 : U < F
            · have HE := Lib.hid (show ER = ([], 2) by rw [HER.out]; unfold tmplF; rw [if_neg h9, if_pos (HBY.out ⟨HCN.out, .inr (.inl c2)⟩)])
              clear HBY HNX HCN
              go_wp2_with fail
              go_ret2
              exact ⟨_, by rw [HE.out]; rfl, by rw [HE.out]; exact RowL.nil _ _ _ _, (HO.out.under ((Below.refl _ _).alloc (Nat.le_refl _) _)).below⟩
            · by_cases c3 : (nT : Int) < U
              · have HE := Lib.hid (show ER = ([], 2) by rw [HER.out]; unfold tmplF; rw [if_neg h9, if_pos (HBY.out ⟨HCN.out, .inr (.inr c3)⟩)])
                clear HBY HNX HCN
                go_wp2_with fail
                go_ret2
                exact ⟨_, by rw [HE.out]; rfl, by rw [HE.out]; exact RowL.nil _ _ _ _, (HO.out.under ((Below.refl _ _).alloc (Nat.le_refl _) _)).below⟩
              · have hn := Lib.hid (HNX.out (fun h => h.2.elim c1 (fun h => h.elim c2 c3)))
                clear HBY HNX HCN
                go_wp2_with fail
                go_roundw
                case rel => exact ⟨0 + 1, by go_num, by omega, hn.out, HO.out.under ((Below.refl _ _).alloc (Nat.le_refl _) _)⟩
                case measure => (simp [intOf] <;> omega)
        · have hi1 : (0 : Int) < i := by omega
          by_cases hF1 : F = -1
          · subst hF1
            by_cases hU1 : U = -1
            · subst hU1
              have hn := Lib.hid (HNX.out (fun h => h.1.elim hi0 (fun h => h.elim (fun h => h rfl) (fun h => h rfl))))
              clear HBY HNX
              go_wp2_with fail
              go_roundw
              case rel => exact ⟨i + 1, by go_num, by omega, hn.out, HO.out.under ((Below.refl _ _).alloc (Nat.le_refl _) _)⟩
              case measure => (simp [intOf] <;> omega)
            · have hU2 : (U == -1) = false := by simpa using hU1
              have HE := Lib.hid (show ER = ([], 2) by rw [HER.out]; unfold tmplF; rw [if_neg h9, if_pos (HBY.out ⟨.inr (.inr hU1), .inl (by omega)⟩)])
              clear HBY HNX hU1
              go_wp2_with fail
              go_ret2
              exact ⟨_, by rw [HE.out]; rfl, by rw [HE.out]; exact RowL.nil _ _ _ _, (HO.out.under ((Below.refl _ _).alloc (Nat.le_refl _) _)).below⟩
          · have hF2 : (F == -1) = false := by simpa using hF1
            have HCN := Lib.hid (show (i = 0 ∨ F ≠ -1 ∨ U ≠ -1) from .inr (.inl hF1))
            clear hF1
            by_cases c1 : F < 0
            · have HE := Lib.hid (show ER = ([], 2) by rw [HER.out]; unfold tmplF; rw [if_neg h9, if_pos (HBY.out ⟨HCN.out, .inl c1⟩)])
              clear HBY HNX HCN
              go_wp2_with fail
              go_ret2
              exact ⟨_, by rw [HE.out]; rfl, by rw [HE.out]; exact RowL.nil _ _ _ _, (HO.out.under ((Below.refl _ _).alloc (Nat.le_refl _) _)).below⟩
            · by_cases c2 : U < F
              · have HE := Lib.hid (show ER = ([], 2) by rw [HER.out]; unfold tmplF; rw [if_neg h9, if_pos (HBY.out ⟨HCN.out, .inr (.inl c2)⟩)])
                clear HBY HNX HCN
                go_wp2_with fail
                go_ret2
                exact ⟨_, by rw [HE.out]; rfl, by rw [HE.out]; exact RowL.nil _ _ _ _, (HO.out.under ((Below.refl _ _).alloc (Nat.le_refl _) _)).below⟩
              · by_cases c3 : (nT : Int) < U
                · have HE := Lib.hid (show ER = ([], 2) by rw [HER.out]; unfold tmplF; rw [if_neg h9, if_pos (HBY.out ⟨HCN.out, .inr (.inr c3)⟩)])
                  clear HBY HNX HCN
                  go_wp2_with fail
                  go_ret2
                  exact ⟨_, by rw [HE.out]; rfl, by rw [HE.out]; exact RowL.nil _ _ _ _, (HO.out.under ((Below.refl _ _).alloc (Nat.le_refl _) _)).below⟩
                · have hn := Lib.hid (HNX.out (fun h => h.2.elim c1 (fun h => h.elim c2 c3)))
                  clear HBY HNX HCN
                  go_wp2_with fail
                  go_roundw
                  case rel => exact ⟨i + 1, by go_num, by omega, hn.out, HO.out.under ((Below.refl _ _).alloc (Nat.le_refl _) _)⟩
                  case measure => (simp [intOf] <;> omega)
      · obtain rfl : i = 1 + nG := by omega
        have HEQ := Lib.hid (show ER = expL (1 + nG) (segF f0 t0 G T) (runesL s.data.toList) false [] by
          rw [HER.out]; unfold tmplF
          rw [if_neg h9, if_neg (by rw [badAny_no HALL.out]; decide)])
        clear hin hi
        rw [show ((1 + nG : Nat) : Int) = 1 + (nG : Int) from by omega]
        go_wp2_with fail
        go_loopw [11, 12] (fun v rv wr => ∃ (r : ByteArray) (acc : List Int), rv = .string r ∧ ER = expL (1 + nG) (segF f0 t0 G T) (runesL r.data.toList) false acc ∧ r.size ≤ s.size ∧ acc.length ≤ (s.size - r.size) * 1048577 ∧ PxS 30 3 w.heap.size w (.slice (some ⟨gS, 0, none⟩) (1 + nG) cS) (1 + nG) SC v acc wr) (fun _ rv _ => strLen rv)
        case atStart => exact ⟨s, [], rfl, HEQ.out, Nat.le_refl _, by simp, HO.out⟩
        case round =>
          obtain ⟨r, acc, rfl, hE, hrs, hal, hO⟩ := hrel
          replace HO := Lib.hid hO
          have HE := Lib.hid hE
          clear hE hO HEQ
          by_cases hr0 : r.size = 0
          · have e1 : r.toList = [] := by rw [Lib.toList_data]; exact List.eq_nil_of_length_eq_zero (by rw [Array.length_toList]; exact hr0)
            have HV := Lib.hid (show ER = (acc, 0) by
              have h := HE.out
              rw [← Lib.toList_data, e1] at h
              exact h)
            clear hr0 HE
            go_wp2_with fail
            go_ret2
            exact ⟨_, by rw [HV.out]; rfl, by rw [HV.out]; exact HO.out.out, HO.out.below⟩
          · have e1 : r.toList.isEmpty = false := by
              cases h : r.toList.isEmpty
              · rfl
              · rw [List.isEmpty_iff, Lib.toList_data] at h
                have : r.data.toList.length = r.size := Array.length_toList
                rw [h] at this
                exact absurd this.symm hr0
            have HR0 := Lib.hid hr0
            clear hr0
            by_cases hc : cutI r < 0
            · have HC := Lib.hid hc
              clear hc
              go_wp2_with fail
              refine (cut_no r _ HC.out (by omega)).mono ?_
              rintro e w2 ⟨rfl, rfl⟩
              go_wp2_with fail
              have HW := HO
              obtain ⟨w3, hw3⟩ : ∃ w3, w3 = (wr).iter r 0 := ⟨_, rfl⟩
              obtain ⟨K, hK⟩ : ∃ K, K = (wr).heap.size := ⟨_, rfl⟩
              have hit3 : w3.heap[K]? = some (.stringIter r 0) := by rw [hw3, hK]; show (((wr).heap.push _)[_]?) = _; simp
              have hO3 := HW.out.under (w' := w3) (by rw [hw3]; exact (Below.refl _ _).alloc (Nat.le_refl _) _)
              have hBK : w.heap.size ≤ K := by rw [hK]; exact HW.out.low
              rw [← hw3, ← hK]
              have HO3 := Lib.hid hO3
              have HIT := Lib.hid hit3
              clear hw3 hK hit3 hO3 HO HW
              go_loopw [11] (fun v wy => ∃ (pos : Nat) (acc' : List Int), acc ++ runesL (r).data.toList = acc' ++ runesL ((r).data.toList.drop pos) ∧ pos ≤ (r).size ∧ acc'.length ≤ acc.length + pos ∧ wy.heap[K]? = some (.stringIter r pos) ∧ PxS 30 3 w.heap.size w (.slice (some ⟨gS, 0, none⟩) (1 + nG) cS) (1 + nG) SC v acc' wy) (fun _ wy => (r).size - wy.iterPos K)
              case atStart => exact ⟨0, acc, by rw [List.drop_zero], Nat.zero_le _, Nat.le_refl _, HIT.out, HO3.out⟩
              case round =>
                obtain ⟨pos, acc', hq, hpos, hac, hit, hY⟩ := hrel
                have HY := Lib.hid hY
                have HEQ2 := Lib.hid hq
                replace HIT := Lib.hid hit
                clear hY hq hit HO3
                by_cases hp : pos < r.size
                · have hnx : ∀ ty, (Instr.next (.pointer (some ⟨K, 0, none⟩)) true ty).run Try.prog wr = _ := fun ty => Lib.run_next_any_at wr K r pos ty HIT.out hp
                  obtain ⟨hst, hwd1, hwd2⟩ := runes_at (s := r) hp
                  obtain ⟨x, hx⟩ : ∃ x, x = (Utf8.decode r pos).1 := ⟨_, rfl⟩
                  obtain ⟨d, hd⟩ : ∃ d, d = (Utf8.decode r pos).2 := ⟨_, rfl⟩
                  have hxb := decode_le r pos
                  rw [← hx] at hxb
                  rw [← hx, ← hd] at hnx hst
                  rw [← hd] at hwd1 hwd2
                  have HST := Lib.hid (show acc ++ runesL (r).data.toList = (acc' ++ [(x : Int)]) ++ runesL ((r).data.toList.drop (pos + d)) by rw [HEQ2.out, hst, List.append_assoc]; rfl)
                  obtain ⟨wz, hwz⟩ : ∃ wz, wz = wr.iterAt K r (pos + d) := ⟨_, rfl⟩
                  have hitz : wz.heap[K]? = some (.stringIter r (pos + d)) := by rw [hwz]; exact Lib.iterAt_heap _ _ _ _ _ HIT.out
                  have HZ := Lib.hid (show PxS 30 3 w.heap.size w (.slice (some ⟨gS, 0, none⟩) (1 + nG) cS) (1 + nG) SC _ acc' wz by rw [hwz]; exact HY.out.iter HIT.out hBK _)
                  rw [← hwz] at hnx
                  have hip : wr.iterPos K = pos := iterPos_of HIT.out
                  have HIP := Lib.hid hip
                  replace HIT := Lib.hid hitz
                  clear hst hx hd hwz hitz hip HY HEQ2
                  obtain ⟨ii, hii, hz0, hz1, hz2⟩ := HII.out
                  obtain ⟨av, cv, hv, hxc, hcm⟩ := RowL.slice HZ.out.out
                  have HCV := Lib.hid hcm
                  subst hv
                  clear hxc hcm
                  go_upto_region 18 with fail
                  clear hnx
                  go_wp2_with (at_builtin; go_loud (refine wpList_append_own _ rfl _ _ 22 rfl (w.heap.size) 3 ii _ 1 8 Try.underlying22 hii hz0 hz1 hz2 rfl (by decide) _ _ _ rfl (RowL.alloc HZ.out.out _) ⟨wz.heap.size, 0, none⟩ 1 1 [.int .i64 ((x : Int))] rfl rfl ?k1a ?k2a ?k3a ?k4a ?k5a ?_))
                  try (case k1a =>
                    intro j u hj
                    match j, hj with
                    | 0, hj => (simp at hj; subst hj; simp [Addr.add]))
                  case k2a => first | rfl | (intro u hu; simp at hu; subst hu; rfl)
                  case k3a => unfold maxLen; (try simp); (try omega)
                  case k4a => (try simp); (try omega)
                  case k5a => have := HZ.out.low; (try simp); (try omega)
                  intro v5 w5 hown hgrow _
                  have hit5 := iter_grown (HZ.out.under ((Below.refl _ _).alloc (Nat.le_refl _) _)) (by rw [Below.heap_alloc _ _ _ (Array.getElem?_eq_some_iff.1 HIT.out).1]; exact HIT.out) hgrow
                  have HS5 := Lib.hid ((HZ.out.under ((Below.refl _ _).alloc (Nat.le_refl _) _)).grown (l := [(x : Int)]) hgrow hown)
                  have HI5 := Lib.hid hit5
                  have HP5 := Lib.hid (iterPos_of hit5)
                  clear hown hgrow hii hz0 hz1 hz2 HZ hit5
                  go_wp2_with fail
                  go_roundw
                  case rel => exact ⟨pos + d, acc' ++ [(x : Int)], HST.out, hwd2, by simp; omega, HI5.out, HS5.out⟩
                  case measure => rw [HP5.out, HIP.out]; omega
                · have hnx : ∀ ty, (Instr.next (.pointer (some ⟨K, 0, none⟩)) true ty).run Try.prog wr = _ := fun ty => Lib.run_next_end_at wr K r pos ty HIT.out hp
                  have HV := Lib.hid (show ER = (acc', 0) by
                    rw [HE.out, expL_all (cut_none HC.out), HEQ2.out, runes_past hp, List.append_nil])
                  clear HEQ2 HE
                  go_wp2_with fail
                  go_ret2
                  exact ⟨_, by rw [HV.out]; rfl, by rw [HV.out]; exact HY.out.out, HY.out.below⟩
            · obtain ⟨o, ho⟩ : ∃ o : Nat, cutI r = o := ⟨(cutI r).toNat, by omega⟩
              obtain ⟨hor, hno, hcut⟩ := cut_some ho
              obtain ⟨hsz1, hsz2⟩ := cut_size hor
              obtain ⟨PL, hPL⟩ : ∃ y, y = r.extract 0 o := ⟨_, rfl⟩
              obtain ⟨TL, hTL⟩ : ∃ y, y = r.extract (o + 1) r.size := ⟨_, rfl⟩
              have hcy := fun w1 => cut_yes r w1 o ho (by omega)
              rw [← hPL, ← hTL] at hcy hcut
              rw [← hPL] at hno hsz2
              rw [← hTL] at hsz1
              have HCY := Lib.hid hcy
              have HNO := Lib.hid hno
              have HCUT := Lib.hid hcut
              have hPs : PL.size ≤ o := by omega
              have hTs : TL.size + (o + 1) ≤ r.size ∧ r.size ≤ TL.size + (o + 1) := by omega
              clear hc ho hno hcut hPL hTL hcy hsz1 hsz2
              go_wp2_with fail
              refine (HCY.out _).mono ?_
              rintro e w2 ⟨rfl, kd, rfl⟩
              obtain ⟨w2, hw2⟩ : ∃ w2, w2 = wr.drewN kd := ⟨_, rfl⟩
              have HW := Lib.hid (HO.out.under (w' := w2) (by rw [hw2]; exact below_drewN (Below.refl _ _) _))
              rw [← hw2]
              clear hw2
              go_wp2_with fail
              obtain ⟨w3, hw3⟩ : ∃ w3, w3 = (w2).iter PL 0 := ⟨_, rfl⟩
              obtain ⟨K, hK⟩ : ∃ K, K = (w2).heap.size := ⟨_, rfl⟩
              have hit3 : w3.heap[K]? = some (.stringIter PL 0) := by rw [hw3, hK]; show (((w2).heap.push _)[_]?) = _; simp
              have hO3 := HW.out.under (w' := w3) (by rw [hw3]; exact (Below.refl _ _).alloc (Nat.le_refl _) _)
              have hBK : w.heap.size ≤ K := by rw [hK]; exact HW.out.low
              rw [← hw3, ← hK]
              have HO3 := Lib.hid hO3
              have HIT := Lib.hid hit3
              clear hw3 hK hit3 hO3 HO HW
              go_loopw [11] (fun v wy => ∃ (pos : Nat) (acc' : List Int), acc ++ runesL (PL).data.toList = acc' ++ runesL ((PL).data.toList.drop pos) ∧ pos ≤ (PL).size ∧ acc'.length ≤ acc.length + pos ∧ wy.heap[K]? = some (.stringIter PL pos) ∧ PxS 30 3 w.heap.size w (.slice (some ⟨gS, 0, none⟩) (1 + nG) cS) (1 + nG) SC v acc' wy) (fun _ wy => (PL).size - wy.iterPos K)
              case atStart => exact ⟨0, acc, by rw [List.drop_zero], Nat.zero_le _, Nat.le_refl _, HIT.out, HO3.out⟩
              case round =>
                obtain ⟨pos, acc', hq, hpos, hac, hit, hY⟩ := hrel
                have HY := Lib.hid hY
                have HEQ2 := Lib.hid hq
                replace HIT := Lib.hid hit
                clear hY hq hit HO3
                by_cases hp : pos < PL.size
                · have hnx : ∀ ty, (Instr.next (.pointer (some ⟨K, 0, none⟩)) true ty).run Try.prog wr = _ := fun ty => Lib.run_next_any_at wr K PL pos ty HIT.out hp
                  obtain ⟨hst, hwd1, hwd2⟩ := runes_at (s := PL) hp
                  obtain ⟨x, hx⟩ : ∃ x, x = (Utf8.decode PL pos).1 := ⟨_, rfl⟩
                  obtain ⟨d, hd⟩ : ∃ d, d = (Utf8.decode PL pos).2 := ⟨_, rfl⟩
                  have hxb := decode_le PL pos
                  rw [← hx] at hxb
                  rw [← hx, ← hd] at hnx hst
                  rw [← hd] at hwd1 hwd2
                  have HST := Lib.hid (show acc ++ runesL (PL).data.toList = (acc' ++ [(x : Int)]) ++ runesL ((PL).data.toList.drop (pos + d)) by rw [HEQ2.out, hst, List.append_assoc]; rfl)
                  obtain ⟨wz, hwz⟩ : ∃ wz, wz = wr.iterAt K PL (pos + d) := ⟨_, rfl⟩
                  have hitz : wz.heap[K]? = some (.stringIter PL (pos + d)) := by rw [hwz]; exact Lib.iterAt_heap _ _ _ _ _ HIT.out
                  have HZ := Lib.hid (show PxS 30 3 w.heap.size w (.slice (some ⟨gS, 0, none⟩) (1 + nG) cS) (1 + nG) SC _ acc' wz by rw [hwz]; exact HY.out.iter HIT.out hBK _)
                  rw [← hwz] at hnx
                  have hip : wr.iterPos K = pos := iterPos_of HIT.out
                  have HIP := Lib.hid hip
                  replace HIT := Lib.hid hitz
                  clear hst hx hd hwz hitz hip HY HEQ2
                  obtain ⟨ii, hii, hz0, hz1, hz2⟩ := HII.out
                  obtain ⟨av, cv, hv, hxc, hcm⟩ := RowL.slice HZ.out.out
                  have HCV := Lib.hid hcm
                  subst hv
                  clear hxc hcm
                  go_upto_region 18 with fail
                  clear hnx
                  go_wp2_with (at_builtin; go_loud (refine wpList_append_own _ rfl _ _ 22 rfl (w.heap.size) 3 ii _ 1 8 Try.underlying22 hii hz0 hz1 hz2 rfl (by decide) _ _ _ rfl (RowL.alloc HZ.out.out _) ⟨wz.heap.size, 0, none⟩ 1 1 [.int .i64 ((x : Int))] rfl rfl ?k1b ?k2b ?k3b ?k4b ?k5b ?_))
                  try (case k1b =>
                    intro j u hj
                    match j, hj with
                    | 0, hj => (simp at hj; subst hj; simp [Addr.add]))
                  case k2b => first | rfl | (intro u hu; simp at hu; subst hu; rfl)
                  case k3b => unfold maxLen; (try simp); (try omega)
                  case k4b => (try simp); (try omega)
                  case k5b => have := HZ.out.low; (try simp); (try omega)
                  intro v5 w5 hown hgrow _
                  have hit5 := iter_grown (HZ.out.under ((Below.refl _ _).alloc (Nat.le_refl _) _)) (by rw [Below.heap_alloc _ _ _ (Array.getElem?_eq_some_iff.1 HIT.out).1]; exact HIT.out) hgrow
                  have HS5 := Lib.hid ((HZ.out.under ((Below.refl _ _).alloc (Nat.le_refl _) _)).grown (l := [(x : Int)]) hgrow hown)
                  have HI5 := Lib.hid hit5
                  have HP5 := Lib.hid (iterPos_of hit5)
                  clear hown hgrow hii hz0 hz1 hz2 HZ hit5
                  go_wp2_with fail
                  go_roundw
                  case rel => exact ⟨pos + d, acc' ++ [(x : Int)], HST.out, hwd2, by simp; omega, HI5.out, HS5.out⟩
                  case measure => rw [HP5.out, HIP.out]; omega
                · have hnx : ∀ ty, (Instr.next (.pointer (some ⟨K, 0, none⟩)) true ty).run Try.prog wr = _ := fun ty => Lib.run_next_end_at wr K PL pos ty HIT.out hp
                  have HV := Lib.hid (show ER = expL (1 + nG) (segF f0 t0 G T) (runesL TL.data.toList) true acc' by
                    rw [HE.out, HCUT.out, expL_plain _ _ _ HNO.out, HEQ2.out, runes_past hp, List.append_nil, expL, if_pos rfl])
                  clear HEQ2 HE HIT HNO HCUT HCY
                  by_cases ht0 : TL.size = 0
                  · have e2 : TL.toList = [] := by rw [Lib.toList_data]; exact List.eq_nil_of_length_eq_zero (by rw [Array.length_toList]; exact ht0)
                    have HV2 := Lib.hid (show ER = ([], 10) by
                      have h := HV.out
                      rw [← Lib.toList_data, e2] at h
                      exact h)
                    clear ht0 HV
                    go_wp2_with fail
                    go_ret2
                    exact ⟨_, by rw [HV2.out]; rfl, by rw [HV2.out]; exact RowL.nil _ _ _ _, HY.out.below⟩
                  · have e2 : TL.toList.isEmpty = false := by
                      cases h : TL.toList.isEmpty
                      · rfl
                      · rw [List.isEmpty_iff, Lib.toList_data] at h
                        have : TL.data.toList.length = TL.size := Array.length_toList
                        rw [h] at this
                        exact absurd this.symm ht0
                    have ht1 : 0 < TL.size := by omega
                    obtain ⟨m1, m2, m3, m4⟩ := exp_mark (ns := 1 + nG) (seg := segF f0 t0 G T) ht1 acc'
                    rw [← HV.out] at m1 m2 m3 m4
                    obtain ⟨C, hC⟩ : ∃ C, C = TL[0].toNat := ⟨_, rfl⟩
                    rw [← hC] at m1 m2 m3 m4
                    have hCC : TL[0].toNat = C := hC.symm
                    have hCb : C < 256 := by rw [hC]; exact UInt8.toNat_lt _
                    obtain ⟨TT, hTT⟩ : ∃ y, y = TL.extract 1 TL.size := ⟨_, rfl⟩
                    have hTTs : TT.size + 1 ≤ TL.size ∧ TL.size ≤ TT.size + 1 := by rw [hTT, ByteArray.size_extract]; omega
                    rw [← hTT] at m1 m4
                    have hTT2 : TL.extract 1 TL.size = TT := hTT.symm
                    have M1 := Lib.hid m1
                    have M2 := Lib.hid m2
                    have M3 := Lib.hid m3
                    have M4 := Lib.hid m4
                    have HT1 := Lib.hid ht0
                    clear m1 m2 m3 m4 hC hTT ht0 HV
                    by_cases hC36 : C = 36
                    · have HV := Lib.hid (M1.out hC36)
                      subst hC36
                      clear M1 M2 M3 M4
                      go_upto_region 24 with fail
                      clear hnx hTT2 hCC e2
                      obtain ⟨wz, hwz⟩ : ∃ wz, wz = wr := ⟨_, rfl⟩
                      have HZ := HY
                      rw [← hwz] at HZ ⊢
                      clear hwz HY
                      obtain ⟨ii, hii, hz0, hz1, hz2⟩ := HII.out
                      obtain ⟨av, cv, hv, hxc, hcm⟩ := RowL.slice HZ.out.out
                      have HCV := Lib.hid hcm
                      subst hv
                      clear hxc hcm
                      go_wp2_with (at_builtin; go_loud (refine wpList_append_own _ rfl _ _ 22 rfl (w.heap.size) 3 ii _ 1 8 Try.underlying22 hii hz0 hz1 hz2 rfl (by decide) _ _ _ rfl (RowL.alloc HZ.out.out _) ⟨wz.heap.size, 0, none⟩ 1 1 [.int .i64 (36)] rfl rfl ?k1c ?k2c ?k3c ?k4c ?k5c ?_))
                      try (case k1c =>
                        intro j u hj
                        match j, hj with
                        | 0, hj => (simp at hj; subst hj; simp [Addr.add]))
                      case k2c => first | rfl | (intro u hu; simp at hu; subst hu; rfl)
                      case k3c => unfold maxLen; (try simp); (try omega)
                      case k4c => (try simp); (try omega)
                      case k5c => have := HZ.out.low; (try simp); (try omega)
                      intro v5 w5 hown hgrow _
                      have HS5 := Lib.hid ((HZ.out.under ((Below.refl _ _).alloc (Nat.le_refl _) _)).grown (l := [(36 : Int)]) hgrow hown)
                      clear hown hgrow hii hz0 hz1 hz2 HZ
                      go_wp2_with fail
                      go_roundw
                      case rel => exact ⟨TT, acc' ++ [(36 : Int)], rfl, HV.out, by omega, by (try simp only [List.length_append, List.length_cons, List.length_nil]); omega, (HS5).out⟩
                      case measure => (show TT.size < r.size; omega)
                    · by_cases hC3 : C < 48 ∨ 57 < C
                      · have HV2 := Lib.hid (M2.out hC36 hC3)
                        clear M1 M2 M3 M4 hTT2
                        have n36 : ¬ (C : Int) = 36 := by omega
                        have b36 : ((C : Int) == 36) = false := by simpa using n36
                        have b37 : ((C : Int) != 36) = true := by simpa using n36
                        rcases hC3 with hC3 | hC3
                        · go_wp2_with fail
                          go_ret2
                          exact ⟨_, by rw [(HV2).out]; rfl, by rw [(HV2).out]; exact RowL.nil _ _ _ _, HY.out.below⟩
                        · have hC4 : ¬ C < 48 := by omega
                          go_wp2_with fail
                          go_ret2
                          exact ⟨_, by rw [(HV2).out]; rfl, by rw [(HV2).out]; exact RowL.nil _ _ _ _, HY.out.below⟩
                      · have n36 : ¬ (C : Int) = 36 := by omega
                        have b36 : ((C : Int) == 36) = false := by simpa using n36
                        have b37 : ((C : Int) != 36) = true := by simpa using n36
                        have c48 : ¬ (C : Int) < 48 := by omega
                        have c57 : ¬ (57 : Int) < (C : Int) := by omega
                        obtain ⟨k, hk⟩ : ∃ k, k = C - 48 := ⟨_, rfl⟩
                        rw [← hk] at M3 M4
                        have hkC : IntKind.u8.wrap ((C : Int) - 48) = (k : Int) := by
                          rw [show (C : Int) - 48 = (k : Int) by omega]
                          have : k < 256 := by omega
                          simp [IntKind.wrap, IntKind.bits, IntKind.signed]; omega
                        have hk9 : k ≤ 9 := by omega
                        clear M1 M2 hk
                        by_cases hkn : 1 + nG ≤ k
                        · have HV2 := Lib.hid (M3.out (by omega) (by omega) hkn)
                          clear M3 M4 hTT2
                          go_wp2_with fail
                          go_ret2
                          exact ⟨_, by rw [(HV2).out]; rfl, by rw [(HV2).out]; exact RowL.nil _ _ _ _, HY.out.below⟩
                        · have HV0 := M4.out (by omega) (by omega) (by omega)
                          have hg := spC_get (f := f0) (t := t0) (n := nG) (G := G) (i := k) (by omega)
                          rw [← HSC.out] at hg
                          have d0 := HY.out.at (by omega) hg.1
                          have d1 := HY.out.at (by omega) hg.2
                          have zb := lt_of_cell d0
                          simp only at zb
                          have hnb := HALL.out k (by omega)
                          have hki : (k : Int) < 1 + (nG : Int) := by omega
                          have hki2 : ¬ 1 + (nG : Int) ≤ (k : Int) := by omega
                          unfold segF at HV0
                          obtain ⟨F, hF⟩ : ∃ y, y = (spF f0 t0 G k).1 := ⟨_, rfl⟩
                          obtain ⟨U, hU⟩ : ∃ y, y = (spF f0 t0 G k).2 := ⟨_, rfl⟩
                          rw [← hF] at d0
                          rw [← hU] at d1
                          rw [← hF, ← hU] at hnb HV0
                          unfold badS at hnb
                          have HNB := Lib.hid hnb
                          have HVV := Lib.hid HV0
                          clear M3 M4 hg hF hU hnb HV0 hkn hC36 hC3
                          by_cases hF0 : 0 ≤ F
                          · obtain ⟨hq1, hq2⟩ : F ≤ U ∧ U ≤ nT := by
                              have h := HNB.out
                              constructor
                              · exact Classical.byContradiction fun hh => h ⟨.inr (.inl (by omega)), .inr (.inl (by omega))⟩
                              · exact Classical.byContradiction fun hh => h ⟨.inr (.inl (by omega)), .inr (.inr (by omega))⟩
                            obtain ⟨p, rfl⟩ : ∃ p : Nat, F = p := ⟨F.toNat, by omega⟩
                            obtain ⟨q, rfl⟩ : ∃ q : Nat, U = q := ⟨U.toNat, by omega⟩
                            have HV := Lib.hid (show ER = expL (1 + nG) (segF f0 t0 G T) (runesL TT.data.toList) false (acc' ++ (List.range (q - p)).map (fun j => T (p + j))) by
                              have h := HVV.out
                              rw [if_pos hF0, Int.toNat_natCast, show ((q : Int) - (p : Int)).toNat = q - p by omega] at h
                              exact h)
                            have hqc : (q : Int) ≤ (cT : Int) := by omega
                            clear HVV HNB hF0
                            rcases aT with _ | ad
                            · obtain rfl : cT = 0 := hT0 rfl
                              obtain rfl : q = 0 := by omega
                              obtain rfl : p = 0 := by omega
                              replace HV := Lib.hid (show ER = expL (1 + nG) (segF f0 t0 G T) (runesL TT.data.toList) false (acc' ++ []) from HV.out)
                              go_upto_region 29 with fail
                              clear hnx hTT2 hCC e2 b36 b37 n36 hkC
                              go_still_tail 13, (by kernel_rfl)
                              change wpList _ _ _ _ _ wr.drew
                              obtain ⟨wz, hwz⟩ : ∃ wz, wz = wr.drew := ⟨_, rfl⟩
                              have HZ := Lib.hid (HY.out.under (w' := wz) (by rw [hwz]; exact (Below.refl _ _).drew))
                              have HWZ := Lib.hid hwz
                              rw [← hwz]
                              clear hwz HY d0 d1
                              obtain ⟨ii, hii, hz0, hz1, hz2⟩ := HII.out
                              go_wp2_with (at_builtin; go_loud (refine wpList_append_own_none rfl _ _ 22 rfl (w.heap.size) 3 ii 1 Try.underlying22 hii _ _ _ rfl HZ.out.out rfl ?_))
                              clear hii hz0 hz1 hz2
                              go_wp2_with fail
                              go_roundw
                              case rel => exact ⟨TT, acc', rfl, by rw [HV.out, List.append_nil], by omega, by omega, HZ.out⟩
                              case measure => (show TT.size < r.size; omega)
                            · by_cases hpq : p < q
                              · obtain ⟨b, off, hb, hcl⟩ := HT.out.below (Nat.le_refl _) HY.out.below (by omega)
                                cases hb
                                have hpc : ¬ cT = p := by omega
                                have hn0 := ints_cells p (q - p) hcl (by omega)
                                go_upto_region 29 with fail
                                clear hnx hTT2 hCC e2 b36 b37 n36 hkC
                                go_still_tail 13, (by kernel_rfl)
                                change wpList _ _ _ _ _ wr.drew
                                obtain ⟨wz, hwz⟩ : ∃ wz, wz = wr.drew := ⟨_, rfl⟩
                                have HZ := Lib.hid (HY.out.under (w' := wz) (by rw [hwz]; exact (Below.refl _ _).drew))
                                have HWZ := Lib.hid hwz
                                rw [← hwz]
                                clear hwz HY d0 d1
                                have hn1 : ∀ j u, (((List.range (q - p)).map (fun j => T (p + j))).map (Value.int .i64))[j]? = some u → wz.cell? ((⟨b, off + p, none⟩ : Addr).add j) = some u := by rw [HWZ.out]; exact hn0
                                have HN := Lib.hid hn1
                                clear hn0 hn1 hcl
                                obtain ⟨ii, hii, hz0, hz1, hz2⟩ := HII.out
                                obtain ⟨av, cv, hv, hxc, hcm⟩ := RowL.slice HZ.out.out
                                have HCV := Lib.hid hcm
                                subst hv
                                clear hxc hcm
                                go_wp2_with (at_builtin; go_loud (refine wpList_append_own _ rfl _ _ 22 rfl (w.heap.size) 3 ii _ 1 8 Try.underlying22 hii hz0 hz1 hz2 rfl (by decide) _ _ _ rfl HZ.out.out (⟨b, off + p, none⟩) (q - p) (cT - p) ((((List.range (q - p)).map (fun j => T (p + j)))).map (Value.int .i64)) rfl (by simp) HN.out ?k2d ?k3d ?k4d ?k5d ?_))
                                try (case k2d => first | (intros; rfl) | (intro u hu; obtain ⟨x, _, rfl⟩ := List.mem_map.1 hu; rfl))
                                case k3d => unfold maxLen; omega
                                case k4d => omega
                                case k5d => have := HZ.out.low; omega
                                intro v5 w5 hown hgrow _
                                have HS5 := Lib.hid (HZ.out.grown (l := ((List.range (q - p)).map (fun j => T (p + j)))) hgrow (by first | exact hown | (simp only [List.length_map, List.length_range, List.map_map]; exact hown) | simpa using hown))
                                clear hown hgrow hii hz0 hz1 hz2 HZ
                                go_wp2_with fail
                                go_roundw
                                case rel => exact ⟨TT, acc' ++ ((List.range (q - p)).map (fun j => T (p + j))), rfl, HV.out, by omega, by (simp only [List.length_append, List.length_map, List.length_range, List.length_nil]); omega, HS5.out⟩
                                case measure => (show TT.size < r.size; omega)
                              · obtain rfl : q = p := by omega
                                replace HV := Lib.hid (show ER = expL (1 + nG) (segF f0 t0 G T) (runesL TT.data.toList) false (acc' ++ []) by
                                  have h := HV.out
                                  rw [Nat.sub_self] at h
                                  exact h)
                                have hpp : (q : Int) - (q : Int) = 0 := by omega
                                by_cases hpc : q < cT
                                · replace hpc : ¬ cT = q := by omega
                                  go_upto_region 29 with fail
                                  clear hnx hTT2 hCC e2 b36 b37 n36 hkC
                                  go_still_tail 13, (by kernel_rfl)
                                  change wpList _ _ _ _ _ wr.drew
                                  obtain ⟨wz, hwz⟩ : ∃ wz, wz = wr.drew := ⟨_, rfl⟩
                                  have HZ := Lib.hid (HY.out.under (w' := wz) (by rw [hwz]; exact (Below.refl _ _).drew))
                                  have HWZ := Lib.hid hwz
                                  rw [← hwz]
                                  clear hwz HY d0 d1
                                  have HN := Lib.hid (show ∀ j u, (([] : List Int).map (Value.int .i64))[j]? = some u → wz.cell? ((ad.add q).add j) = some u by intro j u h; simp at h)
                                  obtain ⟨ii, hii, hz0, hz1, hz2⟩ := HII.out
                                  obtain ⟨av, cv, hv, hxc, hcm⟩ := RowL.slice HZ.out.out
                                  have HCV := Lib.hid hcm
                                  subst hv
                                  clear hxc hcm
                                  go_wp2_with (at_builtin; go_loud (refine wpList_append_own _ rfl _ _ 22 rfl (w.heap.size) 3 ii _ 1 8 Try.underlying22 hii hz0 hz1 hz2 rfl (by decide) _ _ _ rfl HZ.out.out (ad.add q) (0) (cT - q) ((([] : List Int)).map (Value.int .i64)) rfl (by simp) HN.out ?k2e ?k3e ?k4e ?k5e ?_))
                                  try (case k2e => first | (intros; rfl) | (intro u hu; obtain ⟨x, _, rfl⟩ := List.mem_map.1 hu; rfl))
                                  case k3e => unfold maxLen; omega
                                  case k4e => omega
                                  case k5e => have := HZ.out.low; omega
                                  intro v5 w5 hown hgrow _
                                  have HS5 := Lib.hid (HZ.out.grown (l := ([] : List Int)) hgrow (by first | exact hown | (simp only [List.length_map, List.length_range, List.map_map]; exact hown) | simpa using hown))
                                  clear hown hgrow hii hz0 hz1 hz2 HZ
                                  go_wp2_with fail
                                  go_roundw
                                  case rel => exact ⟨TT, acc' ++ ([] : List Int), rfl, HV.out, by omega, by (simp only [List.length_append, List.length_map, List.length_range, List.length_nil]); omega, HS5.out⟩
                                  case measure => (show TT.size < r.size; omega)
                                · obtain rfl : q = cT := by omega
                                  go_upto_region 29 with fail
                                  clear hnx hTT2 hCC e2 b36 b37 n36 hkC
                                  go_still_tail 13, (by kernel_rfl)
                                  change wpList _ _ _ _ _ wr.drew
                                  obtain ⟨wz, hwz⟩ : ∃ wz, wz = wr.drew := ⟨_, rfl⟩
                                  have HZ := Lib.hid (HY.out.under (w' := wz) (by rw [hwz]; exact (Below.refl _ _).drew))
                                  have HWZ := Lib.hid hwz
                                  rw [← hwz]
                                  clear hwz HY d0 d1
                                  have HN := Lib.hid (show ∀ j u, (([] : List Int).map (Value.int .i64))[j]? = some u → wz.cell? (ad.add j) = some u by intro j u h; simp at h)
                                  obtain ⟨ii, hii, hz0, hz1, hz2⟩ := HII.out
                                  obtain ⟨av, cv, hv, hxc, hcm⟩ := RowL.slice HZ.out.out
                                  have HCV := Lib.hid hcm
                                  subst hv
                                  clear hxc hcm
                                  go_wp2_with (at_builtin; go_loud (refine wpList_append_own _ rfl _ _ 22 rfl (w.heap.size) 3 ii _ 1 8 Try.underlying22 hii hz0 hz1 hz2 rfl (by decide) _ _ _ rfl HZ.out.out (ad) (0) (0) ((([] : List Int)).map (Value.int .i64)) rfl (by simp) HN.out ?k2f ?k3f ?k4f ?k5f ?_))
                                  try (case k2f => first | (intros; rfl) | (intro u hu; obtain ⟨x, _, rfl⟩ := List.mem_map.1 hu; rfl))
                                  case k3f => unfold maxLen; omega
                                  case k4f => omega
                                  case k5f => have := HZ.out.low; omega
                                  intro v5 w5 hown hgrow _
                                  have HS5 := Lib.hid (HZ.out.grown (l := ([] : List Int)) hgrow (by first | exact hown | (simp only [List.length_map, List.length_range, List.map_map]; exact hown) | simpa using hown))
                                  clear hown hgrow hii hz0 hz1 hz2 HZ
                                  go_wp2_with fail
                                  go_roundw
                                  case rel => exact ⟨TT, acc' ++ ([] : List Int), rfl, HV.out, by omega, by (simp only [List.length_append, List.length_map, List.length_range, List.length_nil]); omega, HS5.out⟩
                                  case measure => (show TT.size < r.size; omega)
                          · have HV := Lib.hid (show ER = expL (1 + nG) (segF f0 t0 G T) (runesL TT.data.toList) false acc' by
                              have h := HVV.out
                              rw [if_neg hF0, List.append_nil] at h
                              exact h)
                            clear HVV HNB
                            go_wp2_with fail
                            go_roundw
                            case rel => exact ⟨TT, acc', rfl, HV.out, by omega, by omega, HY.out⟩
                            case measure => (show TT.size < r.size; omega)
end Go.Proofs.Ytnigebnibikolab.PX
