/-
  BdNeutW, BdBrackW, BdImplW.
-/
import Derived.Test.YtojbicdmcodgdaaDoorBdM10
import Derived.Test.YtojbicdmcodgdaaDoorBdM12
import Derived.Test.YtojbicdmcodgdaaDoorBdM03
namespace Go.Law.Bd
theorem ctB_bd {b : Int} (h : b = 0 ∨ b = 1) : ctB b = b := by rcases h with rfl | rfl <;> decide
theorem ah_get {p : SqP} {V W : Nat → Int} {k : Nat} (hk : k ≤ p.m) (hb : p.beg = 0 ∨ p.beg = 1) (hW : 0 < k → W (k - 1) = V (k - 1)) :
    ctB (gtV p (prt W V k) ((k : Int) - 1)) = ahB V p.beg k := by
  unfold ahB
  by_cases h : k = 0
  · subst h
    rw [if_pos rfl, show ((0 : Nat) : Int) - 1 = -1 by omega, gtV_neg, ctB_bd hb]
  · rw [if_neg h, show (k : Int) - 1 = ((k - 1 : Nat) : Int) by omega, gtV_in (by omega), prt_lt (by omega), hW (by omega)]
theorem beh_get {p : SqP} {V W : Nat → Int} {k t : Nat} (hk : k ≤ t) (ht : t ≤ p.m) (hb : p.en = 0 ∨ p.en = 1) :
    ctB (gtV p (prt W V k) (t : Int)) = behB V p.m p.en t := by
  unfold behB
  by_cases h : t < p.m
  · rw [if_pos h, gtV_in h, prt_ge hk]
  · obtain rfl : t = p.m := by omega
    rw [if_neg h, gtV_end, ctB_bd hb]
end Go.Law.Bd
namespace Go.Proofs.YtojbicdmcodgdaaDoor.BD
open Go.RowKit Go.Law Go.Law.Bd
set_option linter.unusedVariables false
set_option linter.unusedSimpArgs false
set_option maxRecDepth 100000
section
variable {p : SqP} {C0 V : Nat → Int} {w0 w : World}
theorem neutral_is {k : Int} {b : Bool} (h : neuB k = b) (w : World) : Calls Tryd.prog 43 #[.int .i64 k] w fun e w' => e = .returned (.bool b) ∧ w = w' := by
  rw [← h]; exact neutral_any k w
theorem letter_is {k x : Int} (h : ctB k = x) (w : World) : Calls Tryd.prog 42 #[.int .i64 k] w fun e w' => e = .returned (.int .i64 x) ∧ w = w' := by
  rw [← h]; exact letter_any k w
set_option maxHeartbeats 8000000 in
theorem neutrals_any (ok : SqOk p) (h : Sq p C0 w0 w V) (hl : ∀ j, j < p.m → leftB (V j)) (hb : p.beg = 0 ∨ p.beg = 1) (he : p.en = 0 ∨ p.en = 1) (hv : 0 ≤ p.lev) :
    Calls Tryd.prog 18 #[.pointer (some ⟨p.sz, 0, none⟩)] w fun e w' => e = .returned (.tuple #[]) ∧ Sq p C0 w0 w' (wNE V p.m p.beg p.en (sideB p.lev)) := by
  have H := Lib.hid h
  have OK := Lib.hid ok
  have HL := Lib.hid (show ∀ j, j < p.m → neuB (V j) = decide (ctB (V j) < 0) from fun j hj => neuB_ct (hl j hj))
  have HBG := Lib.hid hb
  have HEN := Lib.hid he
  have hm2 := ok.mn
  have hn2 := ok.n2
  clear h ok hl hb he
  obtain ⟨W, hW⟩ : ∃ W, W = wNE V p.m p.beg p.en (sideB p.lev) := ⟨_, rfl⟩
  have HWD := Lib.hid hW
  rw [← hW]
  clear hW
  go_enter Tryd.func18, Tryd.ntmps18
  go_wp2_with fail
  go_loopw [2] (fun iv wr => ∃ k : Nat, iv = .int .i64 k ∧ k ≤ p.m ∧ (k = 0 ∨ 0 ≤ ctB (V (k - 1)) ∨ k = p.m ∨ 0 ≤ ctB (V k)) ∧ Sq p C0 w0 wr (prt W V k)) (fun iv _ => p.m - (intOf iv).toNat)
  case atStart => exact ⟨0, rfl, by omega, .inl rfl, H.out.congr fun j _ => (prt_zero _ _ _).symm⟩
  case round =>
    clear H
    obtain ⟨k, rfl, hk, hb, hq⟩ := hrel
    have HQ := Lib.hid hq
    have HB := Lib.hid hb
    have s1 : wr.cell? ⟨p.sz, 1, none⟩ = _ := hq.st.sb.cell (i := 1) rfl
    clear hq hb
    by_cases hkm : k < p.m
    · have HG := Lib.hid (getk0_any OK.out HQ.out k hkm)
      rw [prt_ge (Nat.le_refl _)] at HG
      by_cases h5 : ctB (V k) < 0
      · have HN := Lib.hid (fun u => neutral_is (show neuB (V k) = true by rw [HL.out k hkm, decide_eq_true h5]) u)
        go_wp2_with fail
        refine HG.out.mono ?_
        rintro e w2 ⟨rfl, q, rfl⟩
        go_wp2_with fail
        refine (HN.out _).mono ?_
        rintro e w2 ⟨rfl, rfl⟩
        have H5 := Lib.hid h5
        clear HG h5 HN
        go_upto_block 2 with fail
        go_cut [3] from 22 to 36 (fun v wx => ∃ t : Nat, v = .int .i64 t ∧ k ≤ t ∧ t ≤ p.m ∧ (∀ x, k ≤ x → x < t → ctB (V x) < 0) ∧ (t = p.m ∨ 0 ≤ ctB (V t)) ∧ Sq p C0 w0 wx (prt W V k))
        case first =>
          go_wp2_with fail
          go_loopw [3] (fun v wx => ∃ t : Nat, v = .int .i64 t ∧ k ≤ t ∧ t ≤ p.m ∧ (∀ x, k ≤ x → x < t → ctB (V x) < 0) ∧ Sq p C0 w0 wx (prt W V k)) (fun v _ => p.m - (intOf v).toNat)
          case atStart => exact ⟨k, rfl, Nat.le_refl _, by omega, fun x h1 h2 => by omega, HQ.out.drewN q⟩
          case round =>
            clear s1 HQ
            obtain ⟨t, rfl, hkt, htm, hall, hq⟩ := hrel
            have HQ := Lib.hid hq
            have HA := Lib.hid hall
            have s1 : wr.cell? ⟨p.sz, 1, none⟩ = _ := hq.st.sb.cell (i := 1) rfl
            clear hq hall
            by_cases htm2 : t < p.m
            · have HG := Lib.hid (getk0_any OK.out HQ.out t htm2)
              rw [prt_ge hkt] at HG
              by_cases h5 : ctB (V t) < 0
              · have HN := Lib.hid (fun u => neutral_is (show neuB (V t) = true by rw [HL.out t htm2, decide_eq_true h5]) u)
                have HA2 := Lib.hid (show ∀ x, k ≤ x → x < t + 1 → ctB (V x) < 0 from fun x h1 h2 => by
                  rcases Nat.lt_or_ge x t with h | h
                  · exact HA.out x h1 h
                  · rw [show x = t by omega]; exact h5)
                clear h5
                go_wp2_with fail
                refine HG.out.mono ?_
                rintro e w2 ⟨rfl, q, rfl⟩
                go_wp2_with fail
                refine (HN.out _).mono ?_
                rintro e w2 ⟨rfl, rfl⟩
                go_wp2_with fail
                go_roundw
                case rel => exact ⟨t + 1, by go_num, by omega, by omega, HA2.out, HQ.out.drewN q⟩
                case measure => simp [intOf]; omega
              · have HN := Lib.hid (fun u => neutral_is (show neuB (V t) = false by rw [HL.out t htm2, decide_eq_false h5]) u)
                have HZ := Lib.hid (show 0 ≤ ctB (V t) by omega)
                clear h5
                go_wp2_with fail
                refine HG.out.mono ?_
                rintro e w2 ⟨rfl, q, rfl⟩
                go_wp2_with fail
                refine (HN.out _).mono ?_
                rintro e w2 ⟨rfl, rfl⟩
                go_wp2_with fail
                go_meet
                exact ⟨t, rfl, hkt, htm, HA.out, .inr HZ.out, HQ.out.drewN q⟩
            · go_wp2_with fail
              go_meet
              exact ⟨t, rfl, hkt, htm, HA.out, .inl (by omega), HQ.out⟩
        case rest =>
        clear HQ s1
        obtain ⟨t, rfl, hkt, htm, hall, hend, hq⟩ := hcut
        have hkt2 : k < t := by
          rcases Nat.lt_or_ge k t with h | h
          · exact h
          · obtain rfl : t = k := by omega
            have := H5.out
            rcases hend with h | h <;> omega
        have hb0 : k = 0 ∨ 0 ≤ ctB (V (k - 1)) := by
          have := H5.out
          rcases HB.out with h | h | h | h
          · exact .inl h
          · exact .inr h
          · omega
          · omega
        have HR := Lib.hid (fun j (h1 : k ≤ j) (h2 : j < t) => show W j = if ahB V p.beg k = behB V p.m p.en t then ahB V p.beg k else sideB p.lev by rw [HWD.out]; exact wNE_run (bef := p.beg) (aft := p.en) (own := sideB p.lev) hb0 htm hend hall h1 h2)
        have HO := Lib.hid (show 0 < k → W (k - 1) = V (k - 1) from fun h => by rw [HWD.out]; exact wNE_other (hb0.resolve_left (by intro h9; omega)))
        have HN := Lib.hid (show t = 0 ∨ 0 ≤ ctB (V (t - 1)) ∨ t = p.m ∨ 0 ≤ ctB (V t) from .inr (.inr hend))
        have ha0 : 0 ≤ ahB V p.beg k := by
          unfold ahB
          have := HBG.out
          split
          · omega
          · rename_i h; exact hb0.resolve_left h
        clear hb0 hend hall HB H5
        have HQ := Lib.hid hq
        have s3 : wc.cell? ⟨p.sz, 3, none⟩ = _ := hq.st.sb.cell (i := 3) rfl
        clear hq
        have e2 : ((t : Int) - 1) + 1 = t := by omega
        have hw1 := IntWalk.i64_in ((t : Int) - 1) (by omega)
        have hw2 := IntWalk.i64_in ((k : Int) - 1) (by omega)
        have HG1 := Lib.hid (get0_any OK.out HQ.out ((k : Int) - 1) (by omega))
        have HG2 := Lib.hid (fun r => get_any OK.out HQ.out (t : Int) (by omega) r)
        have hu := ah_get (V := V) (W := W) hk HBG.out HO.out
        have hz := beh_get (V := V) (W := W) hkt htm HEN.out
        obtain ⟨u, hu1⟩ : ∃ u, u = gtV p (prt W V k) ((k : Int) - 1) := ⟨_, rfl⟩
        obtain ⟨z, hz1⟩ : ∃ z, z = gtV p (prt W V k) (t : Int) := ⟨_, rfl⟩
        rw [← hu1] at hu HG1
        rw [← hz1] at hz HG2
        obtain ⟨A, hA⟩ : ∃ A, A = ahB V p.beg k := ⟨_, rfl⟩
        obtain ⟨B, hB⟩ : ∃ B, B = behB V p.m p.en t := ⟨_, rfl⟩
        rw [← hA] at hu HR ha0
        rw [← hB] at hz HR
        have HL1 := Lib.hid (fun x => letter_is hu x)
        have HL2 := Lib.hid (fun x => letter_is hz x)
        have HSD := Lib.hid (fun x => side_any p.lev hv x)
        obtain ⟨own, hown⟩ : ∃ own, own = sideB p.lev := ⟨_, rfl⟩
        rw [← hown] at HSD HR
        clear hu1 hz1 hA hB hu hz hown HO
        go_wp2_with fail
        refine (HSD.out _).mono ?_
        rintro e w2 ⟨rfl, rfl⟩
        go_wp2_with fail
        refine HG1.out.mono ?_
        rintro e w2 ⟨rfl, q1, rfl⟩
        go_wp2_with fail
        refine (HL1.out _).mono ?_
        rintro e w2 ⟨rfl, rfl⟩
        go_upto_region 9 with fail
        go_cut [56] from 47 to 56 (fun v wx => v = .bool (decide (A = B)) ∧ Sq p C0 w0 wx (prt W V k))
        case first =>
          by_cases hAB : A = B
          · subst hAB
            have hAA : (A == A) = true := by simp
            go_wp2_with fail
            refine (HG2.out _).mono ?_
            rintro e w2 ⟨rfl, q2, rfl⟩
            go_wp2_with fail
            refine (HL2.out _).mono ?_
            rintro e w2 ⟨rfl, rfl⟩
            go_wp2_with fail
            go_meet
            exact ⟨by simp, HQ.out.drewN q2⟩
          · have hAA : (A == B) = false := by simpa using hAB
            have HNE := Lib.hid hAB
            clear hAB
            go_wp2_with fail
            refine (HG2.out _).mono ?_
            rintro e w2 ⟨rfl, q2, rfl⟩
            go_wp2_with fail
            refine (HL2.out _).mono ?_
            rintro e w2 ⟨rfl, rfl⟩
            go_wp2_with fail
            go_meet
            exact ⟨by rw [decide_eq_false HNE.out], HQ.out.drewN q2⟩
        case rest =>
        obtain ⟨rfl, hq⟩ := hcut
        clear HQ s3 HG1 HG2 HL1 HL2 HSD
        have HQ := Lib.hid hq
        clear hq
        go_upto_if 56 with fail
        go_cut [4] from 56 to 57 (fun v wx => v = .int .i64 (if A = B then A else own) ∧ Sq p C0 w0 wx (prt W V k))
        case first =>
          by_cases hAB : A = B
          · have hd : decide (A = B) = true := decide_eq_true hAB
            rw [hd]
            have HAB := Lib.hid hAB
            clear hAB hd
            go_wp2_with fail
            go_meet
            exact ⟨by rw [if_pos HAB.out], HQ.out⟩
          · have hd : decide (A = B) = false := decide_eq_false hAB
            rw [hd]
            have HAB := Lib.hid hAB
            clear hAB hd
            go_wp2_with fail
            go_meet
            exact ⟨by rw [if_neg HAB.out], HQ.out⟩
        case rest =>
        clear HQ
        obtain ⟨rfl, hq⟩ := hcut
        obtain ⟨cl, hcl⟩ : ∃ cl, cl = if A = B then A else own := ⟨_, rfl⟩
        rw [← hcl] at HR ⊢
        clear hcl
        have HQ := Lib.hid hq
        clear hq
        go_wp2_with fail
        go_loopw [6] (fun v wx => ∃ i : Nat, v = .int .i64 i ∧ k ≤ i ∧ i ≤ t ∧ Sq p C0 w0 wx (prt W V i)) (fun v _ => t - (intOf v).toNat)
        case atStart => exact ⟨k, rfl, Nat.le_refl _, by omega, HQ.out⟩
        case round =>
          clear HQ
          obtain ⟨i, rfl, hki, hit, hq⟩ := hrel
          have HQ := Lib.hid hq
          clear hq
          by_cases hit2 : i < t
          · go_wp2_with fail
            refine (set_any OK.out HQ.out i (by omega) cl).mono ?_
            rintro e w3 ⟨rfl, hq3⟩
            have HQ3 := Lib.hid (hq3.congr fun j _ => prt_set _ _ i (HR.out i hki hit2) j)
            clear hq3 HQ
            go_wp2_with fail
            go_roundw
            case rel => exact ⟨i + 1, by go_num, by omega, by omega, HQ3.out⟩
            case measure => simp [intOf]; omega
          · obtain rfl : i = t := by omega
            go_wp2_with fail
            go_roundw
            case rel => exact ⟨i, rfl, by omega, HN.out, HQ.out⟩
            case measure => simp [intOf]; omega
      · have HN := Lib.hid (fun u => neutral_is (show neuB (V k) = false by rw [HL.out k hkm, decide_eq_false h5]) u)
        have HE := Lib.hid (show W k = V k by rw [HWD.out]; exact wNE_other (by omega))
        have H5 := Lib.hid (show 0 ≤ ctB (V k) by omega)
        clear h5
        go_wp2_with fail
        refine HG.out.mono ?_
        rintro e w2 ⟨rfl, q, rfl⟩
        go_wp2_with fail
        refine (HN.out _).mono ?_
        rintro e w2 ⟨rfl, rfl⟩
        go_wp2_with fail
        go_roundw
        case rel => exact ⟨k + 1, by go_num, by omega, .inr (.inl H5.out), (HQ.out.drewN q).congr fun j _ => prt_same HE.out j⟩
        case measure => simp [intOf]; omega
    · obtain rfl : k = p.m := by omega
      go_wp2_with fail
      first | go_end0 | (simp only [Exit.inBlock, Exit.then]; refine bodyPost_ret (results_none rfl _ _ _) rfl ?_) | refine bodyPost_ret (results_none rfl _ _ _) rfl ?_
      exact ⟨rfl, HQ.out.congr fun j hj => prt_lt hj⟩
end
theorem idxp (cs : Array Value) (i : Nat) (hi : i < 2) (w : World) : (Instr.index 69 (.agg cs) (.int .i64 i)).run Tryd.prog w = (part 3 cs i).run Tryd.prog w := by
  have h : (0 : Int) ≤ (i : Int) ∧ (i : Int) < ((2 : Nat) : Int) := by omega
  simp [Instr.index, run_underlying Tryd.underlying69, asIntOf, h, go_sem]
  intro h4; omega
theorem idxp0 (v0 v1 : Value) (w : World) (h : v0.oneCell' = true) : (Instr.index 69 (.agg #[v0, v1]) (.int .i64 0)).run Tryd.prog w = .ok v0 w := by
  have h1 := idxp #[v0, v1] 0 (by omega) w
  refine h1.trans ?_
  simp [part, isAgg, run_underlying Tryd.underlying3, go_sem]
theorem idxp1 (v0 v1 : Value) (w : World) (h : v1.oneCell' = true) : (Instr.index 69 (.agg #[v0, v1]) (.int .i64 1)).run Tryd.prog w = .ok v1 w := by
  have h1 := idxp #[v0, v1] 1 (by omega) w
  refine h1.trans ?_
  simp [part, isAgg, run_underlying Tryd.underlying3, go_sem]
theorem idx0i (x y : Int) (w : World) : (Instr.index 69 (.agg #[.int .i64 x, .int .i64 y]) (.int .i64 0)).run Tryd.prog w = .ok (.int .i64 x) w := idxp0 _ _ w rfl
theorem idx1i (x y : Int) (w : World) : (Instr.index 69 (.agg #[.int .i64 x, .int .i64 y]) (.int .i64 1)).run Tryd.prog w = .ok (.int .i64 y) w := idxp1 _ _ w rfl
attribute [local go_sem] idx0i idx1i
/-- behind e places of a pair -/
def gE (Ow W : Nat → Int) (cl : Int) (a b e : Nat) (j : Nat) : Int := if 1 < e ∧ grpB Ow b j = true then cl else if 0 < e ∧ grpB Ow a j = true then cl else W j
theorem gE_zero (Ow W : Nat → Int) (cl : Int) (a b j : Nat) : gE Ow W cl a b 0 j = W j := by unfold gE; rw [if_neg (by omega), if_neg (by omega)]
theorem gE_one (Ow W : Nat → Int) (cl : Int) (a b j : Nat) : gE Ow W cl a b 1 j = if grpB Ow a j = true then cl else W j := by
  unfold gE; rw [if_neg (by omega)]; simp
theorem gE_two (Ow W : Nat → Int) (cl : Int) (a b j : Nat) : gE Ow W cl a b 2 j = if grpB Ow b j = true then cl else if grpB Ow a j = true then cl else W j := by
  unfold gE; simp
section
variable {p : SqP} {C0 V Tx : Nat → Int} {w0 w : World} {ta : Option Addr} {tc : Nat}
set_option maxHeartbeats 8000000 in
theorem brackets_any (ok : SqOk p) (h : Sq p C0 w0 w V) (ht : p.tv = .slice ta p.n tc) (hT : IntsF w ta p.n Tx) (hB : TabC w 2 2 bracketsT) (hb : p.beg = 0 ∨ p.beg = 1) (hv : 0 ≤ p.lev) :
    Calls Tryd.prog 17 #[.pointer (some ⟨p.sz, 0, none⟩)] w fun e w' => e = .returned (.tuple #[]) ∧ Sq p C0 w0 w' (wBK (fun k => Tx (p.A k)) (fun k => p.K (p.A k)) p.beg (sideB p.lev) p.m V) := by
  have H := Lib.hid h
  have OK := Lib.hid ok
  have HBG := Lib.hid hb
  have hm2 := ok.mn
  have hn2 := ok.n2
  have hmc := ok.mc
  have s3 : w.cell? ⟨p.sz, 3, none⟩ = _ := h.st.sb.cell (i := 3) rfl
  have HPC := Lib.hid (spairs_any ok h ht hT hB)
  have HSD := Lib.hid (fun x => side_any p.lev hv x)
  have hown := sideB_range p.lev
  obtain ⟨own, hod⟩ : ∃ own, own = sideB p.lev := ⟨_, rfl⟩
  rw [← hod] at HSD hown ⊢
  obtain ⟨Ow, hOw⟩ : ∃ Ow : Nat → Int, Ow = fun k => p.K (p.A k) := ⟨_, rfl⟩
  have HOW := Lib.hid (show ∀ k, Ow k = p.K (p.A k) from fun k => by rw [hOw])
  rw [← hOw]
  have HOWN := Lib.hid hown
  clear hOw h ok hT hB ht hod hb hown
  go_enter Tryd.func17, Tryd.ntmps17
  go_wp2_with fail
  refine (HSD.out _).mono ?_
  rintro e w2 ⟨rfl, rfl⟩
  go_wp2_with fail
  refine HPC.out.mono ?_
  rintro e w1 ⟨v, c, P, rfl, hrow, hP, hb1⟩
  obtain ⟨ra, rc, hrv, hrc1, hrc2⟩ := hrow.slice
  subst hrv
  have HROW := Lib.hid hrow
  have hq1 := H.out.under hb1 (Nat.le_refl _)
  have HON := Lib.hid hq1.on
  have HQ1 := Lib.hid (show Sq p C0 w1 w1 V from ⟨hq1.st, hq1.cl, Aside.refl _ _ _⟩)
  have HPM := Lib.hid (fun i (hi : i < c) => pairs_mem hP hi)
  have hcm := pairs_len hP
  have HEND := Lib.hid (afB_end (Ow := Ow) (bef := p.beg) (own := own) hP)
  have HGC := Lib.hid (show ∀ k, (Value.slice ra c rc).ownBlock = some k → k ≠ p.gc from fun k hk e => by
    have h1 := hrow.ge k hk
    obtain ⟨C, h2, _, _⟩ := H.out.cl
    have := h2.lt
    omega)
  clear hrow hq1 hb1 hP H s3 HPC HSD
  go_wp2_with fail
  go_loopw [22] (fun iv wr => ∃ i : Nat, iv = .int .i64 i ∧ i ≤ c ∧ Sq p C0 w1 wr (afB Ow p.beg own P V i)) (fun iv _ => c - (intOf iv).toNat)
  case atStart => exact ⟨0, rfl, by omega, HQ1.out⟩
  case round =>
    clear HQ1
    obtain ⟨i, rfl, hic, hq⟩ := hrel
    have HQ := Lib.hid hq
    clear hq
    by_cases hi : i < c
    · obtain ⟨hab, hbm⟩ := HPM.out i hi
      have hrow2 := RowV.block HROW.out (fun k hk => Aside.block HQ.out.on k (HROW.out.lt hk) (HGC.out k hk) (by simp [Value.ownBlock]))
      obtain ⟨g2, cap2, hv2, _, _, _, _, _, hcc⟩ := RowV.at hrow2 (by omega)
      cases hv2
      have d0 := hcc i hi 0 (by omega)
      have d1 := hcc i hi 1 (by omega)
      rw [Nat.add_zero] at d0
      obtain ⟨a, ha⟩ : ∃ a, a = (P i).1 := ⟨_, rfl⟩
      obtain ⟨b, hbb⟩ : ∃ b, b = (P i).2 := ⟨_, rfl⟩
      rw [show prV P i 0 = .int .i64 a by rw [ha]; rfl] at d0
      rw [show prV P i 1 = .int .i64 b by rw [hbb]; rfl] at d1
      rw [← ha, ← hbb] at hab
      rw [← hbb] at hbm
      obtain ⟨W, hW⟩ : ∃ W, W = afB Ow p.beg own P V i := ⟨_, rfl⟩
      have HAF := Lib.hid (show afB Ow p.beg own P V (i + 1) = bkSet Ow p.beg own W (P i) by rw [hW]; rfl)
      have HA := Lib.hid ha
      have HBB := Lib.hid hbb
      rw [← hW] at HQ
      clear hW ha hbb hcc hrow2
      obtain ⟨wz, hwz⟩ : ∃ wz, wz = wr.alloc (Obj.cells #[.int .i64 a, .int .i64 b] 69) := ⟨_, rfl⟩
      have HQZ := Lib.hid (HQ.out.under (w' := wz) (B := wr.heap.size) (by rw [hwz]; exact (Below.refl _ _).alloc (Nat.le_refl _) _) (Nat.le_refl _))
      have qz : Blk wz wr.heap.size #[.int .i64 a, .int .i64 b] 69 := by rw [hwz]; exact Blk.new _ _ _
      go_upto_region 4 with fail
      rw [← hwz]
      have HBZ := Lib.hid qz
      have zq := qz.lt
      have y0 : wz.cell? ⟨wr.heap.size, 0, none⟩ = some (.int .i64 a) := qz.cell (i := 0) rfl
      have y1 : wz.cell? ⟨wr.heap.size, 1, none⟩ = some (.int .i64 b) := qz.cell (i := 1) rfl
      obtain ⟨g, hg⟩ : ∃ g, g = wr.heap.size := ⟨_, rfl⟩
      rw [← hg] at y0 y1 zq HBZ ⊢
      have hw1 := IntWalk.i64_in ((a : Int) + 1) (by omega)
      clear hwz hg d0 d1 HQ qz
      go_wp2_with fail
      go_loopw [5, 6, 7] (fun sv ov kv wx => ∃ k : Nat, sv = .bool (sameB W own a k) ∧ ov = .bool (otherB W own a k) ∧ kv = .int .i64 k ∧ a + 1 ≤ k ∧ k ≤ b ∧ Sq p C0 w1 wx W ∧ Blk wx g #[.int .i64 a, .int .i64 b] 69) (fun _ _ kv _ => b - (intOf kv).toNat)
      case atStart => exact ⟨a + 1, by rw [sameB_start], by rw [otherB_start], by go_num, Nat.le_refl _, by omega, HQZ.out, HBZ.out⟩
      case round =>
        clear HQZ y0 y1 zq hw1 HBZ
        obtain ⟨k, rfl, rfl, rfl, hak, hkb, hq, hbz⟩ := hrel
        have HQ := Lib.hid hq
        have HBZ := Lib.hid hbz
        have y0 : wr.cell? ⟨g, 0, none⟩ = some (.int .i64 a) := hbz.cell (i := 0) rfl
        have y1 : wr.cell? ⟨g, 1, none⟩ = some (.int .i64 b) := hbz.cell (i := 1) rfl
        clear hq hbz
        obtain ⟨S, hS⟩ : ∃ S, S = sameB W own a k := ⟨_, rfl⟩
        obtain ⟨O, hO⟩ : ∃ O, O = otherB W own a k := ⟨_, rfl⟩
        have HS := Lib.hid hS
        have HO := Lib.hid hO
        rw [← hS, ← hO]
        clear hS hO
        by_cases hkb2 : k < b
        · have hkb3 : (k : Int) < (b : Int) := by omega
          have HG := Lib.hid (getk0_any OK.out HQ.out k (by omega))
          have HS1 := Lib.hid (show sameB W own a (k + 1) = (S || decide (ctB (W k) = own)) by rw [sameB_step hak, HS.out])
          have HO1 := Lib.hid (show otherB W own a (k + 1) = (O || decide (0 ≤ ctB (W k) ∧ ctB (W k) ≠ own)) by rw [otherB_step hak, HO.out])
          have hct := ctB_range (W k)
          obtain ⟨ct, hcd⟩ : ∃ ct, ct = ctB (W k) := ⟨_, rfl⟩
          have HL := Lib.hid (fun x => letter_is hcd.symm x)
          rw [← hcd] at HS1 HO1 hct
          have ho := HOWN.out
          clear hcd
          by_cases hco : ct = own
          · have hce : (ct == own) = true := by simpa using hco
            have HS2 := Lib.hid (show sameB W own a (k + 1) = true by rw [HS1.out]; simp [hco])
            have HO2 := Lib.hid (show otherB W own a (k + 1) = O by rw [HO1.out]; simp [hco])
            clear hco hct ho HS1 HO1
            go_wp2_with fail
            refine HG.out.mono ?_
            rintro e w2 ⟨rfl, q, rfl⟩
            go_wp2_with fail
            refine (HL.out _).mono ?_
            rintro e w2 ⟨rfl, rfl⟩
            go_wp2_with fail
            go_roundw
            case rel => exact ⟨k + 1, by rw [HS2.out], by rw [HO2.out], by go_num, by omega, by omega, HQ.out.drewN q, HBZ.out.drewN q⟩
            case measure => simp [intOf]; omega
          · have hce : (ct == own) = false := by simpa using hco
            have HS2 := Lib.hid (show sameB W own a (k + 1) = S by rw [HS1.out]; simp [hco])
            by_cases hc0 : 0 ≤ ct
            · have HO2 := Lib.hid (show otherB W own a (k + 1) = true by rw [HO1.out]; simp [hco, hc0])
              have hc01 : ct = 0 ∨ ct = 1 := by omega
              clear hco hct ho HS1 HO1 hc0
              rcases hc01 with rfl | rfl
              all_goals
                go_wp2_with fail
                refine HG.out.mono ?_
                rintro e w2 ⟨rfl, q, rfl⟩
                go_wp2_with fail
                refine (HL.out _).mono ?_
                rintro e w2 ⟨rfl, rfl⟩
                go_wp2_with fail
                go_roundw
                case rel => exact ⟨k + 1, by rw [HS2.out], by rw [HO2.out], by go_num, by omega, by omega, HQ.out.drewN q, HBZ.out.drewN q⟩
                case measure => simp [intOf]; omega
            · have HO2 := Lib.hid (show otherB W own a (k + 1) = O by rw [HO1.out]; simp [hc0])
              obtain rfl : ct = -1 := by omega
              clear hco hct ho HS1 HO1 hc0
              go_wp2_with fail
              refine HG.out.mono ?_
              rintro e w2 ⟨rfl, q, rfl⟩
              go_wp2_with fail
              refine (HL.out _).mono ?_
              rintro e w2 ⟨rfl, rfl⟩
              go_wp2_with fail
              go_roundw
              case rel => exact ⟨k + 1, by rw [HS2.out], by rw [HO2.out], by go_num, by omega, by omega, HQ.out.drewN q, HBZ.out.drewN q⟩
              case measure => simp [intOf]; omega
        · obtain rfl : b = k := by omega
          have hkb3 : ¬ (b : Int) < (b : Int) := by omega
          by_cases hST : S = true
          · subst hST
            have HSET := Lib.hid (show ∀ j, afB Ow p.beg own P V (i + 1) j = if grpB Ow b j = true then own else if grpB Ow a j = true then own else W j from fun j => by
              rw [HAF.out, bkSet_is (cl := own) (.inl (by rw [← HA.out, ← HBB.out, ← HS.out])) (by rw [← HA.out, ← HBB.out, ← HS.out, if_pos rfl]), ← HA.out, ← HBB.out])
            clear hak
            have HG0 := Lib.hid (fun j => (gE_one Ow W own a b j).symm)
            have HG1 := Lib.hid (show ∀ j, (if grpB Ow b j = true then own else gE Ow W own a b 1 j) = gE Ow W own a b 2 j from fun j => by rw [gE_one, gE_two])
            go_wp2_with fail
            go_loopw [77] (fun iv wx => ∃ e : Nat, iv = .int .i64 e ∧ e ≤ 2 ∧ Sq p C0 w1 wx (gE Ow W own a b e)) (fun iv _ => 2 - (intOf iv).toNat)
            case atStart => exact ⟨0, rfl, by omega, HQ.out.congr fun j _ => (gE_zero _ _ _ _ _ j).symm⟩
            case round =>
              clear HQ y0 y1
              obtain ⟨e, rfl, he, hq⟩ := hrel
              obtain rfl | rfl | rfl : e = 0 ∨ e = 1 ∨ e = 2 := by omega
              · have HQ := Lib.hid (hq.congr fun j _ => gE_zero _ _ _ _ _ j)
                clear hq he HG1
                go_wp2_with fail
                refine (set_any OK.out HQ.out a (by omega) own).mono ?_
                rintro e3 w3 ⟨rfl, hq3⟩
                have HQ3 := Lib.hid (hq3.congr fun j _ => grpT_start j)
                clear hq3 HQ
                have hw9 := IntWalk.i64_in ((a : Int) + 1) (by omega)
                go_wp2_with fail
                go_loopw [13] (fun tv wx => ∃ t : Nat, tv = .int .i64 t ∧ a < t ∧ t ≤ p.m ∧ (∀ y, a < y → y < t → Ow y = 8) ∧ Sq p C0 w1 wx (grpT (W) own a t)) (fun tv _ => p.m - (intOf tv).toNat)
                case atStart => exact ⟨a + 1, by go_num, by omega, by omega, fun y h1 h2 => by omega, HQ3.out⟩
                case round =>
                  clear HQ3
                  obtain ⟨t, rfl, hxt, htm, hall, hq⟩ := hrel
                  have HQ := Lib.hid hq
                  have HA := Lib.hid hall
                  have s1 : wr.cell? ⟨p.sz, 1, none⟩ = _ := hq.st.sb.cell (i := 1) rfl
                  have s2 : wr.cell? ⟨p.sz, 2, none⟩ = _ := hq.st.sb.cell (i := 2) rfl
                  clear hq hall hw9
                  by_cases htm2 : t < p.m
                  · have a1 := HQ.out.st.at_ t htm2
                    have hAt := OK.out.lt t htm2
                    have hAt2 : ((p.A t : Nat) : Int) < (p.n : Int) := by omega
                    have a2 := HQ.out.st.ow (p.A t) hAt
                    rw [← HOW.out] at a2
                    have hti : (t : Int) < (p.m : Int) := by omega
                    by_cases h8 : Ow t = 8
                    · have h8' : (Ow t == 8) = true := by simpa using h8
                      have HA2 := Lib.hid (show ∀ y, a < y → y < t + 1 → Ow y = 8 from fun y h1 h2 => by
                        rcases Nat.lt_or_ge y t with h | h
                        · exact HA.out y h1 h
                        · rw [show y = t by omega]; exact h8)
                      clear h8
                      go_wp2_with fail
                      go_quiet (fail)
                      go_wp2_with fail
                      refine (set_any OK.out (HQ.out.drewN nq) t htm2 own).mono ?_
                      rintro e4 w4 ⟨rfl, hq4⟩
                      have HQ4 := Lib.hid (hq4.congr fun j _ => grpT_step (Nat.le_of_lt hxt) j)
                      clear hq4 HQ s1 s2 a1 a2
                      go_wp2_with fail
                      go_roundw
                      case rel => exact ⟨t + 1, by go_num, by omega, by omega, HA2.out, HQ4.out⟩
                      case measure => simp [intOf]; omega
                    · have h8' : (Ow t == 8) = false := by simpa using h8
                      have HE := Lib.hid (show t = p.m ∨ Ow t ≠ 8 from .inr h8)
                      clear h8
                      go_wp2_with fail
                      go_quiet (fail)
                      go_wp2_with fail
                      go_roundw
                      case rel => exact ⟨1, rfl, by omega, (HQ.out.drewN nq).congr fun j hj => (grpT_end hxt HA.out HE.out hj).trans (HG0.out j)⟩
                      case measure => simp [intOf]
                  · have HE := Lib.hid (show t = p.m ∨ Ow t ≠ 8 from .inl (by omega))
                    have hti : ¬ (t : Int) < (p.m : Int) := by omega
                    go_wp2_with fail
                    go_quiet (fail)
                    go_wp2_with fail
                    go_roundw
                    case rel => exact ⟨1, rfl, by omega, (HQ.out.drewN nq).congr fun j hj => (grpT_end hxt HA.out HE.out hj).trans (HG0.out j)⟩
                    case measure => simp [intOf]
              · have HQ := Lib.hid hq
                clear hq he HG0
                go_wp2_with fail
                refine (set_any OK.out HQ.out b (by omega) own).mono ?_
                rintro e3 w3 ⟨rfl, hq3⟩
                have HQ3 := Lib.hid (hq3.congr fun j _ => grpT_start j)
                clear hq3 HQ
                have hw9 := IntWalk.i64_in ((b : Int) + 1) (by omega)
                go_wp2_with fail
                go_loopw [13] (fun tv wx => ∃ t : Nat, tv = .int .i64 t ∧ b < t ∧ t ≤ p.m ∧ (∀ y, b < y → y < t → Ow y = 8) ∧ Sq p C0 w1 wx (grpT (gE Ow W own a b 1) own b t)) (fun tv _ => p.m - (intOf tv).toNat)
                case atStart => exact ⟨b + 1, by go_num, by omega, by omega, fun y h1 h2 => by omega, HQ3.out⟩
                case round =>
                  clear HQ3
                  obtain ⟨t, rfl, hxt, htm, hall, hq⟩ := hrel
                  have HQ := Lib.hid hq
                  have HA := Lib.hid hall
                  have s1 : wr.cell? ⟨p.sz, 1, none⟩ = _ := hq.st.sb.cell (i := 1) rfl
                  have s2 : wr.cell? ⟨p.sz, 2, none⟩ = _ := hq.st.sb.cell (i := 2) rfl
                  clear hq hall hw9
                  by_cases htm2 : t < p.m
                  · have a1 := HQ.out.st.at_ t htm2
                    have hAt := OK.out.lt t htm2
                    have hAt2 : ((p.A t : Nat) : Int) < (p.n : Int) := by omega
                    have a2 := HQ.out.st.ow (p.A t) hAt
                    rw [← HOW.out] at a2
                    have hti : (t : Int) < (p.m : Int) := by omega
                    by_cases h8 : Ow t = 8
                    · have h8' : (Ow t == 8) = true := by simpa using h8
                      have HA2 := Lib.hid (show ∀ y, b < y → y < t + 1 → Ow y = 8 from fun y h1 h2 => by
                        rcases Nat.lt_or_ge y t with h | h
                        · exact HA.out y h1 h
                        · rw [show y = t by omega]; exact h8)
                      clear h8
                      go_wp2_with fail
                      go_quiet (fail)
                      go_wp2_with fail
                      refine (set_any OK.out (HQ.out.drewN nq) t htm2 own).mono ?_
                      rintro e4 w4 ⟨rfl, hq4⟩
                      have HQ4 := Lib.hid (hq4.congr fun j _ => grpT_step (Nat.le_of_lt hxt) j)
                      clear hq4 HQ s1 s2 a1 a2
                      go_wp2_with fail
                      go_roundw
                      case rel => exact ⟨t + 1, by go_num, by omega, by omega, HA2.out, HQ4.out⟩
                      case measure => simp [intOf]; omega
                    · have h8' : (Ow t == 8) = false := by simpa using h8
                      have HE := Lib.hid (show t = p.m ∨ Ow t ≠ 8 from .inr h8)
                      clear h8
                      go_wp2_with fail
                      go_quiet (fail)
                      go_wp2_with fail
                      go_roundw
                      case rel => exact ⟨2, rfl, by omega, (HQ.out.drewN nq).congr fun j hj => (grpT_end hxt HA.out HE.out hj).trans (HG1.out j)⟩
                      case measure => simp [intOf]
                  · have HE := Lib.hid (show t = p.m ∨ Ow t ≠ 8 from .inl (by omega))
                    have hti : ¬ (t : Int) < (p.m : Int) := by omega
                    go_wp2_with fail
                    go_quiet (fail)
                    go_wp2_with fail
                    go_roundw
                    case rel => exact ⟨2, rfl, by omega, (HQ.out.drewN nq).congr fun j hj => (grpT_end hxt HA.out HE.out hj).trans (HG1.out j)⟩
                    case measure => simp [intOf]
              · have HQ := Lib.hid (hq.congr fun j _ => (gE_two _ _ _ _ _ j).trans (HSET.out j).symm)
                clear hq HG0 HG1
                go_wp2_with fail
                go_roundw
                case rel => exact ⟨i + 1, by go_num, by omega, HQ.out⟩
                case measure => simp [intOf]; omega
          · obtain rfl : S = false := by simpa using hST
            clear hST
            by_cases hOT : O = true
            · subst hOT
              have HSET := Lib.hid (show ∀ j, afB Ow p.beg own P V (i + 1) j = if grpB Ow b j = true then sdL W p.beg a else if grpB Ow a j = true then sdL W p.beg a else W j from fun j => by
                rw [HAF.out, bkSet_is (cl := sdL W p.beg a) (.inr (by rw [← HA.out, ← HBB.out, ← HO.out])) (by rw [← HA.out, ← HBB.out, ← HS.out, if_neg (by decide)]), ← HA.out, ← HBB.out])
              obtain ⟨cl, hcl⟩ : ∃ cl, cl = sdL W p.beg a := ⟨_, rfl⟩
              rw [← hcl] at HSET
              have HCL := Lib.hid hcl
              have s4 : wr.cell? ⟨p.sz, 4, none⟩ = _ := HQ.out.st.sb.cell (i := 4) rfl
              have hw1 := IntWalk.i64_in ((a : Int) - 1) (by omega)
              clear hcl hak
              go_upto_if 53 with fail
              go_cut [8] from 54 to 75 (fun v wx => v = .int .i64 cl ∧ Sq p C0 w1 wx W ∧ Blk wx g #[.int .i64 a, .int .i64 b] 69)
              case first =>
                go_upto_block 5 with fail
                go_cut [9] from 61 to 71 (fun v wx => v = .int .i64 cl ∧ Sq p C0 w1 wx W ∧ Blk wx g #[.int .i64 a, .int .i64 b] 69)
                case first =>
                  go_wp2_with fail
                  go_loopw [9, 10] (fun v kv wx => ∃ k : Nat, v = .int .i64 p.beg ∧ kv = .int .i64 ((k : Int) - 1) ∧ k ≤ a ∧ cl = sdL W p.beg k ∧ Sq p C0 w1 wx W ∧ Blk wx g #[.int .i64 a, .int .i64 b] 69) (fun _ kv _ => (intOf kv + 1).toNat)
                  case atStart => exact ⟨a, rfl, rfl, Nat.le_refl _, HCL.out, HQ.out, HBZ.out⟩
                  case round =>
                    clear HQ HBZ y0 y1 s4
                    obtain ⟨k, rfl, rfl, hka, hcl, hq, hbz⟩ := hrel
                    have HQ := Lib.hid hq
                    have HBZ := Lib.hid hbz
                    have HC := Lib.hid hcl
                    clear hq hbz hcl
                    cases k with
                    | zero =>
                      have HZ := Lib.hid (show p.beg = cl from HC.out.symm)
                      go_wp2_with fail
                      go_meet
                      exact ⟨by rw [HZ.out], HQ.out, HBZ.out⟩
                    | succ k =>
                      have e1 : ((k + 1 : Nat) : Int) - 1 = k := by omega
                      have h0 : (0 : Int) ≤ k := by omega
                      rw [e1]
                      have hw2 := IntWalk.i64_in ((k : Int) - 1) (by omega)
                      have HG := Lib.hid (getk0_any OK.out HQ.out k (by omega))
                      obtain ⟨ct, hcd⟩ : ∃ ct, ct = ctB (W k) := ⟨_, rfl⟩
                      have HL := Lib.hid (fun x => letter_is hcd.symm x)
                      have HT := Lib.hid (show cl = if 0 ≤ ct then ct else sdL W p.beg k by rw [HC.out, sdL, hcd])
                      clear hcd e1
                      by_cases hct : 0 ≤ ct
                      · have HZ := Lib.hid (HT.out.trans (if_pos hct))
                        go_wp2_with fail
                        refine HG.out.mono ?_
                        rintro e w2 ⟨rfl, q, rfl⟩
                        go_wp2_with fail
                        refine (HL.out _).mono ?_
                        rintro e w2 ⟨rfl, rfl⟩
                        go_wp2_with fail
                        go_meet
                        exact ⟨by rw [HZ.out], HQ.out.drewN q, HBZ.out.drewN q⟩
                      · have HZ := Lib.hid (HT.out.trans (if_neg hct))
                        go_wp2_with fail
                        refine HG.out.mono ?_
                        rintro e w2 ⟨rfl, q, rfl⟩
                        go_wp2_with fail
                        refine (HL.out _).mono ?_
                        rintro e w2 ⟨rfl, rfl⟩
                        go_wp2_with fail
                        go_roundw
                        case rel => exact ⟨k, rfl, by go_num, by omega, HZ.out, HQ.out.drewN q, HBZ.out.drewN q⟩
                        case measure => simp [intOf]
                case rest =>
                obtain ⟨rfl, hq, hbz⟩ := hcut
                clear HQ HBZ y0 y1 s4
                have HQ := Lib.hid hq
                have HBZ := Lib.hid hbz
                clear hq hbz
                by_cases hco : cl = own
                · have hce : (cl != own) = false := by simp [hco]
                  have HCO := Lib.hid hco
                  clear hco
                  go_wp2_with fail
                  go_meet
                  exact ⟨by rw [HCO.out], HQ.out, HBZ.out⟩
                · have hce : (cl != own) = true := by simpa using hco
                  clear hco
                  go_wp2_with fail
                  go_meet
                  exact ⟨rfl, HQ.out, HBZ.out⟩
              case rest =>
              obtain ⟨rfl, hq, hbz⟩ := hcut
              clear HQ HBZ y0 y1 s4
              have HQ := Lib.hid hq
              have y0 : wc.cell? ⟨g, 0, none⟩ = some (.int .i64 a) := hbz.cell (i := 0) rfl
              have y1 : wc.cell? ⟨g, 1, none⟩ = some (.int .i64 b) := hbz.cell (i := 1) rfl
              clear hq hbz
              have HG0 := Lib.hid (fun j => (gE_one Ow W cl a b j).symm)
              have HG1 := Lib.hid (show ∀ j, (if grpB Ow b j = true then cl else gE Ow W cl a b 1 j) = gE Ow W cl a b 2 j from fun j => by rw [gE_one, gE_two])
              go_wp2_with fail
              go_loopw [77] (fun iv wx => ∃ e : Nat, iv = .int .i64 e ∧ e ≤ 2 ∧ Sq p C0 w1 wx (gE Ow W cl a b e)) (fun iv _ => 2 - (intOf iv).toNat)
              case atStart => exact ⟨0, rfl, by omega, HQ.out.congr fun j _ => (gE_zero _ _ _ _ _ j).symm⟩
              case round =>
                clear HQ y0 y1
                obtain ⟨e, rfl, he, hq⟩ := hrel
                obtain rfl | rfl | rfl : e = 0 ∨ e = 1 ∨ e = 2 := by omega
                · have HQ := Lib.hid (hq.congr fun j _ => gE_zero _ _ _ _ _ j)
                  clear hq he HG1
                  go_wp2_with fail
                  refine (set_any OK.out HQ.out a (by omega) cl).mono ?_
                  rintro e3 w3 ⟨rfl, hq3⟩
                  have HQ3 := Lib.hid (hq3.congr fun j _ => grpT_start j)
                  clear hq3 HQ
                  have hw9 := IntWalk.i64_in ((a : Int) + 1) (by omega)
                  go_wp2_with fail
                  go_loopw [13] (fun tv wx => ∃ t : Nat, tv = .int .i64 t ∧ a < t ∧ t ≤ p.m ∧ (∀ y, a < y → y < t → Ow y = 8) ∧ Sq p C0 w1 wx (grpT (W) cl a t)) (fun tv _ => p.m - (intOf tv).toNat)
                  case atStart => exact ⟨a + 1, by go_num, by omega, by omega, fun y h1 h2 => by omega, HQ3.out⟩
                  case round =>
                    clear HQ3
                    obtain ⟨t, rfl, hxt, htm, hall, hq⟩ := hrel
                    have HQ := Lib.hid hq
                    have HA := Lib.hid hall
                    have s1 : wr.cell? ⟨p.sz, 1, none⟩ = _ := hq.st.sb.cell (i := 1) rfl
                    have s2 : wr.cell? ⟨p.sz, 2, none⟩ = _ := hq.st.sb.cell (i := 2) rfl
                    clear hq hall hw9
                    by_cases htm2 : t < p.m
                    · have a1 := HQ.out.st.at_ t htm2
                      have hAt := OK.out.lt t htm2
                      have hAt2 : ((p.A t : Nat) : Int) < (p.n : Int) := by omega
                      have a2 := HQ.out.st.ow (p.A t) hAt
                      rw [← HOW.out] at a2
                      have hti : (t : Int) < (p.m : Int) := by omega
                      by_cases h8 : Ow t = 8
                      · have h8' : (Ow t == 8) = true := by simpa using h8
                        have HA2 := Lib.hid (show ∀ y, a < y → y < t + 1 → Ow y = 8 from fun y h1 h2 => by
                          rcases Nat.lt_or_ge y t with h | h
                          · exact HA.out y h1 h
                          · rw [show y = t by omega]; exact h8)
                        clear h8
                        go_wp2_with fail
                        go_quiet (fail)
                        go_wp2_with fail
                        refine (set_any OK.out (HQ.out.drewN nq) t htm2 cl).mono ?_
                        rintro e4 w4 ⟨rfl, hq4⟩
                        have HQ4 := Lib.hid (hq4.congr fun j _ => grpT_step (Nat.le_of_lt hxt) j)
                        clear hq4 HQ s1 s2 a1 a2
                        go_wp2_with fail
                        go_roundw
                        case rel => exact ⟨t + 1, by go_num, by omega, by omega, HA2.out, HQ4.out⟩
                        case measure => simp [intOf]; omega
                      · have h8' : (Ow t == 8) = false := by simpa using h8
                        have HE := Lib.hid (show t = p.m ∨ Ow t ≠ 8 from .inr h8)
                        clear h8
                        go_wp2_with fail
                        go_quiet (fail)
                        go_wp2_with fail
                        go_roundw
                        case rel => exact ⟨1, rfl, by omega, (HQ.out.drewN nq).congr fun j hj => (grpT_end hxt HA.out HE.out hj).trans (HG0.out j)⟩
                        case measure => simp [intOf]
                    · have HE := Lib.hid (show t = p.m ∨ Ow t ≠ 8 from .inl (by omega))
                      have hti : ¬ (t : Int) < (p.m : Int) := by omega
                      go_wp2_with fail
                      go_quiet (fail)
                      go_wp2_with fail
                      go_roundw
                      case rel => exact ⟨1, rfl, by omega, (HQ.out.drewN nq).congr fun j hj => (grpT_end hxt HA.out HE.out hj).trans (HG0.out j)⟩
                      case measure => simp [intOf]
                · have HQ := Lib.hid hq
                  clear hq he HG0
                  go_wp2_with fail
                  refine (set_any OK.out HQ.out b (by omega) cl).mono ?_
                  rintro e3 w3 ⟨rfl, hq3⟩
                  have HQ3 := Lib.hid (hq3.congr fun j _ => grpT_start j)
                  clear hq3 HQ
                  have hw9 := IntWalk.i64_in ((b : Int) + 1) (by omega)
                  go_wp2_with fail
                  go_loopw [13] (fun tv wx => ∃ t : Nat, tv = .int .i64 t ∧ b < t ∧ t ≤ p.m ∧ (∀ y, b < y → y < t → Ow y = 8) ∧ Sq p C0 w1 wx (grpT (gE Ow W cl a b 1) cl b t)) (fun tv _ => p.m - (intOf tv).toNat)
                  case atStart => exact ⟨b + 1, by go_num, by omega, by omega, fun y h1 h2 => by omega, HQ3.out⟩
                  case round =>
                    clear HQ3
                    obtain ⟨t, rfl, hxt, htm, hall, hq⟩ := hrel
                    have HQ := Lib.hid hq
                    have HA := Lib.hid hall
                    have s1 : wr.cell? ⟨p.sz, 1, none⟩ = _ := hq.st.sb.cell (i := 1) rfl
                    have s2 : wr.cell? ⟨p.sz, 2, none⟩ = _ := hq.st.sb.cell (i := 2) rfl
                    clear hq hall hw9
                    by_cases htm2 : t < p.m
                    · have a1 := HQ.out.st.at_ t htm2
                      have hAt := OK.out.lt t htm2
                      have hAt2 : ((p.A t : Nat) : Int) < (p.n : Int) := by omega
                      have a2 := HQ.out.st.ow (p.A t) hAt
                      rw [← HOW.out] at a2
                      have hti : (t : Int) < (p.m : Int) := by omega
                      by_cases h8 : Ow t = 8
                      · have h8' : (Ow t == 8) = true := by simpa using h8
                        have HA2 := Lib.hid (show ∀ y, b < y → y < t + 1 → Ow y = 8 from fun y h1 h2 => by
                          rcases Nat.lt_or_ge y t with h | h
                          · exact HA.out y h1 h
                          · rw [show y = t by omega]; exact h8)
                        clear h8
                        go_wp2_with fail
                        go_quiet (fail)
                        go_wp2_with fail
                        refine (set_any OK.out (HQ.out.drewN nq) t htm2 cl).mono ?_
                        rintro e4 w4 ⟨rfl, hq4⟩
                        have HQ4 := Lib.hid (hq4.congr fun j _ => grpT_step (Nat.le_of_lt hxt) j)
                        clear hq4 HQ s1 s2 a1 a2
                        go_wp2_with fail
                        go_roundw
                        case rel => exact ⟨t + 1, by go_num, by omega, by omega, HA2.out, HQ4.out⟩
                        case measure => simp [intOf]; omega
                      · have h8' : (Ow t == 8) = false := by simpa using h8
                        have HE := Lib.hid (show t = p.m ∨ Ow t ≠ 8 from .inr h8)
                        clear h8
                        go_wp2_with fail
                        go_quiet (fail)
                        go_wp2_with fail
                        go_roundw
                        case rel => exact ⟨2, rfl, by omega, (HQ.out.drewN nq).congr fun j hj => (grpT_end hxt HA.out HE.out hj).trans (HG1.out j)⟩
                        case measure => simp [intOf]
                    · have HE := Lib.hid (show t = p.m ∨ Ow t ≠ 8 from .inl (by omega))
                      have hti : ¬ (t : Int) < (p.m : Int) := by omega
                      go_wp2_with fail
                      go_quiet (fail)
                      go_wp2_with fail
                      go_roundw
                      case rel => exact ⟨2, rfl, by omega, (HQ.out.drewN nq).congr fun j hj => (grpT_end hxt HA.out HE.out hj).trans (HG1.out j)⟩
                      case measure => simp [intOf]
                · have HQ := Lib.hid (hq.congr fun j _ => (gE_two _ _ _ _ _ j).trans (HSET.out j).symm)
                  clear hq HG0 HG1
                  go_wp2_with fail
                  go_roundw
                  case rel => exact ⟨i + 1, by go_num, by omega, HQ.out⟩
                  case measure => simp [intOf]; omega
            · obtain rfl : O = false := by simpa using hOT
              have HZ := Lib.hid (show ∀ j, W j = afB Ow p.beg own P V (i + 1) j from fun j => by
                rw [HAF.out, bkSet_not (by rw [← HA.out, ← HBB.out, ← HS.out]) (by rw [← HA.out, ← HBB.out, ← HO.out])])
              clear hOT
              go_wp2_with fail
              go_roundw
              case rel => exact ⟨i + 1, by go_num, by omega, HQ.out.congr fun j _ => HZ.out j⟩
              case measure => simp [intOf]; omega
    · obtain rfl : i = c := by omega
      go_wp2_with fail
      first | go_end0 | (simp only [Exit.inBlock, Exit.then]; refine bodyPost_ret (results_none rfl _ _ _) rfl ?_) | refine bodyPost_ret (results_none rfl _ _ _) rfl ?_
      exact ⟨rfl, ⟨HQ.out.st, by rw [← HEND.out]; exact HQ.out.cl, Aside.trans HON.out HQ.out.on⟩⟩
end
end Go.Proofs.YtojbicdmcodgdaaDoor.BD
namespace Go.Law.Bd
open Go Go.Law Go.RowKit
/-- the levels with those of the first i places raised -/
def LvU (p : SqP) (V L : Nat → Int) (i : Nat) (w : World) : Prop :=
  ∃ L', OwnF w 3 p.gl p.n L' ∧ (∀ k, k < i → L' (p.A k) = L (p.A k) + impP p.lev (V k)) ∧ ∀ j, (∀ k, k < i → p.A k ≠ j) → L' j = L j
theorem LvU.drewN {p : SqP} {V L : Nat → Int} {i : Nat} {w : World} (h : LvU p V L i w) (q : Nat) : LvU p V L i (w.drewN q) := by
  obtain ⟨L', h1, h2, h3⟩ := h
  exact ⟨L', h1.drewN q, h2, h3⟩
theorem LvU.cell {p : SqP} {V L : Nat → Int} {i : Nat} {w : World} (h : LvU p V L i w) (ok : SqOk p) (hi : i < p.m) : w.cell? ⟨p.gl, p.A i, none⟩ = some (.int .i64 (L (p.A i))) := by
  obtain ⟨L', h1, h2, h3⟩ := h
  rw [← h3 (p.A i) (fun k hk e => by have := ok.inj k i (by omega) hi e; omega)]
  exact h1.cell (ok.lt i hi)
theorem LvU.frozen {p : SqP} {V L : Nat → Int} {i : Nat} {w : World} (h : LvU p V L i w) (j : Nat) : w.frozen? ⟨p.gl, j, none⟩ = false := by
  obtain ⟨L', h1, h2, h3⟩ := h
  exact h1.frozen j
theorem LvU.same {p : SqP} {V L : Nat → Int} {i : Nat} {w : World} (h : LvU p V L i w) (ok : SqOk p) (hi : i < p.m) (hz : impP p.lev (V i) = 0) : LvU p V L (i + 1) w := by
  obtain ⟨L', h1, h2, h3⟩ := h
  refine ⟨L', h1, fun k hk => ?_, fun j hj => h3 j fun k hk => hj k (by omega)⟩
  by_cases he : k = i
  · subst he
    rw [h3 (p.A k) (fun x hx e => by have := ok.inj x k (by omega) hi e; omega), hz, Int.add_zero]
  · exact h2 k (by omega)
theorem LvU.set {p : SqP} {V L : Nat → Int} {i : Nat} {w : World} {x : Int} (h : LvU p V L i w) (ok : SqOk p) (hi : i < p.m) (hz : L (p.A i) + impP p.lev (V i) = x) :
    LvU p V L (i + 1) (w.setCell ⟨p.gl, p.A i, none⟩ (.int .i64 x)) := by
  obtain ⟨L', h1, h2, h3⟩ := h
  refine ⟨_, h1.set (p.A i) x, fun k hk => ?_, fun j hj => ?_⟩
  · unfold upd
    by_cases he : k = i
    · subst he; rw [if_pos rfl, hz]
    · rw [if_neg (fun e => he (ok.inj k i (by omega) hi e))]; exact h2 k (by omega)
  · unfold upd
    rw [if_neg (fun e => hj i (by omega) e.symm)]; exact h3 j fun k hk => hj k (by omega)
end Go.Law.Bd
namespace Go.Proofs.YtojbicdmcodgdaaDoor.BD
open Go.RowKit Go.Law Go.Law.Bd
set_option linter.unusedVariables false
set_option linter.unusedSimpArgs false
set_option maxRecDepth 100000
/-- what a sequence's walk over its levels keeps -/
structure Lq (p : SqP) (C0 V L : Nat → Int) (w0 w : World) (i : Nat) : Prop where
  st : SqW p w
  cl : ClsV p C0 w V
  lv : LvU p V L i w
  on : Only p.gl w0 w
section
variable {p : SqP} {C0 V L : Nat → Int} {w0 w : World} {i : Nat}
theorem Lq.sq (h : Lq p C0 V L w0 w i) : Sq p C0 w w V := ⟨h.st, h.cl, Aside.refl _ _ _⟩
theorem Lq.drewN (h : Lq p C0 V L w0 w i) (q : Nat) : Lq p C0 V L w0 (w.drewN q) i := ⟨h.st.drewN q, h.cl.drewN q, h.lv.drewN q, Aside.drewN h.on q⟩
theorem Lq.set (h : Lq p C0 V L w0 w i) (ok : SqOk p) (hi : i < p.m) {x : Int} (hz : L (p.A i) + impP p.lev (V i) = x) : Lq p C0 V L w0 (w.setCell ⟨p.gl, p.A i, none⟩ (.int .i64 x)) (i + 1) where
  st := h.st.block (g := p.gl) (fun j _ hne => Below.heap_setCell _ _ _ _ hne) ok.l1 ok.l2 ok.l3 ok.l4
  cl := by
    obtain ⟨C, h1, h2, h3⟩ := h.cl
    exact ⟨C, h1.other (fun e => ok.lc e.symm) _, h2, h3⟩
  lv := h.lv.set ok hi hz
  on := Only.set h.on (p.A i) _
set_option maxHeartbeats 8000000 in
theorem implicit_any (ok : SqOk p) (h : Lq p C0 V L w0 w 0) (hv : 0 ≤ p.lev) (hL : ∀ j, 0 ≤ L j ∧ L j ≤ 1000) :
    Calls Tryd.prog 19 #[.pointer (some ⟨p.sz, 0, none⟩)] w fun e w' => e = .returned (.tuple #[]) ∧ Lq p C0 V L w0 w' p.m := by
  have H := Lib.hid h
  have OK := Lib.hid ok
  have HL := Lib.hid hL
  have hm2 := ok.mn
  have hn2 := ok.n2
  have hmc := ok.mc
  have s1 : w.cell? ⟨p.sz, 1, none⟩ = _ := h.st.sb.cell (i := 1) rfl
  clear h ok hL
  go_enter Tryd.func19, Tryd.ntmps19
  go_wp2_with fail
  go_loopw [10] (fun iv wr => ∃ k : Nat, iv = .int .i64 k ∧ k ≤ p.m ∧ Lq p C0 V L w0 wr k) (fun iv _ => p.m - (intOf iv).toNat)
  case atStart => exact ⟨0, rfl, by omega, H.out⟩
  case round =>
    clear H s1
    obtain ⟨k, rfl, hk, hq⟩ := hrel
    have HQ := Lib.hid hq
    clear hq
    by_cases hkm : k < p.m
    · have a1 := HQ.out.st.at_ k hkm
      have s0 : wr.cell? ⟨p.sz, 0, none⟩ = _ := HQ.out.st.sb.cell (i := 0) rfl
      have s3 : wr.cell? ⟨p.sz, 3, none⟩ = _ := HQ.out.st.sb.cell (i := 3) rfl
      have p2 : wr.cell? ⟨p.pz, 2, none⟩ = _ := HQ.out.st.pb.cell (i := 2) rfl
      have l1 := HQ.out.lv.cell OK.out hkm
      have l2 := HQ.out.lv.frozen (p.A k)
      have hA := OK.out.lt k hkm
      have hA2 : ((p.A k : Nat) : Int) < (p.n : Int) := by omega
      have hLb := HL.out (p.A k)
      obtain ⟨ll, hll⟩ : ∃ ll, ll = L (p.A k) := ⟨_, rfl⟩
      rw [← hll] at l1 hLb
      have HLL := Lib.hid hll
      clear hll
      obtain ⟨hb1, hb2⟩ := hLb
      have HG := Lib.hid (getk0_any OK.out HQ.out.sq k hkm)
      obtain ⟨c, hc⟩ : ∃ c, c = V k := ⟨_, rfl⟩
      have HC := Lib.hid hc
      rw [← hc] at HG
      clear hc
      have hpar : p.lev % 2 = 0 ∨ p.lev % 2 = 1 := by omega
      rcases hpar with hpar | hpar
      · have f0 : (p.lev % 2 == 0) = true := by rw [hpar]; rfl
        have f1 : (p.lev % 2 == 1) = false := by rw [hpar]; rfl
        by_cases hc1 : c = 1
        · have HZ := Lib.hid (show L (p.A k) + impP p.lev (V k) = ll + 1 by rw [← HC.out, ← HLL.out]; unfold impP; rw [if_pos ⟨hpar, hc1⟩])
          subst hc1
          clear hpar
          go_wp2_with fail
          refine HG.out.mono ?_
          rintro e w2 ⟨rfl, q, rfl⟩
          go_wp2_with fail
          go_roundw
          case rel => exact ⟨k + 1, by go_num, by omega, (HQ.out.drewN q).set OK.out hkm HZ.out⟩
          case measure => simp [intOf]; omega
        · have g1 : (c == 1) = false := by simpa using hc1
          by_cases hc36 : c = 3 ∨ c = 6
          · have HZ := Lib.hid (show L (p.A k) + impP p.lev (V k) = ll + 2 by rw [← HC.out, ← HLL.out]; unfold impP; rw [if_neg (by omega), if_pos ⟨hpar, hc36⟩])
            clear hpar
            rcases hc36 with rfl | rfl
            all_goals
              clear hc1
              go_wp2_with fail
              refine HG.out.mono ?_
              rintro e w2 ⟨rfl, q, rfl⟩
              go_wp2_with fail
              go_roundw
              case rel => exact ⟨k + 1, by go_num, by omega, (HQ.out.drewN q).set OK.out hkm HZ.out⟩
              case measure => simp [intOf]; omega
          · have HZ := Lib.hid (show impP p.lev (V k) = 0 by rw [← HC.out]; unfold impP; rw [if_neg (by omega), if_neg (by omega), if_neg (by omega)])
            have g3 : (c == 3) = false := by simp; omega
            have g6 : (c == 6) = false := by simp; omega
            clear hpar hc1 hc36
            go_wp2_with fail
            refine HG.out.mono ?_
            rintro e w2 ⟨rfl, q, rfl⟩
            go_wp2_with fail
            go_roundw
            case rel => exact ⟨k + 1, by go_num, by omega, ⟨HQ.out.st.drewN q, HQ.out.cl.drewN q, (HQ.out.lv.drewN q).same OK.out hkm HZ.out, Aside.drewN HQ.out.on q⟩⟩
            case measure => simp [intOf]; omega
      · have f0 : (p.lev % 2 == 0) = false := by rw [hpar]; rfl
        have f1 : (p.lev % 2 == 1) = true := by rw [hpar]; rfl
        by_cases hc1 : c = 1
        · have HZ := Lib.hid (show impP p.lev (V k) = 0 by rw [← HC.out]; unfold impP; rw [if_neg (by omega), if_neg (by omega), if_neg (by omega)])
          subst hc1
          clear hpar
          go_wp2_with fail
          refine HG.out.mono ?_
          rintro e w2 ⟨rfl, q, rfl⟩
          go_wp2_with fail
          go_roundw
          case rel => exact ⟨k + 1, by go_num, by omega, ⟨HQ.out.st.drewN q, HQ.out.cl.drewN q, (HQ.out.lv.drewN q).same OK.out hkm HZ.out, Aside.drewN HQ.out.on q⟩⟩
          case measure => simp [intOf]; omega
        · have HZ := Lib.hid (show L (p.A k) + impP p.lev (V k) = ll + 1 by rw [← HC.out, ← HLL.out]; unfold impP; rw [if_neg (by omega), if_neg (by omega), if_pos ⟨hpar, hc1⟩])
          have g1 : (c != 1) = true := by simpa using hc1
          clear hpar hc1
          go_wp2_with fail
          refine HG.out.mono ?_
          rintro e w2 ⟨rfl, q, rfl⟩
          go_wp2_with fail
          go_roundw
          case rel => exact ⟨k + 1, by go_num, by omega, (HQ.out.drewN q).set OK.out hkm HZ.out⟩
          case measure => simp [intOf]; omega
    · obtain rfl : k = p.m := by omega
      go_wp2_with fail
      first | go_end0 | (simp only [Exit.inBlock, Exit.then]; refine bodyPost_ret (results_none rfl _ _ _) rfl ?_) | refine bodyPost_ret (results_none rfl _ _ _) rfl ?_
      exact ⟨rfl, HQ.out⟩
end
end Go.Proofs.YtojbicdmcodgdaaDoor.BD
