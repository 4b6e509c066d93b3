/-
  BdRRsC, BdRRsW, BdRLvC, BdRLvE, BdREmS.
-/
import Derived.Test.YtojbicdmcodgdaaDoorBdM21
import Derived.Test.YtojbicdmcodgdaaDoorBdM01
import Derived.BigQuiet
import Derived.Deep.CutRange
import Derived.Deep.CutBlock
import Derived.Test.YtojbicdmcodgdaaDoorBdM22
import Derived.Test.YtojbicdmcodgdaaDoorBdM07
import Derived.Test.YtojbicdmcodgdaaDoorBdM17
import Derived.Test.YtojbicdmcodgdaaDoorBdM19
import Derived.Test.YtojbicdmcodgdaaDoorBdM10
import Derived.Test.YtojbicdmcodgdaaDoorBdM16
import Derived.Test.YtojbicdmcodgdaaDoorBdM08
import Derived.Test.YtojbicdmcodgdaaDoorBdM04
namespace Go.Law.Bd
open Go Go.Law Go.RowKit
set_option linter.unusedVariables false
def WdP.lv (p : WdP) (V' : Nat → Int) : WdP := { p with V := V' }
/-- the levels of the first i places are changed -/
def Wl (p : WdP) (F up : Nat → Int) (b i : Nat) (w0 w : World) : Prop :=
  ∃ V', Ws (p.lv V') F b w0 w ∧ (∀ k, k < i → V' (p.A k) = p.V (p.A k) + up k) ∧ ∀ x, (∀ k, k < i → p.A k ≠ x) → V' x = p.V x
section
variable {p : WdP} {F up V' : Nat → Int} {b i : Nat} {w0 w w' : World}
theorem WdOk.lv (h : WdOk p) (V' : Nat → Int) : WdOk (p.lv V') := ⟨h.n2, h.m2, h.mca, h.pl, h.inj, h.gga⟩
theorem Ws.setV (ok : WdOk p) (h : Ws p F b w0 w) (hi : i < p.m) (x : Int) : Ws (p.lv (upd p.V (p.A i) x)) F b w0 (w.setCell ⟨p.g, p.A i * 5 + 2, none⟩ (.int .i64 x)) := by
  obtain ⟨C', h1, h2, h3⟩ := h.wd.ch
  have hbg : b ≠ p.g := fun e => RowV.notblk h1 h.bx (by decide) (by rw [e]; rfl)
  refine ⟨⟨⟨C', h1.setV (ok.pl i hi) x, h2, h3⟩, fun k hk => ?_, ?_⟩, h.bx.other hbg _, h.sv.set (.inl rfl) _, h.low⟩
  · exact (World.cell?_of_block (w := w) (Below.heap_setCell _ _ _ _ (fun e => ok.gga e.symm))).trans (h.wd.pt k hk)
  · have := h.wd.gl; simpa [World.setCell, WdP.lv] using this
/-- a level more -/
theorem Wl.put (ok : WdOk p) (h : Ws (p.lv V') F b w0 w) (h1 : ∀ k, k < i → V' (p.A k) = p.V (p.A k) + up k) (h2 : ∀ x, (∀ k, k < i → p.A k ≠ x) → V' x = p.V x) (hi : i < p.m) (x : Int) (hx : x = p.V (p.A i) + up i) :
    Wl p F up b (i + 1) w0 (w.setCell ⟨p.g, p.A i * 5 + 2, none⟩ (.int .i64 x)) := by
  refine ⟨upd V' (p.A i) x, (h.setV (ok.lv V') hi x), fun k hk => ?_, fun y hy => ?_⟩
  · unfold upd
    by_cases e : k = i
    · subst e; rw [if_pos rfl, hx]
    · rw [if_neg (fun q => e (ok.inj k i (by omega) hi q)), h1 k (by omega)]
  · unfold upd
    rw [if_neg (fun e => hy i (by omega) e.symm)]
    exact h2 y (fun k hk => hy k (by omega))
theorem Wl.keep (ok : WdOk p) (h : Ws (p.lv V') F b w0 w) (h1 : ∀ k, k < i → V' (p.A k) = p.V (p.A k) + up k) (h2 : ∀ x, (∀ k, k < i → p.A k ≠ x) → V' x = p.V x) (hi : i < p.m) (hx : up i = 0) : Wl p F up b (i + 1) w0 w := by
  refine ⟨V', h, fun k hk => ?_, fun y hy => h2 y (fun k hk => hy k (by omega))⟩
  by_cases e : k = i
  · rw [e, hx, h2 (p.A i) (fun k hk q => by have := ok.inj k i (by omega) hi q; omega)]; omega
  · exact h1 k (by omega)
end
end Go.Law.Bd
namespace Go.Proofs.YtojbicdmcodgdaaDoor.BD
open Go.RowKit Go.Law Go.Law.Bd
set_option linter.unusedVariables false
set_option linter.unusedSimpArgs false
set_option maxRecDepth 100000
set_option maxHeartbeats 8000000 in
theorem rsLev {p : WdP} {F FA FB : Nat → Int} {w0 wb wS : World} {base bx b gA cA gB cB : Nat} (OK : Hid (WdOk p)) (HWS : Hid (Ws p F b w0 wS)) (hbase : base = wb.heap.size) (hbg : p.g < base) (HSD : Hid (SdR base bx (.slice (some ⟨gA, 0, none⟩) p.m cA) (.slice (some ⟨gB, 0, none⟩) p.m cB) p.m FA FB wb wS)) (hcA : p.m ≤ cA) (hcB : p.m ≤ cB) (hbx : base ≤ bx)
    (HV : Hid (∀ j, 0 ≤ p.V j ∧ p.V j ≤ 1000)) (hlv : 0 ≤ p.lev)
    {s0 s3 s4 s5 s6 s7 s8 s9 s10 s11 s12 s13 s14 s15 s16 s17 s18 s19 s20 s21 s22 s23 s24 s25 s26 s27 s28 s29 s30 s31 s32 s33 s34 s35 s36 s37 s38 s39 s40 s41 s42 s43 s44 s45 s46 s47 s48 s49 s50 s51 s52 s53 s54 s55 s56 s57 s58 s59 s60 s61 s62 s63 s64 s65 s66 s67 s68 s69 s70 s74 s75 s76 s77 s78 s79 s80 s81 s82 s83 s84 s85 s86 s87 s88 s89 s90 s91 s92 s93 s94 s95 s96 s97 s98 s99 s100 s101 s102 s103 s104 s105 s106 s107 s108 s109 s110 s111 s112 s113 s114 s115 s116 s117 s118 s119 s120 s121 s122 s123 s124 s125 s126 s127 s128 s129 s130 s131 s132 s133 s134 s135 s136 s137 s138 s139 s140 s141 s142 s143 s144 s145 s146 s147 : Value} {J K' : Act → World → Prop} {Q : Exit → Act → World → Prop}
    (hJ : ∀ (a' : Act) (w' : World), (∃ u8 u9 u10 u73 u74 u75 u76 u77 u78 u79 u80 u81 u82 u83 u84 u85 u86 u87 u88 u89 u90 u91 u92 u93 u94 u95 u96 u97 u98 u99 u100 u101 u102 u103 u104 u105 u106 u107 u108 u109 u110 u111 u112 u113 u114 u115 u116 u117 u118 u119 u120 u121 u122 u123 u124 u125 u126 u127 u128 u129 u130 u131 u132 u133 u134 u135 u136 u137 u138 u139 u140 u141 u142 u143 u144 u145 u146 u147 : Value, (Wl p F (fun k => impR p.lev (if ctB (F k) < 0 then (if FA k = FB k then FA k else sideB p.lev) else F k)) b p.m w0 w') ∧ a' = ⟨#[s0, .pointer (some ⟨b, 0, none⟩), .pointer (some ⟨bx, 0, none⟩), s3, s4, s5, s6, s7, u8, u9, u10, s11, s12, s13, s14, s15, s16, s17, s18, s19, s20, s21, s22, s23, s24, s25, s26, s27, s28, s29, s30, s31, s32, s33, s34, s35, s36, s37, s38, s39, s40, s41, s42, s43, s44, s45, s46, s47, s48, s49, s50, s51, s52, s53, s54, s55, s56, s57, s58, s59, s60, s61, s62, s63, s64, s65, s66, s67, s68, s69, s70, .slice (some ⟨p.ga, 0, none⟩) p.m p.ca, .int .i64 p.m, u73, u74, u75, u76, u77, u78, u79, u80, u81, u82, u83, u84, u85, u86, u87, u88, u89, u90, u91, u92, u93, u94, u95, u96, u97, u98, u99, u100, u101, u102, u103, u104, u105, u106, u107, u108, u109, u110, u111, u112, u113, u114, u115, u116, u117, u118, u119, u120, u121, u122, u123, u124, u125, u126, u127, u128, u129, u130, u131, u132, u133, u134, u135, u136, u137, u138, u139, u140, u141, u142, u143, u144, u145, u146, u147], []⟩) → J a' w')
    (hK : ∀ (a' : Act) (w' : World), Met J a' w' → K' a' w') :
    Code.wp Tryd.prog (theBlk Tryd.f30 6) (Exit.then K' Q) ⟨#[s0, .pointer (some ⟨b, 0, none⟩), .pointer (some ⟨bx, 0, none⟩), s3, s4, s5, s6, s7, s8, s9, s10, s11, s12, s13, s14, s15, s16, s17, s18, s19, s20, s21, s22, s23, s24, s25, s26, s27, s28, s29, s30, s31, s32, s33, s34, s35, s36, s37, s38, s39, s40, s41, s42, s43, s44, s45, s46, s47, s48, s49, s50, s51, s52, s53, s54, s55, s56, s57, s58, s59, s60, s61, s62, s63, s64, s65, s66, s67, s68, s69, s70, .slice (some ⟨p.ga, 0, none⟩) p.m p.ca, .int .i64 p.m, .int .i64 0, s74, s75, s76, s77, s78, s79, s80, s81, s82, s83, s84, s85, s86, s87, s88, s89, s90, s91, s92, s93, s94, s95, s96, s97, s98, s99, s100, s101, s102, s103, s104, s105, s106, s107, s108, s109, s110, s111, s112, s113, s114, s115, s116, s117, s118, s119, s120, s121, s122, s123, s124, s125, s126, s127, s128, s129, s130, s131, s132, s133, s134, s135, s136, s137, s138, s139, s140, s141, s142, s143, s144, s145, s146, s147], []⟩ wS := by
  have hm := OK.out.m2
  have hn := OK.out.n2
  have hmca := OK.out.mca
  obtain ⟨up, hup⟩ : ∃ up : Nat → Int, up = (fun k => impR p.lev (if ctB (F k) < 0 then (if FA k = FB k then FA k else sideB p.lev) else F k)) := ⟨_, rfl⟩
  rw [← hup] at hJ
  have HUP := Lib.hid hup
  clear hup
  conv => arg 2; whnf
  go_wp2_with fail
  go_loopw [73] (fun iv wr => ∃ i : Nat, iv = .int .i64 i ∧ i ≤ p.m ∧ Wl p F up b i w0 wr ∧ Save (fun k => k = p.g) wS wr) (fun iv _ => p.m - (intOf iv).toNat)
  case atStart => exact ⟨0, rfl, by omega, ⟨p.V, HWS.out, fun k hk => by omega, fun _ _ => rfl⟩, Save.refl _ _⟩
  case round =>
    obtain ⟨i, rfl, hi, hwl, hsv⟩ := hrel
    have HSV := Lib.hid hsv
    have HWL := Lib.hid hwl
    clear hsv hwl HWS
    by_cases hin : i < p.m
    case neg =>
      obtain rfl : i = p.m := by omega
      go_wp2_with fail
      go_meet
      exact HWL.out
    obtain ⟨V', hws, hv1, hv2⟩ := HWL.out
    have HWS := Lib.hid hws
    have HV1 := Lib.hid hv1
    have HV2 := Lib.hid hv2
    have hVi : V' (p.A i) = p.V (p.A i) := hv2 (p.A i) (fun k hk q => by have := OK.out.inj k i (by omega) hin q; omega)
    have hAi := OK.out.pl i hin
    have hAii : (p.A i : Int) < (p.n : Int) := by omega
    have a0 : wr.cell? ⟨p.ga, i, none⟩ = some (.int .i64 (p.A i : Nat)) := hws.wd.pt i hin
    obtain ⟨x0, x1, x2, x3, x4⟩ := hws.box
    have hbl := hws.bx.lt
    have HG := Lib.hid (wget_any (OK.out.lv V') hws.wd (i : Int))
    rw [gtW_at (p := p.lv V') hin] at HG
    unfold WdP.cs at HG
    have HVI := Lib.hid hVi
    clear hws hv1 hv2 HWL hVi
    obtain ⟨fi, hfi⟩ : ∃ x, x = F i := ⟨_, rfl⟩
    rw [← hfi] at HG
    have HFI := Lib.hid hfi
    clear hfi
    go_wp2_with fail
    refine HG.out.mono ?_
    rintro e2 w2 ⟨rfl, hb2⟩
    have HW2 := Lib.hid (HWS.out.below hb2)
    have HS2 := Lib.hid (HSV.out.trans (Save.of_below hb2 (Nat.le_refl _)))
    dsimp only
    clear hb2 HG x0 x1 x2 x3 x4 hbl HWS a0 HSV
    have HCT := Lib.hid (counts_any fi w2)
    obtain ⟨ct, hct⟩ : ∃ x, x = ctB fi := ⟨_, rfl⟩
    rw [← hct] at HCT
    have HCF := Lib.hid hct
    clear hct
    go_wp2_with fail
    refine HCT.out.mono ?_
    rintro e3 w3 ⟨rfl, rfl⟩
    dsimp only
    obtain ⟨bt, hbt⟩ : ∃ bt, decide (ct < 0) = bt := ⟨_, rfl⟩
    have HWX := Lib.hid HW2.out.box
    obtain ⟨cf, hcf⟩ : ∃ x, x = (if ct < 0 then (if FA i = FB i then FA i else sideB p.lev) else fi) := ⟨_, rfl⟩
    have HUI := Lib.hid (show up i = impR p.lev cf by rw [HUP.out, hcf, HCF.out, HFI.out])
    have HCFV := Lib.hid hcf
    clear hcf
    go_upto_if 83 with fail
    have HBT := Lib.hid hbt
    clear hbt
    go_cut [10] from 84 to 102 (fun v wx => v = .int .i64 cf ∧ Below w2.heap.size w2 wx)
    case first =>
      cases bt with
      | false =>
        have HO := Lib.hid (show cf = fi by rw [HCFV.out, if_neg (by have := HBT.out; simpa using this)])
        go_wp2_with fail
        go_meet
        exact ⟨by rw [HO.out], Below.refl _ _⟩
      | true =>
        have HO := Lib.hid (show cf = if FA i = FB i then FA i else sideB p.lev by rw [HCFV.out, if_pos (by have := HBT.out; simpa using this)])
        obtain ⟨x0, x1, x2, x3, x4⟩ := HWX.out
        have hbl := HW2.out.bx.lt
        obtain ⟨gA', cA', hvA, _, hgAl, _, _, _, hcA3⟩ := RowI.at HSD.out.ra (by omega)
        obtain ⟨gB', cB', hvB, _, hgBl, _, _, _, hcB3⟩ := RowI.at HSD.out.rb (by omega)
        cases hvA
        cases hvB
        have hgAb : base ≤ gA := HSD.out.ra.ge gA (by simp [Value.ownBlock])
        have hgBb : base ≤ gB := HSD.out.rb.ge gB (by simp [Value.ownBlock])
        have c0 : w2.cell? ⟨bx, 0, none⟩ = some (.slice (some ⟨gA, 0, none⟩) p.m cA) := (World.cell?_of_block (w := wS) (HS2.out.block bx HSD.out.bxb.lt (fun (e : bx = p.g) => by omega))).trans (HSD.out.bxb.cell (i := 0) rfl)
        have c1 : w2.cell? ⟨bx, 1, none⟩ = some (.slice (some ⟨gB, 0, none⟩) p.m cB) := (World.cell?_of_block (w := wS) (HS2.out.block bx HSD.out.bxb.lt (fun (e : bx = p.g) => by omega))).trans (HSD.out.bxb.cell (i := 1) rfl)
        have d0 : w2.cell? ⟨gA, i, none⟩ = some (.int .i64 (FA i)) := (World.cell?_of_block (w := wS) (HS2.out.block gA hgAl (fun (e : gA = p.g) => by omega))).trans (hcA3 i (by omega))
        have d1 : w2.cell? ⟨gB, i, none⟩ = some (.int .i64 (FB i)) := (World.cell?_of_block (w := wS) (HS2.out.block gB hgBl (fun (e : gB = p.g) => by omega))).trans (hcB3 i (by omega))
        obtain ⟨fa, hfa⟩ : ∃ x, x = FA i := ⟨_, rfl⟩
        obtain ⟨fb, hfb⟩ : ∃ x, x = FB i := ⟨_, rfl⟩
        rw [← hfa] at d0 HO
        rw [← hfb] at d1 HO
        have hii : (i : Int) < (p.m : Int) := by omega
        obtain ⟨ow, how⟩ : ∃ x, x = sideB p.lev := ⟨_, rfl⟩
        have HSO := Lib.hid (sideOf_any p.lev w2 hlv)
        rw [← how] at HSO HO
        have x2' : w2.cell? ⟨b, 2, none⟩ = some (.int .i64 p.lev) := x2
        clear hcA3 hcB3 hfa hfb how hgAb hgBb hgAl hgBl x0 x1 x2 x3 x4
        go_wp2_with fail
        refine HSO.out.mono ?_
        rintro e4 w4 ⟨rfl, rfl⟩
        dsimp only
        by_cases hab : fa = fb
        · have HO2 := Lib.hid (HO.out.trans (if_pos hab))
          have hab1 : (fa == fb) = true := by simp [hab]
          clear hab
          go_wp2_with fail
          go_quiet (fail)
          go_wp2_with fail
          go_meet
          exact ⟨by rw [HO2.out], below_drewN (Below.refl _ _) nq⟩
        · have HO2 := Lib.hid (HO.out.trans (if_neg hab))
          have hab1 : (fa == fb) = false := by simp [hab]
          clear hab
          go_wp2_with fail
          go_quiet (fail)
          go_wp2_with fail
          go_meet
          exact ⟨by rw [HO2.out], below_drewN (Below.refl _ _) nq⟩
    case rest =>
    obtain ⟨rfl, hb5⟩ := hcut
    obtain ⟨w5, rfl⟩ : ∃ x : World, x = wc := ⟨_, rfl⟩
    have HW5 := Lib.hid (HW2.out.below hb5)
    have HS5 := Lib.hid (HS2.out.trans (Save.of_below hb5 (Nat.le_refl _)))
    clear hb5 HW2 HS2 HWX HBT HCFV
    obtain ⟨x0, x1, x2, x3, x4⟩ := HW5.out.box
    have hbl := HW5.out.bx.lt
    have x2' : w5.cell? ⟨b, 2, none⟩ = some (.int .i64 p.lev) := x2
    have x0' : w5.cell? ⟨b, 0, none⟩ = some (.slice (some ⟨p.g, 0, none⟩) p.n p.cap) := x0
    obtain ⟨z, _, _, v2, _⟩ := HW5.out.wd.char (OK.out.lv V') hin
    have v2' : w5.cell? ⟨p.g, p.A i * 5 + 2, none⟩ = some (.int .i64 (p.V (p.A i))) := by rw [← HVI.out]; exact v2
    have z2 : w5.frozen? ⟨p.g, p.A i * 5 + 2, none⟩ = false := z _
    obtain ⟨vi, hvi⟩ : ∃ x, x = p.V (p.A i) := ⟨_, rfl⟩
    rw [← hvi] at v2'
    have hvr := HV.out (p.A i)
    rw [← hvi] at hvr
    have HVV := Lib.hid hvi
    have hbpg : b ≠ p.g := fun e => by
      obtain ⟨C', h1, _⟩ := HW5.out.wd.ch
      exact RowV.notblk h1 HW5.out.bx (by decide) (by rw [e]; rfl)
    clear x0 x1 x2 x3 x4 z v2 hvi
    have hwa := IntWalk.i64_in (vi + 1) (by omega)
    have hwb := IntWalk.i64_in (vi + 2) (by omega)
    have htm : p.lev.tmod 2 = p.lev % 2 := Int.tmod_eq_emod_of_nonneg hlv
    obtain ⟨r, hr⟩ : ∃ r, p.lev % 2 = r := ⟨_, rfl⟩
    have hr01 : r = 0 ∨ r = 1 := by omega
    have HR := Lib.hid hr
    have HKEEP := Lib.hid (fun (hx : up i = 0) => Wl.keep (up := up) OK.out HW5.out HV1.out HV2.out hin hx)
    have HPUT1 := Lib.hid (fun (hx : up i = 1) => Wl.put (up := up) OK.out HW5.out HV1.out HV2.out hin (vi + 1) (by rw [hx, HVV.out]))
    have HPUT2 := Lib.hid (fun (hx : up i = 2) => Wl.put (up := up) OK.out HW5.out HV1.out HV2.out hin (vi + 2) (by rw [hx, HVV.out]))
    have HSP := Lib.hid (fun (y : Int) => HS5.out.set (p := ⟨p.g, p.A i * 5 + 2, none⟩) (.inl rfl) (.int .i64 y))
    unfold impR at HUI
    rw [hr] at HUI
    rcases hr01 with rfl | rfl
    · by_cases h1 : cf = 1
      · have hc1 : (cf == 1) = true := by simp [h1]
        have HN := Lib.hid (HUI.out.trans (if_pos (.inl ⟨rfl, h1⟩)))
        clear h1
        go_wp2_with fail
        go_roundw
        case rel => exact ⟨i + 1, by go_num, by omega, HPUT1.out HN.out, HSP.out _⟩
        case measure => simp [intOf]; omega
      · have hc1 : (cf == 1) = false := by simp [h1]
        by_cases h0 : cf = 0
        · have hc0 : (cf == 0) = true := by simp [h0]
          have HN := Lib.hid (show up i = 0 by rw [HUI.out, if_neg (by omega), if_neg (by omega)])
          clear h1 h0
          go_wp2_with fail
          go_roundw
          case rel => exact ⟨i + 1, by go_num, by omega, HKEEP.out HN.out, HS5.out⟩
          case measure => simp [intOf]; omega
        · have hc0 : (cf == 0) = false := by simp [h0]
          have HN := Lib.hid (show up i = 2 by rw [HUI.out, if_neg (by omega), if_pos ⟨rfl, h0⟩])
          clear h1 h0
          go_wp2_with fail
          go_roundw
          case rel => exact ⟨i + 1, by go_num, by omega, HPUT2.out HN.out, HSP.out _⟩
          case measure => simp [intOf]; omega
    · by_cases h1 : cf = 1
      · have hc1 : (cf == 1) = true := by simp [h1]
        have HN := Lib.hid (show up i = 0 by rw [HUI.out, if_neg (by omega), if_neg (by omega)])
        clear h1
        go_wp2_with fail
        go_roundw
        case rel => exact ⟨i + 1, by go_num, by omega, HKEEP.out HN.out, HS5.out⟩
        case measure => simp [intOf]; omega
      · have hc1 : (cf == 1) = false := by simp [h1]
        have HN := Lib.hid (HUI.out.trans (if_pos (.inr ⟨rfl, h1⟩)))
        clear h1
        go_wp2_with fail
        go_roundw
        case rel => exact ⟨i + 1, by go_num, by omega, HPUT1.out HN.out, HSP.out _⟩
        case measure => simp [intOf]; omega
set_option maxHeartbeats 8000000 in
theorem rest_any {p : WdP} {F : Nat → Int} {w : World} (ok : WdOk p) (h : Wd p F w) (hm0 : 0 < p.m) (hV : ∀ j, 0 ≤ p.V j ∧ p.V j ≤ 1000) (hlv : 0 ≤ p.lev) :
    Calls Tryd.prog 30 #[.agg p.cs] w fun e w' => e = .returned (.tuple #[]) ∧ Save (fun j => j = p.g) w w' ∧ ∃ V', Wd (p.lv V') F w' ∧
      (∀ k, k < p.m → V' (p.A k) = p.V (p.A k) + impR p.lev (wNE F p.m p.bef p.aft (sideB p.lev) k)) ∧ ∀ x, (∀ k, k < p.m → p.A k ≠ x) → V' x = p.V x := by
  have OK := Lib.hid ok
  have HV := Lib.hid hV
  obtain ⟨wb, hwb⟩ : ∃ w1, w1 = w.alloc (Obj.cells p.cs 57) := ⟨_, rfl⟩
  have HW := Lib.hid (show Ws p F w.heap.size w wb by
    rw [hwb]
    exact ⟨h.alloc _, Blk.new _ _ _, (Save.refl _ w).alloc _, Nat.le_refl _⟩)
  have hm := ok.m2
  have hn := ok.n2
  have hmca := ok.mca
  unfold WdP.cs at hwb ⊢
  clear h ok hV
  go_enter Tryd.func30, Tryd.ntmps30
  go_upto_region 1 with fail
  rw [← hwb]
  obtain ⟨b, hb⟩ : ∃ b, b = w.heap.size := ⟨_, rfl⟩
  rw [← hb]
  rw [← hb] at HW
  clear hwb hb
  obtain ⟨wA, hwA⟩ : ∃ x, x = wb.alloc (Obj.cells #[.slice none 0 0, .slice none 0 0] 78) := ⟨_, rfl⟩
  obtain ⟨bx, hbx⟩ : ∃ x, x = wb.heap.size := ⟨_, rfl⟩
  have HBX := Lib.hid (show Blk wA bx #[.slice none 0 0, .slice none 0 0] 78 by rw [hwA, hbx]; exact Blk.new _ _ _)
  have HBA := Lib.hid (show Below bx wb wA by rw [hwA, hbx]; exact (Below.refl _ _).alloc (Nat.le_refl _) _)
  have HBXE := Lib.hid hbx
  have HA := Lib.hid (show Ws p F b w wA by rw [hwA]; exact HW.out.alloc _)
  obtain ⟨x0, x1, x2, x3, x4⟩ := HA.out.box
  have hbl := HA.out.bx.lt
  have hgb : p.g < bx := by rw [hbx]; exact HW.out.wd.lt
  have hxs : bx ≤ wA.heap.size := by have := HBA.out.size; omega
  go_upto_region 2 with fail
  rw [← hwA, ← hbx]
  clear hwA hbx
  go_upto_block 0 with fail
  go_cut [14] from 15 to 26 (fun _ wx => ∃ A B, SdR bx bx A B p.m (fun _ => 0) (fun _ => 0) wA wx)
  case first => exact rsZero HBX (Nat.le_refl _) hxs (by omega) (Lib.hid fun _ _ _ _ hd h => ⟨hd.symm.trans h.1, h.2⟩) (by assumption) (by assumption)
  case rest =>
  obtain ⟨A, B, hsd⟩ := hcut
  obtain ⟨wc1, rfl⟩ : ∃ x : World, x = wc := ⟨_, rfl⟩
  obtain ⟨gA, cA, hA, _, _, hcA, _, _, _⟩ := RowI.at hsd.ra hm0
  obtain ⟨gB, cB, hB, _, _, hcB, _, _, _⟩ := RowI.at hsd.rb hm0
  subst hA
  subst hB
  have HSD := Lib.hid (show SdR bx bx (.slice (some ⟨gA, 0, none⟩) p.m cA) (.slice (some ⟨gB, 0, none⟩) p.m cB) p.m (fun _ => 0) (fun _ => 0) wb wc1 from ⟨hsd.bxb, hsd.ra, hsd.rb, hsd.dif, HBA.out.trans hsd.bel⟩)
  clear hsd x0 x1 x2 x3 x4 hbl HA HBX
  have HA := Lib.hid (HW.out.below (HBXE.out ▸ HSD.out.bel))
  obtain ⟨x0, x1, x2, x3, x4⟩ := HA.out.box
  have hbl := HA.out.bx.lt
  go_upto_block 2 with fail
  go_cut [3, 4, 5] from 32 to 47 (fun _ _ _ wx => SdR bx bx (.slice (some ⟨gA, 0, none⟩) p.m cA) (.slice (some ⟨gB, 0, none⟩) p.m cB) p.m (sdL F p.bef) (fun _ => 0) wb wx)
  case first => exact rsLeft OK HW HBXE.out HSD hcA (by assumption) (by assumption)
  case rest =>
  obtain ⟨wc2, rfl⟩ : ∃ x : World, x = wc := ⟨_, rfl⟩
  clear x0 x1 x2 x3 x4 hbl HA HSD
  have HSD := Lib.hid hcut
  clear hcut
  have HA := Lib.hid (HW.out.below (HBXE.out ▸ HSD.out.bel))
  obtain ⟨x0, x1, x2, x3, x4⟩ := HA.out.box
  have hbl := HA.out.bx.lt
  have hwm := IntWalk.i64_in ((p.m : Int) - 1) (by omega)
  go_upto_block 4 with fail
  go_cut [3, 6, 7] from 54 to 69 (fun _ _ _ wx => SdR bx bx (.slice (some ⟨gA, 0, none⟩) p.m cA) (.slice (some ⟨gB, 0, none⟩) p.m cB) p.m (sdL F p.bef) (fun k => sdR F p.m p.aft (k + 1)) wb wx)
  case first => exact rsRight OK HW HBXE.out HSD hcB hm0 (by assumption) (by assumption)
  case rest =>
  obtain ⟨wc3, rfl⟩ : ∃ x : World, x = wc := ⟨_, rfl⟩
  clear x0 x1 x2 x3 x4 hbl HA HSD
  have HSD := Lib.hid hcut
  clear hcut
  have HA := Lib.hid (HW.out.below (HBXE.out ▸ HSD.out.bel))
  obtain ⟨x0, x1, x2, x3, x4⟩ := HA.out.box
  have hbl := HA.out.bx.lt
  go_upto_block 6 with fail
  refine wp_open (fun K0 hK0 => ?_)
  go_cut [8, 9, 10] from 73 to 147 (fun _ _ _ wx => Wl p F (fun k => impR p.lev (if ctB (F k) < 0 then (if sdL F p.bef k = sdR F p.m p.aft (k + 1) then sdL F p.bef k else sideB p.lev) else F k)) b p.m w wx)
  case first => exact rsLev OK HA HBXE.out hgb HSD hcA hcB (Nat.le_refl _) HV hlv (by assumption) (by assumption)
  case rest =>
  obtain ⟨V', hws, h1, h2⟩ := hcut
  refine hK0 _ _ ?_
  clear hK0 K0
  try simp only [Exit.inBlock, Exit.then]
  first | go_end0 | (simp only [Exit.inBlock, Exit.then]; refine bodyPost_ret (results_none rfl _ _ _) rfl ?_) | refine bodyPost_ret (results_none rfl _ _ _) rfl ?_
  exact ⟨rfl, hws.sv, V', hws.wd, h1, h2⟩
set_option maxHeartbeats 16000000 in
theorem rfSeqs {lo g cap n bc rc wc0 : Nat} {K CE L T : Nat → Int} {O : Nat → Bool} {base : Int} {w wC wW : World} {S : List (List Nat)} {I : Nat → Value} {ra wa : Option Addr}
    (HC : Hid (Ch wW lo (.slice (some ⟨g, 0, none⟩) n cap) n K CE L O T)) (HNS : Hid (NsI wC bc (.slice ra S.length rc) S I)) (HBC : Hid (Below wC.heap.size wC wW)) (HOK : Hid (HdOk S)) (hgb : g < bc) (hbc : bc ≤ wC.heap.size)
    (HRV : Hid (RowV wW wC.heap.size 57 5 (.slice wa S.length wc0) S.length (wdV (.slice (some ⟨g, 0, none⟩) n cap) I O L K base n S)))
    (HSD : Hid (S.Pairwise fun a b => ∀ x, x ∈ a → x ∉ b)) (HSM : Hid (∀ s, s ∈ S → s ≠ [] ∧ s.Pairwise (· < ·) ∧ ∀ x, x ∈ s → x < n ∧ O x = false)) (hn2 : n ≤ 200) (hSl : S.length ≤ 1000) (hbase : base = 0 ∨ base = 1) (HLR : Hid (∀ x, 0 ≤ L x ∧ L x ≤ 125)) (HCP : Hid (∀ x, O x = false → partB (CE x)))
    (HTB : Hid (TabC w 0 2 coupleT)) (HBW : Hid (Below w.heap.size w wW)) (hwg : w.heap.size ≤ g)
    {s0 s2 s3 s4 s6 s7 s8 s10 s11 s12 s13 s14 s15 s16 s17 s18 s19 s20 s21 s22 s23 s24 s25 s26 s27 s28 s29 s30 s31 s32 s33 s34 s35 s36 s37 s38 s39 s40 s41 s42 s43 s44 s45 s46 s47 s48 s49 s50 s51 s52 s53 s54 s55 s56 s57 s58 s59 s60 s61 s62 s63 s64 s65 s66 s67 s68 s72 s73 s74 s75 s76 s77 s78 s79 s80 s81 s82 s83 s84 s85 s86 s87 s88 s89 s90 s91 s92 s93 s94 s95 s96 s97 s98 s99 s100 s101 s102 s103 s104 s105 s106 s107 s108 s109 s110 s111 s112 s113 s114 s115 s116 s117 s118 s119 s120 s121 s122 s123 s124 s125 s126 s127 s128 s129 s130 s131 s132 s133 s134 s135 s136 s137 s138 s139 s140 s141 s142 s143 s144 s145 s146 s147 s148 s149 s150 s151 s152 s153 s154 s155 s156 s157 s158 s159 s160 s161 s162 s163 s164 s165 s166 s167 s168 s169 s170 s171 s172 s173 s174 s175 s176 s177 s178 : Value} {J K' : Act → World → Prop} {Q : Exit → Act → World → Prop}
    (hJ : ∀ (a' : Act) (w' : World), (∃ u14 u71 u72 u73 u74 u75 u76 u77 u78 u79 u80 u81 u82 u83 u84 u85 u86 u87 u88 u89 : Value, ((∃ C', Ch w' lo (.slice (some ⟨g, 0, none⟩) n cap) n K C' (seqLv O L CE T K base n S) O T) ∧ Save (fun k => k = g) wW w') ∧ a' = ⟨#[s0, .int .i64 base, s2, s3, s4, .slice (some ⟨g, 0, none⟩) n cap, s6, s7, s8, .slice wa S.length wc0, s10, s11, s12, s13, u14, s15, s16, s17, s18, s19, s20, s21, s22, s23, s24, s25, s26, s27, s28, s29, s30, s31, s32, s33, s34, s35, s36, s37, s38, s39, s40, s41, s42, s43, s44, s45, s46, s47, s48, s49, s50, s51, s52, s53, s54, s55, s56, s57, s58, s59, s60, s61, s62, s63, s64, s65, s66, s67, s68, .slice wa S.length wc0, .int .i64 S.length, u71, u72, u73, u74, u75, u76, u77, u78, u79, u80, u81, u82, u83, u84, u85, u86, u87, u88, u89, s90, s91, s92, s93, s94, s95, s96, s97, s98, s99, s100, s101, s102, s103, s104, s105, s106, s107, s108, s109, s110, s111, s112, s113, s114, s115, s116, s117, s118, s119, s120, s121, s122, s123, s124, s125, s126, s127, s128, s129, s130, s131, s132, s133, s134, s135, s136, s137, s138, s139, s140, s141, s142, s143, s144, s145, s146, s147, s148, s149, s150, s151, s152, s153, s154, s155, s156, s157, s158, s159, s160, s161, s162, s163, s164, s165, s166, s167, s168, s169, s170, s171, s172, s173, s174, s175, s176, s177, s178], []⟩) → J a' w')
    (hK : ∀ (a' : Act) (w' : World), Met J a' w' → K' a' w') :
    Code.wp Tryd.prog (theBlk Tryd.f11 4) (Exit.then K' Q) ⟨#[s0, .int .i64 base, s2, s3, s4, .slice (some ⟨g, 0, none⟩) n cap, s6, s7, s8, .slice wa S.length wc0, s10, s11, s12, s13, s14, s15, s16, s17, s18, s19, s20, s21, s22, s23, s24, s25, s26, s27, s28, s29, s30, s31, s32, s33, s34, s35, s36, s37, s38, s39, s40, s41, s42, s43, s44, s45, s46, s47, s48, s49, s50, s51, s52, s53, s54, s55, s56, s57, s58, s59, s60, s61, s62, s63, s64, s65, s66, s67, s68, .slice wa S.length wc0, .int .i64 S.length, .int .i64 0, s72, s73, s74, s75, s76, s77, s78, s79, s80, s81, s82, s83, s84, s85, s86, s87, s88, s89, s90, s91, s92, s93, s94, s95, s96, s97, s98, s99, s100, s101, s102, s103, s104, s105, s106, s107, s108, s109, s110, s111, s112, s113, s114, s115, s116, s117, s118, s119, s120, s121, s122, s123, s124, s125, s126, s127, s128, s129, s130, s131, s132, s133, s134, s135, s136, s137, s138, s139, s140, s141, s142, s143, s144, s145, s146, s147, s148, s149, s150, s151, s152, s153, s154, s155, s156, s157, s158, s159, s160, s161, s162, s163, s164, s165, s166, s167, s168, s169, s170, s171, s172, s173, s174, s175, s176, s177, s178], []⟩ wW := by
  conv => arg 2; whnf
  go_wp2_with fail
  go_loopw [71] (fun iv wr => ∃ (t : Nat) (C : Nat → Int), iv = .int .i64 t ∧ t ≤ S.length ∧ Ch wr lo (.slice (some ⟨g, 0, none⟩) n cap) n K C (seqLv O L CE T K base n (S.take t)) O T ∧ (∀ x, (∀ i, i < t → x ∉ rnG S i) → C x = CE x) ∧ Save (fun k => k = g) wW wr) (fun iv _ => S.length - (intOf iv).toNat)
  case atStart => exact ⟨0, CE, rfl, by omega, HC.out.congr (fun _ _ => rfl) (fun i _ => by rw [List.take_zero]; unfold seqLv; rfl) (fun _ _ => rfl), fun x _ => rfl, Save.refl _ _⟩
  case round =>
    obtain ⟨t, C, rfl, ht, hch, hcx, hsv⟩ := hrel
    clear HC
    have HCH := Lib.hid hch
    have HCX := Lib.hid hcx
    have HSV := Lib.hid hsv
    by_cases htS : t < S.length
    case neg =>
      obtain rfl : t = S.length := by omega
      clear hch hcx hsv
      go_wp2_with fail
      go_meet
      exact ⟨⟨C, by have := HCH.out; rw [List.take_length] at this; exact this⟩, HSV.out⟩
    obtain ⟨gr, gk, ck, hra, hgrb, _, hIt, m1w, hck1, hck2, hgk, hl0, hgne, hm2⟩ := HNS.out.row HOK.out htS
    obtain ⟨hne, hpw, hpl⟩ := HSM.out _ (rnG_mem htS)
    have hgkb : bc ≤ gk := (HNS.out.inn t htS).ge gk (by rw [hIt]; simp [Value.ownBlock])
    obtain ⟨s, hs⟩ : ∃ s, s = rnG S t := ⟨_, rfl⟩
    rw [← hs] at hIt m1w hck1 hl0 hm2 hne hpw hpl
    have hnd : s.Nodup := hpw.imp (fun h => by omega)
    have hA : ∀ k, k < s.length → s.getD k 0 ∈ s := fun k hk => by rw [List.getD_eq_getElem?_getD, List.getElem?_eq_getElem hk]; exact List.getElem_mem hk
    have hslen : s.length ≤ n := sorted_len2 hpw fun x hx => (hpl x hx).1
    have hgkW : gk < wW.heap.size := Nat.lt_of_lt_of_le hgk HBC.out.size
    obtain ⟨p, hp⟩ : ∃ p : WdP, p = { lo := lo, g := g, cap := cap, n := n, ga := gk, m := s.length, ca := ck, lev := L (s.getD 0 0), bef := befB O L base (L (s.getD 0 0)) (s.getD 0 0), aft := aftB O L K base (L (s.getD 0 0)) n (s.getLastD 0), K := K, C := C, V := seqLv O L CE T K base n (S.take t), O := O, T := T, A := fun k => s.getD k 0 } := ⟨_, rfl⟩
    have hok : WdOk p := by
      rw [hp]
      refine ⟨hn2, hslen, hck1, fun k hk => (hpl _ (hA k hk)).1, fun a b ha hb e => ?_, fun e => ?_⟩
      · simp only at ha hb e
        rw [List.getD_eq_getElem?_getD, List.getElem?_eq_getElem ha, List.getD_eq_getElem?_getD, List.getElem?_eq_getElem hb] at e
        have hpp := List.pairwise_iff_getElem.1 hpw
        simp only [Option.getD_some] at e
        rcases Nat.lt_trichotomy a b with h | h | h
        · have := hpp a b ha hb h; omega
        · exact h
        · have := hpp b a hb ha h; omega
      · have e2 : g = gk := e
        omega
    have hV0 : ∀ k, k < s.length → C (s.getD k 0) = CE (s.getD k 0) := fun k hk => hcx _ fun i hi h => by
      have h1 := take_not HSD.out htS (x := s.getD k 0) (by show s.getD k 0 ∈ rnG S t; rw [← hs]; exact hA k hk)
      exact h1 (S.getD i []) (by
        rw [List.getD_eq_getElem?_getD, List.getElem?_eq_getElem (by omega)]
        exact List.mem_iff_getElem.2 ⟨i, by rw [List.length_take]; omega, by rw [List.getElem_take]; rfl⟩) h
    have hgkr : ∀ k, k < s.length → wr.cell? ⟨gk, k, none⟩ = some (.int .i64 (s.getD k 0 : Nat)) := fun k hk =>
      (World.cell?_of_block (w := wW) (hsv.block gk hgkW (fun (e : gk = g) => by omega))).trans (bel_cell3 HBC.out (hm2 k hk))
    have hwd : Wd p (fun k => CE (s.getD k 0)) wr := by
      rw [hp]
      exact ⟨⟨C, hch, hV0, fun _ _ => rfl⟩, hgkr, Nat.lt_of_lt_of_le hgkW hsv.size⟩
    have hpe : p.m = s.length ∧ p.lev = L (s.getD 0 0) ∧ p.g = g ∧ p.n = n ∧ p.cap = cap ∧ p.ga = gk ∧ p.ca = ck := by rw [hp]; exact ⟨rfl, rfl, rfl, rfl, rfl, rfl, rfl⟩
    have hpA : p.A = fun k => s.getD k 0 := by rw [hp]
    have hpK : p.K = K := by rw [hp]
    have hpT : p.T = T := by rw [hp]
    have hpV : p.V = seqLv O L CE T K base n (S.take t) := by rw [hp]
    have hpC : p.C = C := by rw [hp]
    have hpO : p.O = O ∧ p.lo = lo := by rw [hp]; exact ⟨rfl, rfl⟩
    have hpb : p.bef = 0 ∨ p.bef = 1 := by rw [hp]; exact sideB_range _
    have hpa : p.aft = 0 ∨ p.aft = 1 := by rw [hp]; exact sideB_range _
    have hplv : 0 ≤ p.lev := by rw [hpe.2.1]; exact (HLR.out _).1
    obtain ⟨V1, hV1⟩ : ∃ V1, V1 = wWK (fun k => CE (s.getD k 0)) (fun k => K (s.getD k 0)) s.length p.bef := ⟨_, rfl⟩
    obtain ⟨V2, hV2⟩ : ∃ V2, V2 = wBK (fun k => T (s.getD k 0)) (fun k => K (s.getD k 0)) p.bef (sideB p.lev) s.length V1 := ⟨_, rfl⟩
    have hleft2 : ∀ j, j < s.length → leftB (V2 j) := by
      rw [hV2]
      exact wBK_left hpb (sideB_range _) fun j hj => by rw [hV1]; exact wk_left hpb (fun k hk => HCP.out _ (hpl _ (hA k hk)).2) hj
    have HUP := Lib.hid (show ∀ k, k < s.length → impR p.lev (wNE V2 s.length p.bef p.aft (sideB p.lev) k) = seqUp O L CE T K base n s k from fun k hk => by
      rw [← imp_eq (wNE_left hpb (sideB_range _) (hleft2 k hk)), hV2, hV1, hp]; rfl)
    have HWCELL := Lib.hid (show ∀ wx, Save (fun k => k = g) wW wx → ∃ gw, wa = some ⟨gw, 0, none⟩ ∧ wx.cell? ⟨gw, t * 5, none⟩ = some (.slice (some ⟨g, 0, none⟩) n cap) ∧ wx.cell? ⟨gw, t * 5 + 1, none⟩ = some (.slice (some ⟨gk, 0, none⟩) s.length ck) ∧ wx.cell? ⟨gw, t * 5 + 2, none⟩ = some (.int .i64 p.lev) ∧ wx.cell? ⟨gw, t * 5 + 3, none⟩ = some (.int .i64 p.bef) ∧ wx.cell? ⟨gw, t * 5 + 4, none⟩ = some (.int .i64 p.aft) from fun wx hx => by
      obtain ⟨gw, cw, hv, hgwb, hgwl, _, _, _, hcc⟩ := RowV.at HRV.out (by omega)
      cases hv
      have hblk : wx.heap[gw]? = wW.heap[gw]? := hx.block gw hgwl (fun (e : gw = g) => by omega)
      have q0 := (World.cell?_of_block (w := wW) hblk).trans (hcc t htS 0 (by omega))
      have q1 := (World.cell?_of_block (w := wW) hblk).trans (hcc t htS 1 (by omega))
      have q2 := (World.cell?_of_block (w := wW) hblk).trans (hcc t htS 2 (by omega))
      have q3 := (World.cell?_of_block (w := wW) hblk).trans (hcc t htS 3 (by omega))
      have q4 := (World.cell?_of_block (w := wW) hblk).trans (hcc t htS 4 (by omega))
      unfold wdV at q0 q1 q2 q3 q4
      rw [← hs] at q2 q3 q4
      rw [hIt] at q1
      refine ⟨gw, rfl, q0, q1, ?_, ?_, ?_⟩
      · rw [hp]; exact q2
      · rw [hp]; exact q3
      · rw [hp]; exact q4)
    have HOKP := Lib.hid hok
    have HN := Lib.hid (numbers_any hok hwd (by rw [hpe.1]; exact hl0) hpb)
    rw [hpA, hpK, hpe.1, ← hV1] at HN
    have htSi : (t : Int) < (S.length : Int) := by omega
    have HPE := Lib.hid hpe
    have HPA := Lib.hid hpA
    have HPK := Lib.hid hpK
    have HPT := Lib.hid hpT
    have HPV := Lib.hid hpV
    have HPC := Lib.hid hpC
    have HPO := Lib.hid hpO
    have HPB := Lib.hid hpb
    have HV2 := Lib.hid hV2
    have HSS := Lib.hid hs
    have HND := Lib.hid hnd
    have HAA := Lib.hid hA
    have HL0 := Lib.hid hl0
    have hcse : p.cs = #[.slice (some ⟨g, 0, none⟩) n cap, .slice (some ⟨gk, 0, none⟩) s.length ck, .int .i64 p.lev, .int .i64 p.bef, .int .i64 p.aft] := by
      unfold WdP.cs; rw [hpe.1, hpe.2.2.1, hpe.2.2.2.1, hpe.2.2.2.2.1, hpe.2.2.2.2.2.1, hpe.2.2.2.2.2.2]
    rw [hcse] at HN
    have HCSE := Lib.hid hcse
    obtain ⟨gw, hwa, y0, y1, y2, y3, y4⟩ := HWCELL.out wr hsv
    subst hwa
    obtain ⟨len, hlen⟩ : ∃ l, l = s.length := ⟨_, rfl⟩
    rw [← hlen] at y1 HN HWCELL HCSE
    have HLEN := Lib.hid hlen
    clear hch hcx hsv hra hgrb hIt m1w hck1 hck2 hgk hl0 hgne hm2 hne hpw hpl hgkb hs hnd hA hgkW hp hok hV0 hgkr hwd hpe hpA hpK hpT hpV hpC hpO hpb hpa hV1 hV2 hleft2 hcse hlen hslen
    go_wp2_with fail
    refine HN.out.mono ?_
    rintro e1 w1 ⟨rfl, hd1, hs1⟩
    have hsg : Save (fun k => k = g) wr w1 := hs1.mono fun k hk => by rw [← HPE.out.2.2.1]; exact hk
    have HS1 := Lib.hid (HSV.out.trans hsg)
    have hb1 : Below w.heap.size w w1 := HBW.out.trans (HS1.out.below HBW.out.size (by rintro k rfl; exact hwg))
    have HP := Lib.hid (pairs_any (T := fun k => T (s.getD k 0)) HOKP.out hd1 HPB.out hplv (HTB.out.below (Nat.le_refl _) hb1) (fun k => by rw [HPT.out, HPA.out]))
    rw [HPA.out, HPK.out, HPE.out.1, ← HV2.out, HCSE.out] at HP
    clear hd1 hs1 hsg hb1 HN y0 y1 y2 y3 y4
    obtain ⟨gw', hwa, y0, y1, y2, y3, y4⟩ := HWCELL.out w1 HS1.out
    cases hwa
    dsimp only
    go_wp2_with fail
    refine HP.out.mono ?_
    rintro e2 w2 ⟨rfl, hd2, hs2⟩
    have hsg : Save (fun k => k = g) w1 w2 := hs2.mono fun k hk => by rw [← HPE.out.2.2.1]; exact hk
    have HS2 := Lib.hid (HS1.out.trans hsg)
    have HR := Lib.hid (rest_any HOKP.out hd2 (by rw [HPE.out.1]; exact HL0.out) (fun j => by rw [HPV.out]; have := seqLv_range (O := O) (V := CE) (T := T) (K := K) (base := base) (n := n) HLR.out (S.take t) j; omega) hplv)
    rw [HCSE.out] at HR
    clear hd2 hs2 hsg HP y0 y1 y2 y3 y4
    obtain ⟨gw', hwa, y0, y1, y2, y3, y4⟩ := HWCELL.out w2 HS2.out
    cases hwa
    dsimp only
    go_wp2_with fail
    refine HR.out.mono ?_
    rintro e3 w3 ⟨rfl, hs3, V', hd3, hv1, hv2⟩
    have hsg : Save (fun k => k = g) w2 w3 := hs3.mono fun k hk => by rw [← HPE.out.2.2.1]; exact hk
    have HS3 := Lib.hid (HS2.out.trans hsg)
    have HFIN := Lib.hid (show ∃ C', Ch w3 lo (.slice (some ⟨g, 0, none⟩) n cap) n K C' (seqLv O L CE T K base n (S.take (t + 1))) O T ∧ ∀ x, (∀ i, i < t + 1 → x ∉ rnG S i) → C' x = CE x by
      obtain ⟨C', hc1, hc2, hc3⟩ := hd3.ch
      have hpe := HPE.out
      have hc1' : Ch w3 lo (.slice (some ⟨g, 0, none⟩) n cap) n K C' V' O T := by
        have h1 := hc1
        unfold WdP.lv at h1
        simp only at h1
        rw [hpe.2.2.1, hpe.2.2.2.1, hpe.2.2.2.2.1, HPK.out, HPO.out.1, HPO.out.2, HPT.out] at h1
        exact h1
      have hsx : ∀ x, x ∉ rnG S t → ∀ k, k < s.length → s.getD k 0 ≠ x := fun x hx k hk e => hx (by rw [← HSS.out, ← e]; exact HAA.out k hk)
      refine ⟨C', hc1'.congr (fun _ _ => rfl) (fun x _ => ?_) (fun _ _ => rfl), fun x hx => ?_⟩
      · by_cases hx : x ∈ rnG S t
        · obtain ⟨k, hk, hkx⟩ := List.mem_iff_getElem.1 hx
          have e : s.getD k 0 = x := by rw [HSS.out, List.getD_eq_getElem?_getD, List.getElem?_eq_getElem hk]; exact hkx
          have hk2 : k < s.length := by rw [HSS.out]; exact hk
          have h5 := hv1 k (by rw [hpe.1]; exact hk2)
          rw [HPA.out, HPV.out, hpe.1] at h5
          simp only at h5
          rw [HUP.out k hk2, e] at h5
          rw [h5]
          have h6 := seqLv_in (O := O) (L := L) (V := CE) (T := T) (K := K) (base := base) (n := n) HSD.out htS (k := k) (by show (rnG S t).Nodup; rw [← HSS.out]; exact HND.out) hk
          have e3 : S.getD t [] = s := HSS.out.symm
          rw [e3, e] at h6
          exact h6.symm
        · have h7 := hv2 x (by rw [HPA.out, hpe.1]; exact fun k hk => hsx x hx k hk)
          rw [h7, HPV.out]
          exact (seqLv_ex htS hx).symm
      · have h8 := hc3 x (by show ∀ k, k < p.m → p.A k ≠ x; rw [HPA.out, hpe.1]; exact fun k hk => hsx x (hx t (by omega)) k hk)
        rw [h8]
        show p.C x = CE x
        rw [HPC.out]
        exact HCX.out x fun i hi => hx i (by omega))
    clear hd3 hs3 hv1 hv2 hsg HR y0 y1 y2 y3 y4
    obtain ⟨C3, hc3, hx3⟩ := HFIN.out
    have HC3 := Lib.hid hc3
    have HX3 := Lib.hid hx3
    clear hc3 hx3 HFIN
    dsimp only
    go_wp2_with fail
    go_roundw
    case rel => exact ⟨t + 1, C3, by go_num, by omega, HC3.out, HX3.out, HS3.out⟩
    case measure => simp [intOf]; omega
set_option maxHeartbeats 8000000 in
theorem wp_open3 {P : Program} {c : Code} {Q : Exit → Act → World → Prop} {a : Act} {w : World} (h : ∀ K : Act → World → Prop, (∀ a w, Q .normal a w → K a w) → Code.wp P c (Exit.then K Q) a w) : Code.wp P c Q a w := by
  have h1 := h (fun a w => Q .normal a w) (fun _ _ h => h)
  have e : Exit.then (fun a w => Q .normal a w) Q = Q := by
    funext x a w
    cases x <;> rfl
  rw [e] at h1
  exact h1
theorem rfBlank {lo g cap n : Nat} {K C V T : Nat → Int} {O : Nat → Bool} {base : Int} {wS : World} (HC : Hid (Ch wS lo (.slice (some ⟨g, 0, none⟩) n cap) n K C V O T)) (hn2 : n ≤ 200)
    {s0 s2 s3 s4 s6 s7 s8 s9 s10 s11 s12 s13 s14 s15 s17 s18 s19 s20 s21 s22 s23 s24 s25 s26 s27 s28 s29 s30 s31 s32 s33 s34 s35 s36 s37 s38 s39 s40 s41 s42 s43 s44 s45 s46 s47 s48 s49 s50 s51 s52 s53 s54 s55 s56 s57 s58 s59 s60 s61 s62 s63 s64 s65 s66 s67 s68 s69 s70 s71 s72 s73 s74 s75 s76 s77 s78 s79 s80 s81 s82 s83 s84 s85 s86 s87 s88 s89 s90 s91 s92 s93 s94 s95 s96 s97 s98 s99 s100 s101 s102 s103 s104 s105 s106 s107 s108 s109 s110 s111 s112 s113 s114 s115 s116 s117 s121 s122 s123 s124 s125 s126 s127 s128 s129 s130 s131 s132 s133 s134 s135 s136 s137 s138 s139 s140 s141 s142 s143 s144 s145 s146 s147 s148 s149 s150 s151 s152 s153 s154 s155 s156 s157 s158 s159 s160 s161 s162 s163 s164 s165 s166 s167 s168 s169 s170 s171 s172 s173 s174 s175 s176 s177 s178 : Value} {J K' : Act → World → Prop} {Q : Exit → Act → World → Prop}
    (hJ : ∀ (a' : Act) (w' : World), (∃ u16 u17 u18 u19 u120 u121 u122 u123 u124 u125 u126 u127 u128 u129 u130 u131 u132 u133 u134 u135 u136 u137 u138 u139 u140 u141 u142 u143 u144 u145 u146 u147 u148 u149 u150 u151 u152 u153 u154 u155 u156 u157 u158 u159 u160 u161 u162 u163 u164 u165 u166 u167 u168 u169 u170 u171 u172 u173 u174 u175 u176 u177 : Value, (RowI w' wS.heap.size 3 1 u16 n (fun x => if rbB K n x = true then base else V x) ∧ Below wS.heap.size wS w') ∧ a' = ⟨#[s0, .int .i64 base, s2, s3, s4, .slice (some ⟨g, 0, none⟩) n cap, s6, s7, s8, s9, s10, s11, s12, s13, s14, s15, u16, u17, u18, u19, s20, s21, s22, s23, s24, s25, s26, s27, s28, s29, s30, s31, s32, s33, s34, s35, s36, s37, s38, s39, s40, s41, s42, s43, s44, s45, s46, s47, s48, s49, s50, s51, s52, s53, s54, s55, s56, s57, s58, s59, s60, s61, s62, s63, s64, s65, s66, s67, s68, s69, s70, s71, s72, s73, s74, s75, s76, s77, s78, s79, s80, s81, s82, s83, s84, s85, s86, s87, s88, s89, s90, s91, s92, s93, s94, s95, s96, s97, s98, s99, s100, s101, s102, s103, s104, s105, s106, s107, s108, s109, s110, s111, s112, s113, s114, s115, s116, s117, .slice (some ⟨g, 0, none⟩) n cap, .int .i64 n, u120, u121, u122, u123, u124, u125, u126, u127, u128, u129, u130, u131, u132, u133, u134, u135, u136, u137, u138, u139, u140, u141, u142, u143, u144, u145, u146, u147, u148, u149, u150, u151, u152, u153, u154, u155, u156, u157, u158, u159, u160, u161, u162, u163, u164, u165, u166, u167, u168, u169, u170, u171, u172, u173, u174, u175, u176, u177, s178], []⟩) → J a' w')
    (hK : ∀ (a' : Act) (w' : World), Met J a' w' → K' a' w') :
    Code.wp Tryd.prog (theBlk Tryd.f11 8) (Exit.then K' Q) ⟨#[s0, .int .i64 base, s2, s3, s4, .slice (some ⟨g, 0, none⟩) n cap, s6, s7, s8, s9, s10, s11, s12, s13, s14, s15, .slice none 0 0, s17, s18, s19, s20, s21, s22, s23, s24, s25, s26, s27, s28, s29, s30, s31, s32, s33, s34, s35, s36, s37, s38, s39, s40, s41, s42, s43, s44, s45, s46, s47, s48, s49, s50, s51, s52, s53, s54, s55, s56, s57, s58, s59, s60, s61, s62, s63, s64, s65, s66, s67, s68, s69, s70, s71, s72, s73, s74, s75, s76, s77, s78, s79, s80, s81, s82, s83, s84, s85, s86, s87, s88, s89, s90, s91, s92, s93, s94, s95, s96, s97, s98, s99, s100, s101, s102, s103, s104, s105, s106, s107, s108, s109, s110, s111, s112, s113, s114, s115, s116, s117, .slice (some ⟨g, 0, none⟩) n cap, .int .i64 n, .int .i64 0, s121, s122, s123, s124, s125, s126, s127, s128, s129, s130, s131, s132, s133, s134, s135, s136, s137, s138, s139, s140, s141, s142, s143, s144, s145, s146, s147, s148, s149, s150, s151, s152, s153, s154, s155, s156, s157, s158, s159, s160, s161, s162, s163, s164, s165, s166, s167, s168, s169, s170, s171, s172, s173, s174, s175, s176, s177, s178], []⟩ wS := by
  have HI := Lib.hid (info_parts (show (Tryd.prog.info? 3).map (fun i => (i.zero, i.size, i.bytes)) = some (some (.int .i64 0), 1, 8) by kernel_rfl))
  have hgl := HC.out.lt
  obtain ⟨R, hR⟩ : ∃ R : Nat → Int, R = fun x => if rbB K n x = true then base else V x := ⟨_, rfl⟩
  rw [← hR] at hJ
  have HR := Lib.hid hR
  clear hR
  conv => arg 2; whnf
  go_wp2_with fail
  go_loopw [16, 120] (fun v iv wr => ∃ i : Nat, iv = .int .i64 i ∧ i ≤ n ∧ RowI wr wS.heap.size 3 1 v i R ∧ Below wS.heap.size wS wr) (fun _ iv _ => n - (intOf iv).toNat)
  case atStart => exact ⟨0, rfl, by omega, RowI.nil _ _ _ _ _, Below.refl _ _⟩
  case round =>
    obtain ⟨i, rfl, hi, hr, hb⟩ := hrel
    obtain ⟨va, vc, rfl, hvc1, hvc2⟩ := hr.slice
    have HRR := Lib.hid hr
    have HB := Lib.hid hb
    clear hr
    by_cases hin : i < n
    case neg =>
      obtain rfl : i = n := by omega
      clear hb
      go_wp2_with fail
      go_meet
      exact ⟨HRR.out, HB.out⟩
    have hch := HC.out.only (w' := wr) (hb.block g hgl)
    obtain ⟨_, _, _, d2, _, _⟩ := hch.cells hin
    have hini : (i : Int) < (n : Int) := by omega
    obtain ⟨vi, hvi⟩ : ∃ x, x = V i := ⟨_, rfl⟩
    rw [← hvi] at d2
    have HVI := Lib.hid hvi
    have hsz2 := hb.size
    clear hch hb hvi
    obtain ⟨xs, hown0, hxs⟩ := HRR.out
    have hxl := hown0.1
    have HXX := Lib.hid hown0
    have HXL := Lib.hid hxl
    have HXS := Lib.hid hxs
    obtain ⟨ii, hii, hz0, hz1, hz2⟩ := HI.out
    clear hown0 hxl hxs
    go_wp2_with (at_builtin; go_loud (refine wpList_append_own _ rfl _ _ 22 rfl (wS.heap.size) 3 ii _ 1 8 Tryd.underlying22 hii hz0 hz1 hz2 rfl (by decide) _ _ _ rfl (RowL.alloc HXX.out _) ⟨wr.heap.size, 0, none⟩ 1 1 [.int .i64 vi] rfl rfl ?k1a ?k2a ?k3a ?k4a ?k5a ?_))
    try (case k1a =>
      intro j u hj
      have e : Addr.add ⟨wr.heap.size, 0, none⟩ j = ⟨wr.heap.size, j, none⟩ := by simp [Addr.add] <;> omega
      rw [e]
      exact cellNew1 (by simpa using hj))
    try (case k2a => first | rfl | (intro u hu; simp at hu; subst hu; rfl))
    try (case k3a => unfold maxLen; (try simp); (try omega))
    try (case k4a => (try simp); (try omega))
    try (case k5a => (try simp); (try omega))
    intro v5 w5 hown hgrow _
    have HR5 := Lib.hid (show RowI w5 wS.heap.size 3 1 v5 (i + 1) (upd R i vi) from RowI.push hown HXL.out HXS.out (fun j hj => by (obtain rfl : j = 0 := by omega); unfold upd; rw [Nat.mul_one, Nat.add_zero, if_pos rfl]; rfl) (fun j hj => by unfold upd; rw [if_neg (by omega)]))
    have HB5 := Lib.hid (below_grown HB.out HB.out.size _ hgrow HRR.out.ge)
    obtain ⟨g5, c5, hv5, hg5b, hg5l, hgc, _, hz5, hc5⟩ := RowI.at HR5.out (by omega)
    subst hv5
    clear hown hgrow hii hz0 hz1 hz2 HXX HXS HXL HRR HB d2
    have z5 := hz5 i
    have c5i := hc5 i (by omega)
    have hii1 : (i : Int) < ((i + 1 : Nat) : Int) := by omega
    have HCH5 := Lib.hid (HC.out.only (w' := w5) (HB5.out.block g hgl))
    clear hz5 hc5
    go_upto_block 10 with fail
    refine wp_open3 (fun K0 hK0 => ?_)
    go_cut [18, 19] from 132 to 176 (fun _ _ wx => RowI wx wS.heap.size 3 1 (.slice (some ⟨g5, 0, none⟩) (i + 1) c5) (i + 1) R ∧ Below wS.heap.size wS wx)
    case first =>
      go_wp2_with fail
      go_loopw [18] (fun kv wx => ∃ k : Nat, kv = .int .i64 k ∧ i ≤ k ∧ k ≤ n ∧ rbB K n i = rbB K n k ∧ wx = w5) (fun kv _ => n - (intOf kv).toNat)
      case atStart => exact ⟨i, rfl, Nat.le_refl _, hi, rfl, rfl⟩
      case round =>
        obtain ⟨k, rfl, hik, hkn, hrb, hwr⟩ := hrel
        obtain rfl : w5 = wr := hwr.symm
        have HRB := Lib.hid hrb
        clear hwr hrb
        have hkni : (k : Int) ≤ (n : Int) := by omega
        have hwk := IntWalk.i64_in ((k : Int) + 1) (by omega)
        have HSETB := Lib.hid (fun (h : rbB K n i = true) => (show RowI (w5.setCell ⟨g5, i, none⟩ (.int .i64 base)) wS.heap.size 3 1 (.slice (some ⟨g5, 0, none⟩) (i + 1) c5) (i + 1) R from (HR5.out.set i (by omega) base).congr fun j hj => by
          unfold upd
          by_cases e : j = i
          · rw [if_pos e, e, HR.out]
            show base = if rbB K n i = true then base else V i
            rw [if_pos h]
          · rw [if_neg e, if_neg e]))
        have HKEEP := Lib.hid (fun (h : rbB K n i = false) => (show RowI w5 wS.heap.size 3 1 (.slice (some ⟨g5, 0, none⟩) (i + 1) c5) (i + 1) R from HR5.out.congr fun j hj => by
          unfold upd
          by_cases e : j = i
          · rw [if_pos e, e, HR.out, HVI.out]
            show V i = if rbB K n i = true then base else V i
            rw [if_neg (by rw [h]; decide)]
          · rw [if_neg e]))
        have hg5b' : wS.heap.size ≤ g5 := hg5b
        by_cases hk : k = n
        · have hkb : (k == n) = true := by simp [hk]
          have hkb2 : ((k : Int) == (n : Int)) = true := by simp [hk]
          have HT := Lib.hid (show rbB K n i = true by rw [HRB.out]; exact rbB_end (by omega))
          have HKN := Lib.hid hk
          clear hk
          go_wp2_with fail
          go_meet
          exact ⟨HSETB.out HT.out, HB5.out.setCell hg5b' _⟩
        have hkn2 : k < n := by omega
        have hkb : (k == n) = false := by simpa using hk
        have hkb2 : ((k : Int) == (n : Int)) = false := by
          have : ¬ (k : Int) = (n : Int) := by omega
          simpa using this
        have hkni2 : (k : Int) < (n : Int) := by omega
        obtain ⟨_, d0, _⟩ := HCH5.out.cells hkn2
        have HST := Lib.hid (rbB_step (K := K) hkn2)
        obtain ⟨kk, hkk⟩ : ∃ x, x = K k := ⟨_, rfl⟩
        rw [← hkk] at d0 HST
        clear hkk hk
        by_cases k11 : kk = 11
        · have b11 : (kk == 11) = true := by simp [k11]
          have HT := Lib.hid (show rbB K n i = true by rw [HRB.out, HST.out, if_pos (.inl k11)])
          clear k11
          go_wp2_with fail
          go_meet
          exact ⟨HSETB.out HT.out, HB5.out.setCell hg5b' _⟩
        have b11 : (kk == 11) = false := by simpa using k11
        by_cases k10 : kk = 10
        · have b10 : (kk == 10) = true := by simp [k10]
          have HT := Lib.hid (show rbB K n i = true by rw [HRB.out, HST.out, if_pos (.inr k10)])
          clear k10 k11
          go_wp2_with fail
          go_meet
          exact ⟨HSETB.out HT.out, HB5.out.setCell hg5b' _⟩
        have b10 : (kk == 10) = false := by simpa using k10
        have HST2 := Lib.hid (HST.out.trans (if_neg (by omega)))
        by_cases k12 : kk = 12
        · have b12 : (kk != 12) = false := by simp [k12]
          have HN := Lib.hid (HRB.out.trans (HST2.out.trans (if_pos (.inl k12))))
          clear k12 k10 k11
          go_wp2_with fail
          go_roundw
          case rel => exact ⟨k + 1, by go_num, by omega, by omega, HN.out, trivial⟩
          case measure => simp [intOf]; omega
        have b12 : (kk != 12) = true := by simpa using k12
        by_cases k9 : kk = 9
        · have b9 : (kk != 9) = false := by simp [k9]
          have HN := Lib.hid (HRB.out.trans (HST2.out.trans (if_pos (.inr (.inl k9)))))
          clear k12 k10 k11 k9
          go_wp2_with fail
          go_roundw
          case rel => exact ⟨k + 1, by go_num, by omega, by omega, HN.out, trivial⟩
          case measure => simp [intOf]; omega
        have b9 : (kk != 9) = true := by simpa using k9
        by_cases k14 : 14 ≤ kk
        · have b14 : ¬ kk < 14 := by omega
          have HN := Lib.hid (HRB.out.trans (HST2.out.trans (if_pos (.inr (.inr k14)))))
          clear k12 k10 k11 k9 k14
          go_wp2_with fail
          go_roundw
          case rel => exact ⟨k + 1, by go_num, by omega, by omega, HN.out, trivial⟩
          case measure => simp [intOf]; omega
        · have b14 : kk < 14 := by omega
          have HN := Lib.hid (HRB.out.trans (HST2.out.trans (if_neg (by omega))))
          clear k12 k10 k11 k9 k14
          go_wp2_with fail
          go_meet
          exact ⟨HKEEP.out HN.out, HB5.out⟩
    case rest =>
    obtain ⟨hr6, hb6⟩ := hcut
    have HR6 := Lib.hid hr6
    have HB6 := Lib.hid hb6
    clear hr6 hb6 HR5 HB5 HCH5 z5 c5i
    refine hK0 _ _ ?_
    clear hK0 K0
    simp only [Exit.inBlock, Exit.then]
    go_wp2_with fail
    go_roundw
    case rel => exact ⟨i + 1, by go_num, by omega, HR6.out, HB6.out⟩
    case measure => simp [intOf]; omega
set_option maxHeartbeats 8000000 in
theorem emOther {p : EmP} {b : Ent} {w0 wz : World} {i oi oe va T gs cs cb tb : Nat} {e : Est} {t : List Ent} {lv ov nx k base : Int} {iso ft : Bool}
    (OK : Hid (EmOk p w0)) (HEK : Hid (EstOk b i e)) (HEK2 : Hid (EstOk b (i + 1) (estAt b p.K p.n (i + 1)))) (HXT : Hid (e.st = ⟨lv, ov, iso⟩ :: t)) (HOI : Hid (oi = e.oi)) (HOE : Hid (oe = e.oe)) (HVA : Hid (va = e.va)) (HNX : Hid (nextB b p.K p.n i e = nx)) (HFT : Hid (ft = true ↔ fitsB b p.K p.n i e))
    (HK : Hid (k = p.K i)) (HE : Hid (e = estAt b p.K p.n i)) (HST : Hid (estAt b p.K p.n (i + 1) = estStep b p.K p.n i e)) (HTL : Hid (T = t.length)) (HBD : Hid (b = ⟨base, -1, false⟩))
    (HZ : Hid (Em p b (prt (clE b p.K p.n) p.K i) (prt (lvE b p.K p.n) (fun _ => 0) i) (prtB (ouE p.K) (fun _ => false) i) w0 wz (.slice (some ⟨gs, 0, none⟩) (T + 1) cs) (⟨lv, ov, iso⟩ :: t)))
    (HCB : Hid (Blk wz cb #[.pointer (some ⟨p.g, i * 5, none⟩)] 76)) (HTB : Hid (Blk wz tb #[.int .i64 lv, .int .i64 ov, .bool iso] 74)) (hcw : w0.heap.size ≤ cb) (htw : w0.heap.size ≤ tb)
    (hin : i < p.n) (hn2 : p.n ≤ 200) (hTs : T + 1 ≤ i + 1) (hoib : oi ≤ i) (hoeb : oe ≤ i) (hvab : va ≤ i) (hxm : 0 ≤ lv ∧ lv ≤ 125) (hxo : -1 ≤ ov ∧ ov ≤ 1) (hsc1 : T + 1 ≤ cs) (hsc2 : cs ≤ maxLen) (hnxb : 0 ≤ nx ∧ nx ≤ 1000) (hbase : base = 0 ∨ base = 1) (hk : ¬ (14 ≤ k ∧ k ≤ 22) ∧ k ≠ 9 ∧ k ≠ 10)
    {s0 s2 s3 s4 s5 s6 s11 s14 s18 s19 s20 s21 s22 s23 s24 s25 s26 s27 s28 s29 s30 s31 s32 s33 s34 s35 s36 s37 s38 s39 s40 s41 s42 s43 s44 s45 s46 s47 s48 s49 s50 s51 s52 s53 s54 s55 s56 s57 s58 s59 s60 s61 s62 s63 s64 s65 s66 s67 s68 s69 s70 s71 s72 s73 s74 s75 s76 s77 s78 s79 s80 s81 s82 s83 s84 s85 s86 s87 s88 s89 s90 s91 s92 s93 s94 s95 s96 s97 s98 s99 s100 s101 s102 s103 s104 s106 s107 s108 s109 s110 s111 s112 s113 s114 s115 s116 s117 s118 s119 s120 s121 s122 s123 s124 s125 s126 s127 s128 s129 s130 s131 s132 s133 s134 s135 s136 s137 s138 s139 s140 s141 s142 s143 s144 s145 s146 s147 s148 s149 s150 s151 s152 s153 s154 s155 s156 s157 s158 s159 s160 s161 s162 s163 s164 s165 s166 s167 s168 s169 s170 s171 s172 s173 s174 s175 s176 s177 s178 s179 s180 s181 s182 s183 s184 s185 s186 s187 s188 s189 s190 s191 s192 s193 s194 s195 s196 s197 s198 s199 s200 s201 s202 s203 s204 s205 s206 s207 s208 s209 s210 s211 s212 s213 s214 s215 s216 s217 s218 s219 s220 s221 s222 s223 s224 s225 s226 s227 s228 s229 s230 s231 s232 s233 : Value} {J : Act → World → Prop} {Q : Exit → Act → World → Prop}
    (HQ : Hid (∀ (c : List PanicEntry) (a a' : Act) (w : World), a.defers = a'.defers → Q (.panic c) a w → Q (.panic c) a' w))
    (hJ : ∀ (a' : Act) (w' : World), (∃ u8 u9 u10 u18 u19 u106 u107 u108 u109 u110 u111 u112 u113 u114 u115 u116 u117 u118 u119 u120 u121 u122 u123 u124 u125 u126 u127 u128 u129 u130 u131 u132 u133 u134 u135 u136 u137 u138 u139 u140 u141 u142 u143 u144 u145 u146 u147 u148 u149 u150 u151 u152 u153 u154 u155 u156 u157 u158 u159 u160 u161 u162 u163 u164 u165 u166 u167 u168 u169 u170 u171 u172 u173 u174 u175 u176 u177 u178 u179 u180 u181 u182 u183 u184 u185 u186 u187 u188 u189 u190 u191 u192 u193 u194 u195 u196 u197 u198 u199 u200 u201 u202 u203 u204 u205 u206 u207 u208 u209 u210 u211 u212 u213 u214 u215 u216 u217 u218 u219 u220 u221 u222 u223 u224 u225 u226 u227 u228 u229 u230 u231 u232 : Value, (u8 = .int .i64 (estAt b p.K p.n (i + 1)).oi ∧ u9 = .int .i64 (estAt b p.K p.n (i + 1)).oe ∧ u10 = .int .i64 (estAt b p.K p.n (i + 1)).va ∧ ∃ sv, Em p b (prt (clE b p.K p.n) p.K (i + 1)) (prt (lvE b p.K p.n) (fun _ => 0) (i + 1)) (prtB (ouE p.K) (fun _ => false) (i + 1)) w0 w' sv (estAt b p.K p.n (i + 1)).st) ∧ a' = ⟨#[s0, .int .i64 base, s2, s3, s4, s5, s6, .pointer (some ⟨p.sp, 0, none⟩), u8, u9, u10, s11, .pointer (some ⟨cb, 0, none⟩), .pointer (some ⟨tb, 0, none⟩), s14, .int .i64 nx, .bool ft, .func (.func 46) #[] #[.pointer (some ⟨p.sp, 0, none⟩), .pointer (some ⟨cb, 0, none⟩)], u18, u19, s20, s21, s22, s23, s24, s25, s26, s27, s28, s29, s30, s31, s32, s33, s34, s35, s36, s37, s38, s39, s40, s41, s42, s43, s44, s45, s46, s47, s48, s49, s50, s51, s52, s53, s54, s55, s56, s57, s58, s59, s60, s61, s62, s63, s64, s65, s66, s67, s68, s69, s70, s71, s72, s73, s74, s75, s76, s77, s78, s79, s80, s81, s82, s83, s84, s85, s86, s87, s88, s89, s90, s91, s92, s93, s94, s95, s96, s97, s98, s99, s100, s101, s102, s103, s104, .int .i64 k, u106, u107, u108, u109, u110, u111, u112, u113, u114, u115, u116, u117, u118, u119, u120, u121, u122, u123, u124, u125, u126, u127, u128, u129, u130, u131, u132, u133, u134, u135, u136, u137, u138, u139, u140, u141, u142, u143, u144, u145, u146, u147, u148, u149, u150, u151, u152, u153, u154, u155, u156, u157, u158, u159, u160, u161, u162, u163, u164, u165, u166, u167, u168, u169, u170, u171, u172, u173, u174, u175, u176, u177, u178, u179, u180, u181, u182, u183, u184, u185, u186, u187, u188, u189, u190, u191, u192, u193, u194, u195, u196, u197, u198, u199, u200, u201, u202, u203, u204, u205, u206, u207, u208, u209, u210, u211, u212, u213, u214, u215, u216, u217, u218, u219, u220, u221, u222, u223, u224, u225, u226, u227, u228, u229, u230, u231, u232, s233], []⟩) → J a' w')
    (hN : ∀ (a' : Act) (w' : World), J a' w' → Q .normal a' w') (hX : ∀ (a' : Act) (w' : World), J a' w' → Q (.exit 3) a' w') :
    Code.wp Tryd.prog (theBlk Tryd.f25 4) Q ⟨#[s0, .int .i64 base, s2, s3, s4, s5, s6, .pointer (some ⟨p.sp, 0, none⟩), .int .i64 oi, .int .i64 oe, .int .i64 va, s11, .pointer (some ⟨cb, 0, none⟩), .pointer (some ⟨tb, 0, none⟩), s14, .int .i64 nx, .bool ft, .func (.func 46) #[] #[.pointer (some ⟨p.sp, 0, none⟩), .pointer (some ⟨cb, 0, none⟩)], s18, s19, s20, s21, s22, s23, s24, s25, s26, s27, s28, s29, s30, s31, s32, s33, s34, s35, s36, s37, s38, s39, s40, s41, s42, s43, s44, s45, s46, s47, s48, s49, s50, s51, s52, s53, s54, s55, s56, s57, s58, s59, s60, s61, s62, s63, s64, s65, s66, s67, s68, s69, s70, s71, s72, s73, s74, s75, s76, s77, s78, s79, s80, s81, s82, s83, s84, s85, s86, s87, s88, s89, s90, s91, s92, s93, s94, s95, s96, s97, s98, s99, s100, s101, s102, s103, s104, .int .i64 k, s106, s107, s108, s109, s110, s111, s112, s113, s114, s115, s116, s117, s118, s119, s120, s121, s122, s123, s124, s125, s126, s127, s128, s129, s130, s131, s132, s133, s134, s135, s136, s137, s138, s139, s140, s141, s142, s143, s144, s145, s146, s147, s148, s149, s150, s151, s152, s153, s154, s155, s156, s157, s158, s159, s160, s161, s162, s163, s164, s165, s166, s167, s168, s169, s170, s171, s172, s173, s174, s175, s176, s177, s178, s179, s180, s181, s182, s183, s184, s185, s186, s187, s188, s189, s190, s191, s192, s193, s194, s195, s196, s197, s198, s199, s200, s201, s202, s203, s204, s205, s206, s207, s208, s209, s210, s211, s212, s213, s214, s215, s216, s217, s218, s219, s220, s221, s222, s223, s224, s225, s226, s227, s228, s229, s230, s231, s232, s233], []⟩ wz := by
  have HES := Lib.hid (show estAt b p.K p.n (i + 1) = e by
    have hk2 := HK.out
    have h1 : ¬ isEmb (p.K i) := by unfold isEmb; omega
    have h2 : ¬ isoB (p.K i) = true := by unfold isoB; rw [decide_eq_true_eq]; omega
    rw [HST.out]; unfold estStep
    rw [if_neg h1, if_neg h2, if_neg (by omega), if_neg (by omega)])
  have HDC := Lib.hid (show decB b p.K p.n i = ⟨lv, ov, iso⟩ by
    have hk2 := HK.out
    unfold decB; rw [if_neg (by omega), ← HE.out, HXT.out]; rfl)
  have HOU := Lib.hid (show ouE p.K i = false by have hk2 := HK.out; unfold ouE; rw [decide_eq_false_iff_not]; omega)
  have HCL := Lib.hid (show clE b p.K p.n i = if 0 ≤ ov then ov else p.K i by
    have hk2 := HK.out
    unfold clE; rw [HOU.out, HDC.out, if_neg (by intro h; rcases h with h | h; exact absurd h (by decide); omega)])
  have HLV := Lib.hid (show lvE b p.K p.n i = lv by have hk2 := HK.out; unfold lvE; rw [if_neg (by omega), HDC.out])
  have f14 : (k == 14) = false := by simp; omega
  have f15 : (k == 15) = false := by simp; omega
  have f16 : (k == 16) = false := by simp; omega
  have f17 : (k == 17) = false := by simp; omega
  have f18 : (k == 18) = false := by simp; omega
  have f19 : (k == 19) = false := by simp; omega
  have f20 : (k == 20) = false := by simp; omega
  have f21 : (k == 21) = false := by simp; omega
  have f22 : (k == 22) = false := by simp; omega
  have f9 : (k == 9) = false := by simp; omega
  have f10 : (k == 10) = false := by simp; omega
  clear hk
  have HPL := Lib.hid (plain_any OK.out HZ.out HCB.out hin (by omega) (by have := HTL.out; omega))
  conv => arg 2; whnf
  go_wp2_with fail
  refine HPL.out.mono ?_
  rintro e9 w7 ⟨rfl, hem, hsv⟩
  have HX7 := Lib.hid (show Em p b (prt (clE b p.K p.n) p.K (i + 1)) (prt (lvE b p.K p.n) (fun _ => 0) (i + 1)) (prtB (ouE p.K) (fun _ => false) (i + 1)) w0 w7 (.slice (some ⟨gs, 0, none⟩) (T + 1) cs) (estAt b p.K p.n (i + 1)).st by
    rw [HES.out, HXT.out]
    exact hem.congr (fun j _ => by unfold ovC; exact cl_set rfl HCL.out j) (fun j _ => prt_set _ _ i HLV.out j) (fun j _ => prtB_same HOU.out j))
  clear hem hsv HPL
  go_wp2_with fail
  refine hN _ _ (hJ _ _ ?_)
  (repeat apply Exists.intro)
  refine ⟨?rel, rfl⟩
  case rel => exact ⟨by rw [HES.out, HOI.out], by rw [HES.out, HOE.out], by rw [HES.out, HVA.out], _, HX7.out⟩
end Go.Proofs.YtojbicdmcodgdaaDoor.BD
