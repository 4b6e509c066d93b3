/-
  BdExpV, BdExpW, BdSeqP.
-/
import Derived.Test.YtojbicdmcodgdaaDoorBdM05
import Derived.Test.YtojbicdmcodgdaaDoorBdM06
import Derived.Test.YtojbicdmcodgdaaDoorBdM04
import Derived.Deep.CutRange
import Derived.Deep.CutBlock
import Derived.Test.YtojbicdmcodgdaaDoorBdM03
import Derived.Test.YtojbicdmcodgdaaDoorBdM02
namespace Go.Law.Bd
theorem popI_app : ∀ {l1 l2 : List Ent}, (∀ y, y ∈ l1 → y.iso = false) → popI (l1 ++ l2) = popI l2
  | [], _, _ => rfl
  | x :: t, l2, h => by
    rw [List.cons_append, popI, if_neg (by rw [h x (by simp)]; decide), popI_app fun y hy => h y (by simp [hy])]
def lenV3 : Go.Value → Nat
  | .slice _ n _ => n
  | _ => 0
end Go.Law.Bd
namespace Go.Proofs.YtojbicdmcodgdaaDoor.BD
open Go.RowKit Go.Law Go.Law.Bd
set_option linter.unusedVariables false
set_option linter.unusedSimpArgs false
set_option maxRecDepth 100000
set_option maxHeartbeats 8000000 in
theorem exPdi {p : PaP} {b : Ent} {K L0 : Nat → Int} {w w6 : World} {i oi oe va T gs cs g8 : Nat} {e : Est} {t : List Ent} {lv ov nx k : Int} {iso ft : Bool}
    (OK : Hid (PaOk p)) (HEK : Hid (EstOk b i e)) (HEK2 : Hid (EstOk b (i + 1) (estAt b K p.n (i + 1)))) (HXT : Hid (e.st = ⟨lv, ov, iso⟩ :: t)) (HOI : Hid (oi = e.oi)) (HOE : Hid (oe = e.oe)) (HVA : Hid (va = e.va)) (HNX : Hid (nextB b K p.n i e = nx)) (HFT : Hid (ft = true ↔ fitsB b K p.n i e))
    (HK : Hid (k = K i)) (HE : Hid (e = estAt b K p.n i)) (HST : Hid (estAt b K p.n (i + 1) = estStep b K p.n i e)) (HTL : Hid (T = t.length)) (HBD : Hid (b = ⟨p.base, -1, false⟩)) (HXO : Hid (XOk p w g8 (.slice (some ⟨gs, 0, none⟩) (T + 1) cs)))
    (HY6 : Hid (Yq p b (prt (clE b K p.n) K i) (upd (prt (lvE b K p.n) L0 i) i lv) (prtB (ouE K) (fun _ => false) i) w w6 (.slice (some ⟨gs, 0, none⟩) (T + 1) cs) (⟨lv, ov, iso⟩ :: t) g8 ⟨lv, ov, iso⟩))
    (hin : i < p.n) (hn2 : p.n ≤ 200) (hTs : T + 1 ≤ i + 1) (hoib : oi ≤ i) (hoeb : oe ≤ i) (hvab : va ≤ i) (hxm : 0 ≤ lv ∧ lv ≤ 125) (hxo : -1 ≤ ov ∧ ov ≤ 1) (hsc1 : T + 1 ≤ cs) (hsc2 : cs ≤ maxLen) (hnxb : 0 ≤ nx ∧ nx ≤ 1000) (hbase : p.base = 0 ∨ p.base = 1) (hk : k = 22)
    {s1 s9 s12 s13 s14 s15 s16 s17 s18 s19 s20 s21 s22 s23 s24 s25 s26 s27 s28 s29 s30 s31 s32 s33 s34 s35 s36 s37 s38 s39 s40 s41 s42 s43 s44 s45 s46 s47 s48 s49 s50 s51 s52 s53 s54 s55 s56 s57 s58 s59 s60 s61 s62 s63 s64 s65 s66 s67 s68 s69 s70 s71 s72 s73 s74 s75 s76 s77 s78 s79 s80 s81 s82 s83 s84 s85 s86 s87 s88 s89 s90 s91 s92 s93 s94 s95 s96 s97 s98 s99 s100 s101 s102 s103 s104 s105 s106 s107 s108 s109 s110 s111 s112 s113 s114 s115 s116 s117 s118 s119 s120 s121 s122 s123 s124 s125 s126 s127 s128 s129 s130 s131 s132 s133 s134 s135 s136 s137 s138 s139 s140 s141 s142 s143 s144 s145 s146 s147 s148 s149 s150 s151 s152 s153 s154 s155 s156 s157 s158 s159 s160 s161 s162 s163 s164 s165 s166 s167 s168 s169 s170 s171 s172 s173 s174 s175 s176 s177 s178 s179 s180 s181 s182 s183 s184 s185 s186 s187 s188 s189 s190 s191 s192 s193 s194 s195 s196 s197 s198 s199 s200 s201 s202 s203 s204 s205 s206 s207 s208 s209 s210 s211 s212 s213 s214 s215 s216 s217 s218 s219 s220 s221 s222 s223 s224 s225 s226 s227 s228 s229 s230 s231 s232 s233 s234 s235 s236 s237 s238 s239 s240 s241 s242 : Value} {J K' : Act → World → Prop} {Q : Exit → Act → World → Prop}
    (HPQ : Hid (∀ (c : List PanicEntry) (a a' : Act) (w : World), a.defers = a'.defers → Q (.panic c) a w → Q (.panic c) a' w))
    (hJ : ∀ (a' : Act) (w' : World), (∃ u2 u3 u4 u5 u12 u81 u82 u83 u84 u85 u86 u87 u88 u89 u90 u91 u92 u93 u94 u95 u96 u97 u98 u99 u100 u101 u102 u103 u104 u105 u106 u107 u108 u109 u110 u111 u112 u113 u114 u115 u116 u117 u118 u119 u120 u121 u122 u123 u124 u125 u126 u127 u128 u129 u130 u131 u132 u133 u134 u135 u136 u137 u138 u139 u140 u141 u142 u143 u144 u145 u146 u147 u148 u149 u150 u151 u152 u153 u154 u155 u156 u157 u158 u159 u160 u161 u162 u163 u164 u165 u166 u167 u168 u169 u170 u171 u172 u173 u174 u175 u176 u177 u178 u179 u180 u181 u182 u183 u184 u185 u186 u187 u188 u189 u190 u191 u192 u193 u194 u195 u196 u197 u198 u199 u200 u201 u202 u203 u204 u205 u206 u207 u208 u209 u210 u211 u212 u213 u214 u215 u216 u217 u218 u219 u220 u221 u222 u223 u224 u225 u226 u227 u228 u229 u230 u231 u232 u233 u234 u235 u236 u237 u238 u239 u240 u241 : Value, (u3 = .int .i64 (estAt b K p.n (i + 1)).oi ∧ u4 = .int .i64 (estAt b K p.n (i + 1)).oe ∧ u5 = .int .i64 (estAt b K p.n (i + 1)).va ∧ Xq p b K L0 w w' u2 (i + 1) (estAt b K p.n (i + 1)).st) ∧ a' = ⟨#[.pointer (some ⟨p.pz, 0, none⟩), s1, u2, u3, u4, u5, .int .i64 i, .int .i64 k, .pointer (some ⟨g8, 0, none⟩), s9, .int .i64 nx, .bool ft, u12, s13, s14, s15, s16, s17, s18, s19, s20, s21, s22, s23, s24, s25, s26, s27, s28, s29, s30, s31, s32, s33, s34, s35, s36, s37, s38, s39, s40, s41, s42, s43, s44, s45, s46, s47, s48, s49, s50, s51, s52, s53, s54, s55, s56, s57, s58, s59, s60, s61, s62, s63, s64, s65, s66, s67, s68, s69, s70, s71, s72, s73, s74, s75, s76, s77, s78, s79, s80, u81, u82, u83, u84, u85, u86, u87, u88, u89, u90, u91, u92, u93, u94, u95, u96, u97, u98, u99, u100, u101, u102, u103, u104, u105, u106, u107, u108, u109, u110, u111, u112, u113, u114, u115, u116, u117, u118, u119, u120, u121, u122, u123, u124, u125, u126, u127, u128, u129, u130, u131, u132, u133, u134, u135, u136, u137, u138, u139, u140, u141, u142, u143, u144, u145, u146, u147, u148, u149, u150, u151, u152, u153, u154, u155, u156, u157, u158, u159, u160, u161, u162, u163, u164, u165, u166, u167, u168, u169, u170, u171, u172, u173, u174, u175, u176, u177, u178, u179, u180, u181, u182, u183, u184, u185, u186, u187, u188, u189, u190, u191, u192, u193, u194, u195, u196, u197, u198, u199, u200, u201, u202, u203, u204, u205, u206, u207, u208, u209, u210, u211, u212, u213, u214, u215, u216, u217, u218, u219, u220, u221, u222, u223, u224, u225, u226, u227, u228, u229, u230, u231, u232, u233, u234, u235, u236, u237, u238, u239, u240, u241, s242], []⟩) → J a' w')
    (hK : ∀ (a' : Act) (w' : World), Met J a' w' → K' a' w') :
    Code.wp Tryd.prog (theBlk Tryd.f14 2) (Exit.then K' Q) ⟨#[.pointer (some ⟨p.pz, 0, none⟩), s1, .slice (some ⟨gs, 0, none⟩) (T + 1) cs, .int .i64 oi, .int .i64 oe, .int .i64 va, .int .i64 i, .int .i64 k, .pointer (some ⟨g8, 0, none⟩), s9, .int .i64 nx, .bool ft, s12, s13, s14, s15, s16, s17, s18, s19, s20, s21, s22, s23, s24, s25, s26, s27, s28, s29, s30, s31, s32, s33, s34, s35, s36, s37, s38, s39, s40, s41, s42, s43, s44, s45, s46, s47, s48, s49, s50, s51, s52, s53, s54, s55, s56, s57, s58, s59, s60, s61, s62, s63, s64, s65, s66, s67, s68, s69, s70, s71, s72, s73, s74, s75, s76, s77, s78, s79, s80, s81, s82, s83, s84, s85, s86, s87, s88, s89, s90, s91, s92, s93, s94, s95, s96, s97, s98, s99, s100, s101, s102, s103, s104, s105, s106, s107, s108, s109, s110, s111, s112, s113, s114, s115, s116, s117, s118, s119, s120, s121, s122, s123, s124, s125, s126, s127, s128, s129, s130, s131, s132, s133, s134, s135, s136, s137, s138, s139, s140, s141, s142, s143, s144, s145, s146, s147, s148, s149, s150, s151, s152, s153, s154, s155, s156, s157, s158, s159, s160, s161, s162, s163, s164, s165, s166, s167, s168, s169, s170, s171, s172, s173, s174, s175, s176, s177, s178, s179, s180, s181, s182, s183, s184, s185, s186, s187, s188, s189, s190, s191, s192, s193, s194, s195, s196, s197, s198, s199, s200, s201, s202, s203, s204, s205, s206, s207, s208, s209, s210, s211, s212, s213, s214, s215, s216, s217, s218, s219, s220, s221, s222, s223, s224, s225, s226, s227, s228, s229, s230, s231, s232, s233, s234, s235, s236, s237, s238, s239, s240, s241, s242], []⟩ w6 := by
  subst hk
  have h1 : ¬ isEmb (K i) := by have hk2 := HK.out; unfold isEmb; omega
  have h2 : ¬ isoB (K i) = true := by have hk2 := HK.out; unfold isoB; rw [decide_eq_true_eq]; omega
  have HES := Lib.hid (show estAt b K p.n (i + 1) = if 0 < e.oi then { e with oi := e.oi - 1 } else if 0 < e.va then { e with st := popI e.st, oe := 0, va := e.va - 1 } else e by
    rw [HST.out]; unfold estStep
    rw [if_neg h1, if_neg h2, if_pos HK.out.symm])
  clear h1 h2
  obtain ⟨e2, he2⟩ : ∃ e2, e2 = estAt b K p.n (i + 1) := ⟨_, rfl⟩
  rw [← he2] at HES HEK2 hJ
  have HDC := Lib.hid (show decB b K p.n i = topB b e2.st by unfold decB; rw [if_pos HK.out.symm, he2])
  have HOU := Lib.hid (show ouE K i = false by have hk2 := HK.out; unfold ouE; rw [decide_eq_false_iff_not]; omega)
  have HCL := Lib.hid (show clE b K p.n i = if 0 ≤ (topB b e2.st).ovr then (topB b e2.st).ovr else K i by
    have hk2 := HK.out
    unfold clE; rw [HOU.out, HDC.out, if_neg (by intro h; rcases h with h | h; exact absurd h (by decide); omega)])
  have HLV := Lib.hid (show lvE b K p.n i = (topB b e2.st).lev by have hk2 := HK.out; unfold lvE; rw [if_neg (by omega), HDC.out])
  clear he2
  have hsl : (Ent.mk lv ov iso :: t).length = T + 1 := by rw [HTL.out]; rfl
  have HROW := Lib.hid (show RowV w6 w.heap.size 60 3 (.slice (some ⟨gs, 0, none⟩) (T + 1) cs) e.st.length (stV b e.st) by rw [HXT.out]; exact HY6.out.st)
  have hel : e.st.length = T + 1 := by rw [HXT.out]; exact hsl
  conv => arg 2; whnf
  go_upto_block 3 with (go_at_call 32; refine (isolate_is (show isoB 22 = false by decide) _).mono ?_; rintro e9 w9 ⟨rfl, rfl⟩)
  go_cut [2, 3, 4, 5] from 143 to 170 (fun sv o oe v wx => o = .int .i64 e2.oi ∧ oe = .int .i64 e2.oe ∧ v = .int .i64 e2.va ∧ wx = w6 ∧ ∃ T2 : Nat, sv = .slice (some ⟨gs, 0, none⟩) T2 cs ∧ T2 = e2.st.length ∧ T2 ≤ T + 1 ∧ RowV w6 w.heap.size 60 3 (.slice (some ⟨gs, 0, none⟩) T2 cs) e2.st.length (stV b e2.st))
  case first =>
    by_cases hoi0 : 0 < oi
    · have HN := Lib.hid (HES.out.trans (if_pos (by rw [← HOI.out]; exact hoi0)))
      have hoi1 : (0 : Int) < (oi : Int) := by omega
      go_wp2_with fail
      go_meet
      refine ⟨by rw [HN.out]; show _ = Value.int .i64 ((e.oi - 1 : Nat) : Int); rw [← HOI.out]; congr 1; omega, by rw [HN.out, HOE.out], by rw [HN.out, HVA.out], rfl, T + 1, rfl, ?_, Nat.le_refl _, ?_⟩
      · rw [HN.out]; exact hel.symm
      · rw [HN.out]; exact HROW.out
    · have HN1 := Lib.hid (HES.out.trans (if_neg (by rw [← HOI.out]; exact hoi0)))
      have hoi1 : ¬ (0 : Int) < (oi : Int) := by omega
      by_cases hva0 : 0 < va
      · have HN := Lib.hid (HN1.out.trans (if_pos (by rw [← HVA.out]; exact hva0)))
        have hva1 : (0 : Int) < (va : Int) := by omega
        have HCT := Lib.hid (show 0 < (e.st.filter (·.iso)).length by rw [← HEK.out.cnt, ← HVA.out]; exact hva0)
        go_wp2_with fail
        go_loopw [2] (fun sv wx => ∃ l1 l2 : List Ent, e.st = l1 ++ l2 ∧ (∀ y, y ∈ l1 → y.iso = false) ∧ sv = .slice (some ⟨gs, 0, none⟩) l2.length cs ∧ wx = w6) (fun sv _ => lenV3 sv)
        case atStart => exact ⟨[], e.st, rfl, by simp, by rw [hel], rfl⟩
        case round =>
          obtain ⟨l1, l2, hl, hno, rfl, hwr⟩ := hrel
          obtain rfl : w6 = wr := hwr.symm
          clear hwr
          cases l2 with
          | nil =>
            exfalso
            have h3 := HCT.out
            rw [hl, List.append_nil, List.filter_eq_nil_iff.2 (fun y hy => by rw [hno y hy]; decide)] at h3
            simp at h3
          | cons y t2 =>
            have hll : l1.length + (t2.length + 1) = T + 1 := by rw [← hel, hl]; simp
            have m2 : w6.cell? ⟨gs, t2.length * 3 + 2, none⟩ = some (.bool y.iso) := by
              have h3 := HROW.out
              rw [hel] at h3
              have h4 := RowV.cellAt h3 (i := t2.length) (j := 2) (by omega) (by omega)
              rw [hl, stV_pre b l1 (y :: t2) (by simp)] at h4
              unfold stV at h4
              rw [stV_last] at h4
              exact h4
            have e1 : ((y :: t2).length : Nat) = t2.length + 1 := by simp
            rw [e1]
            obtain ⟨T2, hT2⟩ : ∃ T2, T2 = t2.length := ⟨_, rfl⟩
            rw [← hT2] at m2 hll ⊢
            have e3 : (T2 : Int) + 1 - 1 = (T2 : Int) := by omega
            have hw9 := IntWalk.i64_in (T2 : Int) (by omega)
            have hTc : (T2 : Int) ≤ (cs : Int) := by omega
            have hTz : (0 : Int) ≤ (T2 : Int) := by omega
            have HLE := Lib.hid hl
            have HNO := Lib.hid hno
            have HT2 := Lib.hid hT2
            clear hl hno e1 hT2
            obtain ⟨yl, yo, yi⟩ := y
            simp only at m2
            cases yi with
            | false =>
              have HNO2 := Lib.hid (show ∀ y, y ∈ l1 ++ [⟨yl, yo, false⟩] → y.iso = false from fun y hy => by
                rcases List.mem_append.1 hy with h | h
                · exact HNO.out y h
                · simp at h; subst h; rfl)
              go_wp2_with fail
              go_roundw
              case rel => exact ⟨l1 ++ [⟨yl, yo, false⟩], t2, by rw [HLE.out]; simp, HNO2.out, by rw [HT2.out], trivial⟩
              case measure => simp [lenV3]
            | true =>
              have HP := Lib.hid (show popI e.st = t2 by rw [HLE.out, popI_app HNO.out, popI, if_pos rfl])
              have HR := Lib.hid (show RowV w6 w.heap.size 60 3 (.slice (some ⟨gs, 0, none⟩) T2 cs) t2.length (stV b t2) by
                have h3 := HROW.out
                rw [hel] at h3
                have h4 := RowV.take h3 (k := T2) (by omega)
                rw [← HT2.out]
                refine h4.congr fun q hq j _ => ?_
                rw [HLE.out, show l1 ++ ⟨yl, yo, true⟩ :: t2 = (l1 ++ [⟨yl, yo, true⟩]) ++ t2 by simp]
                exact stV_pre b _ t2 (by rw [← HT2.out]; exact hq) j)
              go_wp2_with fail
              go_meet
              refine ⟨by rw [HN.out, HOI.out], by rw [HN.out]; rfl, by rw [HN.out]; show _ = Value.int .i64 ((e.va - 1 : Nat) : Int); rw [← HVA.out]; congr 1; omega, rfl, T2, rfl, ?_, by omega, ?_⟩
              · rw [HN.out]; show T2 = (popI e.st).length; rw [HP.out]; exact HT2.out
              · rw [HN.out]; show RowV w6 w.heap.size _ 3 _ (popI e.st).length (stV b (popI e.st)); rw [HP.out]; exact HR.out
      · have HN := Lib.hid (HN1.out.trans (if_neg (by rw [← HVA.out]; exact hva0)))
        have hva1 : ¬ (0 : Int) < (va : Int) := by omega
        go_wp2_with fail
        go_meet
        refine ⟨by rw [HN.out, HOI.out], by rw [HN.out, HOE.out], by rw [HN.out, HVA.out], rfl, T + 1, rfl, ?_, Nat.le_refl _, ?_⟩
        · rw [HN.out]; exact hel.symm
        · rw [HN.out]; exact HROW.out
  case rest =>
  obtain ⟨rfl, rfl, rfl, hw, T2, rfl, hT2, hT2T, hrow⟩ := hcut
  obtain rfl : w6 = wc := hw.symm
  clear hw HROW hel hsl
  obtain ⟨y, t', hyt⟩ : ∃ y t', e2.st = y :: t' := by
    obtain ⟨S, hS⟩ := HEK2.out.low
    cases S with
    | nil => exact ⟨b, [], hS⟩
    | cons y S => exact ⟨y, S ++ [b], hS⟩
  have htop : topB b e2.st = y := by rw [hyt]; rfl
  rw [htop] at HCL HLV
  rw [hyt] at hrow hT2
  obtain ⟨T3, hT3⟩ : ∃ T3, T3 = t'.length := ⟨_, rfl⟩
  have hT23 : T2 = T3 + 1 := by rw [hT2, hT3]; rfl
  subst hT23
  have hrow2 : RowV w6 w.heap.size 60 3 (.slice (some ⟨gs, 0, none⟩) (y :: t').length cs) (y :: t').length (stV b (y :: t')) := by rw [hT2] at hrow; exact hrow
  obtain ⟨m0, m1, m2⟩ := RowV.top hrow2
  rw [← hT3] at m0 m1 m2
  have hyb := HEK2.out.lev y (by rw [hyt]; simp)
  have HYT := Lib.hid hyt
  have HT3 := Lib.hid hT3
  obtain ⟨yl, yo, yi⟩ := y
  simp only at m0 m1 m2 hyb
  have hdif : (Value.slice (some ⟨gs, 0, none⟩) (T3 + 1) cs).ownBlock ≠ some g8 := HXO.out.dif
  have HY2 := Lib.hid (show Yq p b (prt (clE b K p.n) K i) (upd (prt (lvE b K p.n) L0 i) i lv) (prtB (ouE K) (fun _ => false) i) w w6 (.slice (some ⟨gs, 0, none⟩) (T3 + 1) cs) (⟨yl, yo, yi⟩ :: t') g8 ⟨lv, ov, iso⟩ from ⟨HY6.out.pa, hrow, HY6.out.sv, HY6.out.tb⟩)
  have HXO2 := Lib.hid (show XOk p w g8 (.slice (some ⟨gs, 0, none⟩) (T3 + 1) cs) from ⟨HXO.out.low, HXO.out.top, hdif⟩)
  have y0 : w6.cell? ⟨g8, 0, none⟩ = some (.int .i64 lv) := HY6.out.tb.cell (i := 0) rfl
  have y1 : w6.cell? ⟨g8, 1, none⟩ = some (.int .i64 ov) := HY6.out.tb.cell (i := 1) rfl
  have y2 : w6.cell? ⟨g8, 2, none⟩ = some (.bool iso) := HY6.out.tb.cell (i := 2) rfl
  have z0 := HY6.out.tb.frozen 0
  have z1 := HY6.out.tb.frozen 1
  have z2 := HY6.out.tb.frozen 2
  have hT3b : T3 ≤ i := by omega
  have e3 : (T3 : Int) + 1 - 1 = (T3 : Int) := by omega
  have hw9 := IntWalk.i64_in (T3 : Int) (by omega)
  clear hyt htop hT2 hT3 hrow hrow2 hdif HY6 HXO
  go_upto_region 40 with fail
  obtain ⟨w7, hw7⟩ : ∃ w7, w7 = ((w6.setCell ⟨g8, 0, none⟩ (.int .i64 yl)).setCell ⟨g8, 1, none⟩ (.int .i64 yo)).setCell ⟨g8, 2, none⟩ (.bool yi) := ⟨_, rfl⟩
  have HY7 := Lib.hid (show Yq p b (prt (clE b K p.n) K i) (upd (prt (lvE b K p.n) L0 i) i lv) (prtB (ouE K) (fun _ => false) i) w w7 (.slice (some ⟨gs, 0, none⟩) (T3 + 1) cs) (⟨yl, yo, yi⟩ :: t') g8 ⟨yl, yo, yi⟩ by rw [hw7]; exact HY2.out.setT HXO2.out ⟨yl, yo, yi⟩)
  rw [← hw7]
  have y0 : w7.cell? ⟨g8, 0, none⟩ = some (.int .i64 yl) := HY7.out.tb.cell (i := 0) rfl
  have c2 : w7.cell? ⟨p.pz, 2, none⟩ = _ := HY7.out.pa.par.cell (i := 2) rfl
  clear hw7 m0 m1 m2 y1 y2 z0 z1 z2 HY2
  go_wp2_with fail
  go_still_tail 8, (by kernel_rfl)
  change wpList _ _ _ _ _ w7.drew
  obtain ⟨w8, hw8⟩ : ∃ w8, w8 = w7.drew := ⟨_, rfl⟩
  have HY8 := Lib.hid (HY7.out.drew)
  rw [← hw8] at HY8 ⊢
  have z1 := HY8.out.pa.lev.frozen i
  have z2 := HY8.out.pa.lev.cell hin
  clear hw8 y0 c2 HY7
  go_upto_region 41 with fail
  obtain ⟨wa, hwa⟩ : ∃ wa, wa = w8.setCell ⟨p.gl, i, none⟩ (.int .i64 yl) := ⟨_, rfl⟩
  have HYA := Lib.hid (show Yq p b (prt (clE b K p.n) K i) (upd (prt (lvE b K p.n) L0 i) i yl) (prtB (ouE K) (fun _ => false) i) w wa (.slice (some ⟨gs, 0, none⟩) (T3 + 1) cs) (⟨yl, yo, yi⟩ :: t') g8 ⟨yl, yo, yi⟩ by
    rw [hwa]; exact (HY8.out.setL (i := i) OK.out HXO2.out yl).congr (fun _ => rfl) (fun j => upd_upd _ _ _ _ j) (fun _ => rfl))
  rw [← hwa]
  have y0 : wa.cell? ⟨g8, 0, none⟩ = some (.int .i64 yl) := HYA.out.tb.cell (i := 0) rfl
  have y1 : wa.cell? ⟨g8, 1, none⟩ = some (.int .i64 yo) := HYA.out.tb.cell (i := 1) rfl
  have y2 : wa.cell? ⟨g8, 2, none⟩ = some (.bool yi) := HYA.out.tb.cell (i := 2) rfl
  clear hwa z1 z2 HY8
  go_wp2_with fail
  refine (override_any OK.out HYA.out.pa (Save.refl _ _) i hin yl yo yi).mono ?_
  rintro e9 w9 ⟨rfl, hpa, hsv⟩
  have HX9 := Lib.hid (show Xq p b K L0 w w9 (.slice (some ⟨gs, 0, none⟩) (T3 + 1) cs) (i + 1) (⟨yl, yo, yi⟩ :: t') from exAfter HXO2.out HYA.out HT3.out hpa hsv HCL.out HLV.out HOU.out)
  clear hpa hsv y0 y1 y2 HYA
  go_wp2_with fail
  go_meet
  exact ⟨rfl, rfl, rfl, by rw [HYT.out]; exact HX9.out⟩
theorem wp_open {P : Program} {c : Code} {Q : Exit → Act → World → Prop} {a : Act} {w : World} (h : ∀ K : Act → World → Prop, (∀ a w, Q .normal a w → K a w) → Code.wp P c (Exit.then K Q) a w) : Code.wp P c Q a w := by
  have h1 := h (fun a w => Q .normal a w) (fun _ _ h => h)
  have e : Exit.then (fun a w => Q .normal a w) Q = Q := by funext e a w; cases e <;> rfl
  rwa [e] at h1
theorem oddB_21 {K : Nat → Int} {n i : Nat} (h : K i = 21) : oddB K n i = (fst K n true (i + 1) 0 == 1) := by
  unfold oddB
  rw [Bool.eq_iff_iff]
  simp [h]
theorem oddB_yes {K : Nat → Int} {n i : Nat} (h : K i = 15 ∨ K i = 17 ∨ K i = 20) : oddB K n i = true := by
  unfold oddB; rw [decide_eq_true_eq]; omega
theorem oddB_no {K : Nat → Int} {n i : Nat} (h : ¬ (K i = 15 ∨ K i = 17 ∨ K i = 20)) (h2 : K i ≠ 21) : oddB K n i = false := by
  unfold oddB; rw [decide_eq_false_iff_not]; omega
/-- what explicit leaves -/
def ExPost (p : PaP) (K : Nat → Int) (w : World) (e : Ending) (w' : World) : Prop :=
  e = .returned (.tuple #[]) ∧ Pa p (clE ⟨p.base, -1, false⟩ K p.n) (lvE ⟨p.base, -1, false⟩ K p.n) (ouE K) w' ∧ Save p.own w w'
set_option maxHeartbeats 16000000 in
theorem explicit_any (p : PaP) (ok : PaOk p) (K L0 : Nat → Int) (w : World) (h : Pa p K L0 (fun _ => false) w) (hb : p.base = 0 ∨ p.base = 1) :
    Calls Tryd.prog 14 #[.pointer (some ⟨p.pz, 0, none⟩)] w (ExPost p K w) := by
  have OK := Lib.hid ok
  have hn2 := ok.n2
  have c1 : w.cell? ⟨p.pz, 1, none⟩ = _ := h.par.cell (i := 1) rfl
  have c3 : w.cell? ⟨p.pz, 3, none⟩ = _ := h.par.cell (i := 3) rfl
  have hlow : p.pz < w.heap.size ∧ p.gc < w.heap.size ∧ p.gl < w.heap.size ∧ p.go < w.heap.size := ⟨h.par.lt, h.cls.lt, h.lev.lt, h.out.lt⟩
  obtain ⟨b, hbd⟩ : ∃ b : Ent, b = ⟨p.base, -1, false⟩ := ⟨_, rfl⟩
  have HEOK := Lib.hid (fun i => est_ok (b := b) (K := K) (n := p.n) (by rw [hbd]) (by rw [hbd]; show 0 ≤ p.base ∧ p.base ≤ 125; omega) (by rw [hbd]) i)
  have HBD := Lib.hid hbd
  have HIB := Lib.hid (info_parts (show (Tryd.prog.info? 60).map (fun i => (i.zero, i.size, i.bytes)) = some (some (.agg #[.int .i64 0, .int .i64 0, .bool false]), 3, 24) by kernel_rfl))
  have H := Lib.hid h
  have HLOW := Lib.hid hlow
  unfold ExPost
  rw [← hbd]
  clear h ok hbd
  go_enter Tryd.func14, Tryd.ntmps14
  go_upto_region 1 with fail
  obtain ⟨w1, hw1⟩ : ∃ w1, w1 = w.alloc (Obj.cells #[.int .i64 p.base, .int .i64 (-1), .bool false] 60) := ⟨_, rfl⟩
  have HX1 := Lib.hid (show Xq p b K L0 w w1 (.slice (some ⟨w.heap.size, 0, none⟩) 1 1) 0 (estAt b K p.n 0).st by
    rw [hw1]
    refine ⟨(H.out.alloc _).congr (fun i _ => (prt_zero _ _ i).symm) (fun i _ => (prt_zero _ _ i).symm) (fun i _ => (prtB_zero (ouE K) (fun _ => false) i).symm), ?_, (Save.refl _ w).alloc _⟩
    refine ⟨[.int .i64 p.base, .int .i64 (-1), .bool false], ⟨rfl, .inr ⟨w.heap.size, 1, #[.int .i64 p.base, .int .i64 (-1), .bool false], rfl, Nat.le_refl _, by show (w.heap.push _)[_]? = _; simp, Nat.le_refl _, by unfold maxLen; omega, rfl, rfl⟩⟩, fun i hi j hj => ?_⟩
    obtain rfl : i = 0 := by
      have : i < 1 := hi
      omega
    have e : ((estAt b K p.n 0).st).reverse.getD 0 b = b := rfl
    unfold stV
    rw [e, HBD.out]
    match j, hj with
    | 0, _ => rfl
    | 1, _ => rfl
    | 2, _ => rfl)
  have c1' : w1.cell? ⟨p.pz, 1, none⟩ = _ := HX1.out.pa.par.cell (i := 1) rfl
  rw [← hw1]
  obtain ⟨g0, hg0⟩ : ∃ g, g = w.heap.size := ⟨_, rfl⟩
  rw [← hg0] at HX1 ⊢
  clear hw1 H c1 c3 hg0 hlow
  go_wp2_with fail
  go_loopw [2, 3, 4, 5, 24] (fun sv oi oe va iv wr => ∃ i : Nat, iv = .int .i64 i ∧ i ≤ p.n ∧ oi = .int .i64 (estAt b K p.n i).oi ∧ oe = .int .i64 (estAt b K p.n i).oe ∧ va = .int .i64 (estAt b K p.n i).va ∧ Xq p b K L0 w wr sv i (estAt b K p.n i).st) (fun _ _ _ _ iv _ => p.n - (intOf iv).toNat)
  case atStart => exact ⟨0, rfl, by omega, rfl, rfl, rfl, by
    exact HX1.out⟩
  case round =>
    clear HX1 c1'
    obtain ⟨i, rfl, hi, rfl, rfl, rfl, hq⟩ := hrel
    by_cases hin : i < p.n
    · have HST := Lib.hid (show estAt b K p.n (i + 1) = estStep b K p.n i (estAt b K p.n i) by rw [estAt])
      have hek := HEOK.out i
      obtain ⟨e, he⟩ : ∃ e, e = estAt b K p.n i := ⟨_, rfl⟩
      rw [← he] at HST hek hq ⊢
      have HE := Lib.hid he
      clear he
      obtain ⟨oi, oe, va, hoi, hoe, hva⟩ : ∃ oi oe va : Nat, oi = e.oi ∧ oe = e.oe ∧ va = e.va := ⟨_, _, _, rfl, rfl, rfl⟩
      rw [← hoi, ← hoe, ← hva]
      obtain ⟨x, t, hxt⟩ : ∃ x t, e.st = x :: t := by
        obtain ⟨S, hS⟩ := hek.low
        cases S with
        | nil => exact ⟨b, [], hS⟩
        | cons y S => exact ⟨y, S ++ [b], hS⟩
      rw [hxt] at hq
      have hxm := hek.lev x (by rw [hxt]; simp)
      have hxo := hek.ovr x (by rw [hxt]; simp)
      have HEK := Lib.hid hek
      have HOI := Lib.hid hoi
      have HOE := Lib.hid hoe
      have HVA := Lib.hid hva
      have HXT := Lib.hid hxt
      obtain ⟨lv, ov, iso⟩ := x
      simp only at hxm hxo
      obtain ⟨gs, cs, hsv, hgs, hgl, hsc1, hsc2, hsf, _⟩ := RowV.at hq.st (by simp)
      subst hsv
      obtain ⟨m0, m1, m2⟩ := RowV.top hq.st
      simp only at m0 m1 m2
      have hsl : (Ent.mk lv ov iso :: t).length = t.length + 1 := by simp
      rw [hsl] at hsc1
      obtain ⟨T, hT⟩ : ∃ T, T = t.length := ⟨_, rfl⟩
      rw [hsl, ← hT]
      rw [← hT] at hsc1 m0 m1 m2
      have HTL := Lib.hid hT
      have HX := Lib.hid hq
      have d0 := hq.pa.cls.cell hin
      rw [prt_ge (Nat.le_refl _)] at d0
      obtain ⟨k, hk⟩ : ∃ k, k = K i := ⟨_, rfl⟩
      rw [← hk] at d0
      have HK := Lib.hid hk
      have hTs : T + 1 ≤ i + 1 := by
        have := hek.len
        rw [hxt, hsl, ← hT] at this
        exact this
      have hoib : oi ≤ i := by have := hek.oi; omega
      have hoeb : oe ≤ i := by have := hek.oe; omega
      have hvab : va ≤ i := by have := hek.va; omega
      clear hq hoi hoe hva hxt hsl hT hk hek hsf
      obtain ⟨wz, hwz⟩ : ∃ wz, wz = wr.alloc (Obj.cells #[.int .i64 lv, .int .i64 ov, .bool iso] 60) := ⟨_, rfl⟩
      have e1 : (T : Int) + 1 - 1 = (T : Int) := by omega
      have hw9 := IntWalk.i64_in (T : Int) (by omega)
      go_upto_region 7 with fail
      have HY := Lib.hid (show Yq p b (prt (clE b K p.n) K i) (prt (lvE b K p.n) L0 i) (prtB (ouE K) (fun _ => false) i) w wz (.slice (some ⟨gs, 0, none⟩) (T + 1) cs) (⟨lv, ov, iso⟩ :: t) wr.heap.size ⟨lv, ov, iso⟩ by
        rw [hwz]
        have h1 := HX.out
        rw [show (Ent.mk lv ov iso :: t).length = T + 1 by rw [HTL.out]; rfl] at h1
        exact ⟨h1.pa.alloc _, h1.st.below ((Below.refl _ _).alloc (Nat.le_refl _) _) (Nat.le_refl _), h1.sv.alloc _, Blk.new _ _ _⟩)
      have HXO := Lib.hid (show XOk p w wr.heap.size (.slice (some ⟨gs, 0, none⟩) (T + 1) cs) from ⟨HLOW.out, HX.out.sv.size, fun e => by simp [Value.ownBlock] at e; omega⟩)
      have c1 : wz.cell? ⟨p.pz, 1, none⟩ = _ := HY.out.pa.par.cell (i := 1) rfl
      have HFI := Lib.hid (first_any p.n p.gc p.n (i + 1) true _ wz HY.out.pa.cls (by omega) (by omega) (Nat.le_refl _) (by omega))
      rw [fst_congr (K' := K) (p.n - (i + 1)) (i + 1) 0 rfl (fun j h1 h2 => prt_ge (by omega))] at HFI
      have hw8 := IntWalk.i64_in ((i : Int) + 1) (by omega)
      obtain ⟨od, hod⟩ : ∃ od, od = oddB K p.n i := ⟨_, rfl⟩
      have HOD := Lib.hid hod
      rw [← hwz]
      obtain ⟨g8, hg8⟩ : ∃ g, g = wr.heap.size := ⟨_, rfl⟩
      rw [← hg8] at HY HXO ⊢
      have hg8z : g8 < wz.heap.size := HY.out.tb.lt
      clear hwz hg8 hod HX d0 m0 m1 m2 e1 hw9 hgl
      go_cut [58] from 35 to 58 (fun v wx => v = .bool od ∧ wx = wz)
      case first =>
        by_cases k15 : k = 15 ∨ k = 17 ∨ k = 20
        · have HO := Lib.hid (show od = true by rw [HOD.out]; exact oddB_yes (by rw [← HK.out]; exact k15))
          rcases k15 with rfl | rfl | rfl
          all_goals
            go_wp2_with fail
            go_meet
            exact ⟨by rw [HO.out], rfl⟩
        · have f15 : (k == 15) = false := by simp; omega
          have f17 : (k == 17) = false := by simp; omega
          have f20 : (k == 20) = false := by simp; omega
          by_cases k21 : k = 21
          · have HO := Lib.hid (show od = (fst K p.n true (i + 1) 0 == 1) by rw [HOD.out]; exact oddB_21 (by rw [← HK.out]; exact k21))
            subst k21
            clear k15
            go_wp2_with fail
            refine HFI.out.mono ?_
            rintro e9 w9 ⟨rfl, rfl⟩
            go_wp2_with fail
            go_meet
            exact ⟨by rw [HO.out], rfl⟩
          · have HO := Lib.hid (show od = false by rw [HOD.out]; exact oddB_no (by rw [← HK.out]; exact k15) (by rw [← HK.out]; exact k21))
            have f21 : (k == 21) = false := by simpa using k21
            clear k15 k21
            go_wp2_with fail
            go_meet
            exact ⟨by rw [HO.out], rfl⟩
      case rest =>
      obtain ⟨rfl, hw⟩ := hcut
      obtain rfl : wz = wc := hw.symm
      clear hw HFI
      go_upto_if 58 with fail
      go_cut [9] from 58 to 58 (fun v wx => v = .int .i64 (if od then 1 else 0) ∧ wx = wz)
      case first =>
        cases od with
        | true => (go_wp2_with fail; go_meet; exact ⟨rfl, rfl⟩)
        | false => (go_wp2_with fail; go_meet; exact ⟨rfl, rfl⟩)
      case rest =>
      obtain ⟨rfl, hw⟩ := hcut
      obtain rfl : wz = wc := hw.symm
      clear hw
      have y0 : wz.cell? ⟨g8, 0, none⟩ = some (.int .i64 lv) := HY.out.tb.cell (i := 0) rfl
      have y1 : wz.cell? ⟨g8, 1, none⟩ = some (.int .i64 ov) := HY.out.tb.cell (i := 1) rfl
      have y2 : wz.cell? ⟨g8, 2, none⟩ = some (.bool iso) := HY.out.tb.cell (i := 2) rfl
      have HUP := Lib.hid (up_any lv od wz hxm)
      obtain ⟨o1, ho1⟩ : ∃ o1 : Int, o1 = if od then 1 else 0 := ⟨_, rfl⟩
      rw [← ho1] at HUP ⊢
      clear ho1
      have hur := upB_range (lev := lv) (odd := od)
      obtain ⟨nx, hnx⟩ : ∃ nx, nx = upB lv od := ⟨_, rfl⟩
      rw [← hnx] at HUP hur
      obtain ⟨ft, hft⟩ : ∃ ft, ft = decide (nx ≤ 125 ∧ oi = 0 ∧ oe = 0) := ⟨_, rfl⟩
      have HNX := Lib.hid (show nextB b K p.n i e = nx by unfold nextB; rw [HXT.out, hnx, HOD.out]; rfl)
      have HFT := Lib.hid (show ft = true ↔ fitsB b K p.n i e by rw [hft, decide_eq_true_iff]; unfold fitsB; rw [HNX.out, ← HOI.out, ← HOE.out])
      have HFD := Lib.hid hft
      clear hnx hft
      go_wp2_with fail
      refine HUP.out.mono ?_
      rintro e9 w9 ⟨rfl, rfl⟩
      go_upto_region 10 with fail
      go_cut [11] from 63 to 72 (fun v wx => v = .bool ft ∧ wx = wz)
      case first =>
        by_cases q1 : nx ≤ 125
        · by_cases q2 : oi = 0
          · have g2 : ((oi : Int) == 0) = true := by simp [q2]
            have HO := Lib.hid (show ft = ((oe : Int) == 0) by rw [HFD.out]; rw [Bool.eq_iff_iff]; simp [q1, q2])
            clear q2
            go_wp2_with fail
            go_meet
            exact ⟨by rw [HO.out], rfl⟩
          · have g2 : ((oi : Int) == 0) = false := by simp [q2]
            have HO := Lib.hid (show ft = false by rw [HFD.out]; simp [q2])
            clear q2
            go_wp2_with fail
            go_meet
            exact ⟨by rw [HO.out], rfl⟩
        · have HO := Lib.hid (show ft = false by rw [HFD.out]; simp [q1])
          go_wp2_with fail
          go_meet
          exact ⟨by rw [HO.out], rfl⟩
      case rest =>
      obtain ⟨rfl, hw⟩ := hcut
      obtain rfl : wz = wc := hw.symm
      have c2 : wz.cell? ⟨p.pz, 2, none⟩ = _ := HY.out.pa.par.cell (i := 2) rfl
      clear hw HUP
      go_wp2_with fail
      go_still_tail 8, (by kernel_rfl)
      change wpList _ _ _ _ _ wz.drew
      obtain ⟨w5, hw5⟩ : ∃ w5, w5 = wz.drew := ⟨_, rfl⟩
      have hy5 : Yq p b (prt (clE b K p.n) K i) (prt (lvE b K p.n) L0 i) (prtB (ouE K) (fun _ => false) i) w w5 (.slice (some ⟨gs, 0, none⟩) (T + 1) cs) (⟨lv, ov, iso⟩ :: t) g8 ⟨lv, ov, iso⟩ := by rw [hw5]; exact HY.out.drew
      have HY5 := Lib.hid hy5
      have z1 := hy5.pa.lev.frozen i
      have z2 := hy5.pa.lev.cell hin
      rw [← hw5]
      clear hw5 hy5 c1 c2 y0 y1 y2 HY hg8z
      go_upto_block 2 with fail
      obtain ⟨w6, hw6⟩ : ∃ w6, w6 = w5.setCell ⟨p.gl, i, none⟩ (.int .i64 lv) := ⟨_, rfl⟩
      have HY6 := Lib.hid (show Yq p b (prt (clE b K p.n) K i) (upd (prt (lvE b K p.n) L0 i) i lv) (prtB (ouE K) (fun _ => false) i) w w6 (.slice (some ⟨gs, 0, none⟩) (T + 1) cs) (⟨lv, ov, iso⟩ :: t) g8 ⟨lv, ov, iso⟩ by rw [hw6]; exact HY5.out.setL OK.out HXO.out lv)
      rw [← hw6]
      clear hw6 HY5 z1 z2
      have HEK2 := Lib.hid (HEOK.out (i + 1))
      have hnxb : 0 ≤ nx ∧ nx ≤ 1000 := by omega
      refine wp_open (fun K0 hK0 => ?_)
      go_cut [2, 3, 4, 5, 12] from 81 to 241 (fun sv o oe v _ wx => o = .int .i64 (estAt b K p.n (i + 1)).oi ∧ oe = .int .i64 (estAt b K p.n (i + 1)).oe ∧ v = .int .i64 (estAt b K p.n (i + 1)).va ∧ Xq p b K L0 w wx sv (i + 1) (estAt b K p.n (i + 1)).st)
      case first =>
        by_cases k1 : k = 14
        · exact exE14 OK HEK HEK2 HXT HOI HOE HVA HNX HFT HK HE HST HTL HBD HXO HY6 hin hn2 hTs hoib hoeb hvab hxm hxo hsc1 hsc2 hnxb hb k1 (Lib.hid fun _ _ _ _ hd h => ⟨hd.symm.trans h.1, h.2⟩) (by assumption) (by assumption)
        by_cases k2 : k = 15
        · exact exE15 OK HEK HEK2 HXT HOI HOE HVA HNX HFT HK HE HST HTL HBD HXO HY6 hin hn2 hTs hoib hoeb hvab hxm hxo hsc1 hsc2 hnxb hb k2 (Lib.hid fun _ _ _ _ hd h => ⟨hd.symm.trans h.1, h.2⟩) (by assumption) (by assumption)
        by_cases k3 : k = 16
        · exact exE16 OK HEK HEK2 HXT HOI HOE HVA HNX HFT HK HE HST HTL HBD HXO HY6 hin hn2 hTs hoib hoeb hvab hxm hxo hsc1 hsc2 hnxb hb k3 (Lib.hid fun _ _ _ _ hd h => ⟨hd.symm.trans h.1, h.2⟩) (by assumption) (by assumption)
        by_cases k4 : k = 17
        · exact exE17 OK HEK HEK2 HXT HOI HOE HVA HNX HFT HK HE HST HTL HBD HXO HY6 hin hn2 hTs hoib hoeb hvab hxm hxo hsc1 hsc2 hnxb hb k4 (Lib.hid fun _ _ _ _ hd h => ⟨hd.symm.trans h.1, h.2⟩) (by assumption) (by assumption)
        by_cases k5 : k = 18
        · exact exPdf OK HEK HEK2 HXT HOI HOE HVA HNX HFT HK HE HST HTL HBD HXO HY6 hin hn2 hTs hoib hoeb hvab hxm hxo hsc1 hsc2 hnxb hb k5 (Lib.hid fun _ _ _ _ hd h => ⟨hd.symm.trans h.1, h.2⟩) (by assumption) (by assumption)
        by_cases k6 : k = 22
        · exact exPdi OK HEK HEK2 HXT HOI HOE HVA HNX HFT HK HE HST HTL HBD HXO HY6 hin hn2 hTs hoib hoeb hvab hxm hxo hsc1 hsc2 hnxb hb k6 (Lib.hid fun _ _ _ _ hd h => ⟨hd.symm.trans h.1, h.2⟩) (by assumption) (by assumption)
        by_cases k7 : k = 9
        · exact exBN9 OK HEK HEK2 HXT HOI HOE HVA HNX HFT HK HE HST HTL HBD HXO HY6 hin hn2 hTs hoib hoeb hvab hxm hxo hsc1 hsc2 hnxb hb k7 (Lib.hid fun _ _ _ _ hd h => ⟨hd.symm.trans h.1, h.2⟩) (by assumption) (by assumption)
        by_cases k8 : k = 10
        · exact exB10 OK HEK HEK2 HXT HOI HOE HVA HNX HFT HK HE HST HTL HBD HXO HY6 hin hn2 hTs hoib hoeb hvab hxm hxo hsc1 hsc2 hnxb hb k8 (Lib.hid fun _ _ _ _ hd h => ⟨hd.symm.trans h.1, h.2⟩) (by assumption) (by assumption)
        by_cases k9 : 19 ≤ k ∧ k ≤ 21
        · exact exIso OK HEK HEK2 HXT HOI HOE HVA HNX HFT HK HE HST HTL HBD HXO HY6 hin hn2 hTs hoib hoeb hvab hxm hxo hsc1 hsc2 hnxb hb k9 (Lib.hid fun _ _ _ _ hd h => ⟨hd.symm.trans h.1, h.2⟩) (by assumption) (by assumption)
        exact exOther OK HEK HEK2 HXT HOI HOE HVA HNX HFT HK HE HST HTL HBD HXO HY6 hin hn2 hTs hoib hoeb hvab hxm hxo hsc1 hsc2 hnxb hb (by omega) (Lib.hid fun _ _ _ _ hd h => ⟨hd.symm.trans h.1, h.2⟩) (by assumption) (by assumption)
      case rest =>
      obtain ⟨rfl, rfl, rfl, hx⟩ := hcut
      have HXX := Lib.hid hx
      clear hx HY6
      refine hK0 _ _ ?_
      clear hK0 K0
      simp only [Exit.inBlock, Exit.then]
      go_wp2_with fail
      go_roundw
      case rel => exact ⟨i + 1, by go_num, by omega, rfl, rfl, rfl, HXX.out⟩
      case measure => simp [intOf]; omega
    · obtain rfl : i = p.n := by omega
      go_wp2_with fail
      first | go_end0 | (simp only [Exit.inBlock, Exit.then]; refine bodyPost_ret (results_none rfl _ _ _) rfl ?_) | refine bodyPost_ret (results_none rfl _ _ _) rfl ?_
      exact ⟨rfl, hq.pa.congr (fun j hj => prt_lt hj) (fun j hj => prt_lt hj) (fun j hj => prtB_lt hj), hq.sv⟩
end Go.Proofs.YtojbicdmcodgdaaDoor.BD
namespace Go.Law.Bd
open Go Go.Law Go.RowKit
set_option linter.unusedVariables false
theorem bel_cell3 {w w' : World} {a : Addr} {v : Value} (h : Below w.heap.size w w') (hc : w.cell? a = some v) : w'.cell? a = some v := (h.cell (lt_of_cell hc)).trans hc
/-- a row of places -/
def plF (s : List Nat) : Nat → Int := fun t => (s.getD t 0 : Nat)
/-- the slice value v owns the slice values I, and these own the rows of places R -/
structure NsI (w : World) (base : Nat) (v : Value) (R : List (List Nat)) (I : Nat → Value) : Prop where
  out : RowV w base 22 1 v R.length (fun i _ => I i)
  inn : ∀ k, k < R.length → RowI w base 3 1 (I k) (rnG R k).length (plF (rnG R k))
section
variable {w w1 w' : World} {base : Nat} {v v' u' : Value} {R : List (List Nat)} {I : Nat → Value} {O : Nat → Bool} {n i k : Nat} {o : Obj} {xs : List Value}
theorem rowI_obj3 {e : TypeId} {s n : Nat} {F : Nat → Int} (h : RowI w base e s v n F) {k : Nat} (hk : v.ownBlock = some k) : ∃ cs, w.heap[k]? = some (.cells cs e (0, 0)) := by
  obtain ⟨_, ⟨_, ⟨rfl, _⟩ | ⟨g, cap, cur, rfl, _, hg, _⟩⟩, _⟩ := h
  · simp [Value.ownBlock] at hk
  · simp [Value.ownBlock] at hk; subst hk; exact ⟨cur, hg⟩
theorem rowI_lt3 {e : TypeId} {s n : Nat} {F : Nat → Int} (h : RowI w base e s v n F) {k : Nat} (hk : v.ownBlock = some k) : k < w.heap.size := by
  obtain ⟨c, hc⟩ := rowI_obj3 h hk
  exact (Array.getElem?_eq_some_iff.1 hc).1
theorem rowIV_ne {e e' : TypeId} {s s' n n' : Nat} {F : Nat → Int} {V : Nat → Nat → Value} {base' : Nat} (h : RowI w base e s v n F) (h' : RowV w base' e' s' v' n' V) (hne : e ≠ e') {k : Nat} (hk : v.ownBlock = some k) : v'.ownBlock ≠ some k := by
  intro h2
  obtain ⟨c1, e1⟩ := rowI_obj3 h hk
  obtain ⟨c2, e2⟩ := h'.obj h2
  rw [e1] at e2
  injection e2 with e3
  injection e3 with _ e4
  exact hne e4
theorem rowI_blk {e e' : TypeId} {s n : Nat} {F : Nat → Int} (h : RowI w base e s v n F) {q : Nat} {cs : Array Value} (hq : Blk w q cs e') (hne : e ≠ e') : v.ownBlock ≠ some q := by
  intro h2
  obtain ⟨c1, e1⟩ := rowI_obj3 h h2
  unfold Blk at hq
  rw [hq] at e1
  injection e1 with e3
  injection e3 with _ e4
  exact hne e4.symm
theorem NsI.nil (w : World) (base : Nat) (I : Nat → Value) : NsI w base (.slice none 0 0) [] I := ⟨RowV.nil _ _ _ _ _, fun k hk => by simp at hk⟩
theorem NsI.under {B : Nat} (h : NsI w base v R I) (hb : Below B w w') (hB : w.heap.size ≤ B) : NsI w' base v R I := ⟨h.out.below hb hB, fun k hk => (h.inn k hk).below hb hB⟩
theorem NsI.drewN (h : NsI w base v R I) (q : Nat) : NsI (w.drewN q) base v R I := ⟨h.out.block fun _ _ => rfl, fun k hk => (h.inn k hk).drewN q⟩
/-- the head of a run, in memory -/
theorem NsI.head (h : NsI w base v R I) (ok : RnsOk O n R) (hk : k < R.length) {g : Nat} (hg : (I k).ownBlock = some g) : w.cell? ⟨g, 0, none⟩ = some (.int .i64 ((rnG R k).headD 0 : Nat)) := by
  have hne := rn_in ok hk
  have hl : 0 < (rnG R k).length := List.length_pos_iff.2 hne
  obtain ⟨g', cap, hv, _, _, _, _, _, hc⟩ := RowI.at (h.inn k hk) hl
  rw [hv] at hg
  simp [Value.ownBlock] at hg
  subst hg
  rw [hc 0 (by omega)]
  unfold plF
  cases hr : rnG R k with
  | nil => exact absurd hr hne
  | cons a t => rfl
/-- runs lie in different blocks -/
theorem NsI.dif (h : NsI w base v R I) (ok : RnsOk O n R) {j : Nat} (hj : j < R.length) (hk : k < R.length) (hne : j ≠ k) {g : Nat} (hg : (I k).ownBlock = some g) : (I j).ownBlock ≠ some g := by
  intro e
  have h1 := h.head ok hj e
  have h2 := h.head ok hk hg
  rw [h1] at h2
  have h3 : (rnG R j).headD 0 = (rnG R k).headD 0 := by injection h2 with h4; injection h4 with _ h5; omega
  exact hne (rn_heads ok hj hk h3)
/-- the last run grows, and its slice is stored -/
theorem NsI.grow {g cap : Nat} {r : List (List Nat)} {l : List Nat} {x : Nat} (h : NsI w base (.slice (some ⟨g, 0, none⟩) (r ++ [l]).length cap) (r ++ [l]) I) (ok : RnsOk O n (r ++ [l]))
    (hg : (w.alloc o).grownBy w1 (I r.length).ownBlock) (hown : w1.ownsRow base 3 1 u' (l.length + 1) (xs ++ [.int .i64 (x : Nat)])) (hl : xs.length = l.length * 1) (hx : ∀ t, t < l.length * 1 → xs[t]? = some (.int .i64 (plF l t))) :
    NsI (w1.setCell ⟨g, r.length, none⟩ u') base (.slice (some ⟨g, 0, none⟩) (r ++ [l ++ [x]]).length cap) (r ++ [l ++ [x]]) (fun k => if k = r.length then u' else I k) := by
  have ha := h.under (w' := w.alloc o) ((Below.refl _ _).alloc (Nat.le_refl _) _) (Nat.le_refl _)
  have hlen : (r ++ [l]).length = r.length + 1 := by simp
  have hlen2 : (r ++ [l ++ [x]]).length = r.length + 1 := by simp
  have hG : ∀ k, k < r.length → rnG (r ++ [l ++ [x]]) k = rnG (r ++ [l]) k := fun k hk => by
    unfold rnG
    rw [List.getD_eq_getElem?_getD, List.getElem?_append_left hk, List.getD_eq_getElem?_getD, List.getElem?_append_left hk]
  have hG1 : rnG (r ++ [l ++ [x]]) r.length = l ++ [x] := by unfold rnG; rw [List.getD_eq_getElem?_getD, List.getElem?_append_right (Nat.le_refl _)]; simp
  have hnew : RowI w1 base 3 1 u' (l ++ [x]).length (plF (l ++ [x])) := by
    rw [show (l ++ [x]).length = l.length + 1 by simp]
    refine RowI.push hown hl hx (fun j hj => ?_) (fun t ht => ?_)
    · obtain rfl : j = 0 := by omega
      unfold plF
      rw [Nat.mul_one, Nat.add_zero, List.getD_eq_getElem?_getD, List.getElem?_append_right (Nat.le_refl _)]; simp
    · unfold plF
      rw [List.getD_eq_getElem?_getD, List.getD_eq_getElem?_getD, List.getElem?_append_left (by omega)]
  have hout : RowV w1 base 22 1 (.slice (some ⟨g, 0, none⟩) (r.length + 1) cap) (r.length + 1) (fun i _ => I i) := by
    have h1 := ha.out
    rw [hlen] at h1
    refine h1.block fun b hb => hg.block b (h1.lt hb) (fun e => ?_)
    exact rowIV_ne (ha.inn r.length (by omega)) ha.out (by decide) e.symm (by rw [hlen]; exact hb)
  have hinn : ∀ k, k < r.length → RowI w1 base 3 1 (I k) (rnG (r ++ [l]) k).length (plF (rnG (r ++ [l]) k)) := fun k hk => by
    have h1 := ha.inn k (by omega)
    refine h1.block fun b hb => hg.block b (rowI_lt3 h1 hb) (fun e => ?_)
    exact ha.dif ok (j := k) (k := r.length) (by omega) (by omega) (by omega) e.symm hb
  have hset := hout.set r.length 0 (by omega) (by omega) u'
  rw [Nat.mul_one, Nat.add_zero] at hset
  have hgo : (Value.slice (some ⟨g, 0, none⟩) (r.length + 1) cap).ownBlock = some g := by simp [Value.ownBlock]
  refine ⟨?_, fun k hk => ?_⟩
  · rw [hlen2]
    refine hset.congr fun a ha2 b hb => ?_
    obtain rfl : b = 0 := by omega
    unfold updV
    by_cases e : a = r.length
    · rw [if_pos ⟨e, rfl⟩, if_pos e]
    · rw [if_neg (fun q => e q.1), if_neg e]
  · rw [hlen2] at hk
    show RowI _ _ _ _ (if k = r.length then u' else I k) _ _
    by_cases e : k = r.length
    · subst e
      rw [if_pos rfl, hG1]
      exact hnew.other (fun q => rowIV_ne hnew hout (by decide) q hgo) _
    · rw [if_neg e, hG k (by omega)]
      have h1 := hinn k (by omega)
      exact h1.other (fun q => rowIV_ne h1 hout (by decide) q hgo) _
/-- a run is put behind -/
theorem NsI.push {r : List (List Nat)} {x : Nat} {g : Nat} (h : NsI w base v r I) (hb : Below w.heap.size w w') (hq : Blk w' g #[.int .i64 (x : Nat)] 3) (hgb : base ≤ g)
    (hg : w'.grownBy w1 v.ownBlock) (hown : w1.ownsRow base 22 1 v' (r.length + 1) (xs ++ [.slice (some ⟨g, 0, none⟩) 1 1])) (hl : xs.length = r.length * 1) (hx : ∀ t, t < r.length → ∀ j, j < 1 → xs[t * 1 + j]? = some (I t)) :
    NsI w1 base v' (r ++ [[x]]) (fun k => if k = r.length then .slice (some ⟨g, 0, none⟩) 1 1 else I k) := by
  have ha := h.under hb (Nat.le_refl _)
  have hG : ∀ k, k < r.length → rnG (r ++ [[x]]) k = rnG r k := fun k hk => by
    unfold rnG
    rw [List.getD_eq_getElem?_getD, List.getElem?_append_left hk, List.getD_eq_getElem?_getD]
  have hG1 : rnG (r ++ [[x]]) r.length = [x] := by unfold rnG; rw [List.getD_eq_getElem?_getD, List.getElem?_append_right (Nat.le_refl _)]; simp
  refine ⟨?_, fun k hk => ?_⟩
  · rw [show (r ++ [[x]]).length = r.length + 1 by simp]
    refine RowV.push hown hl hx (fun j hj => ?_) (fun i hi j _ => ?_)
    · obtain rfl : j = 0 := by omega
      rw [if_pos rfl]; rfl
    · rw [if_neg (by omega)]
  · show RowI _ _ _ _ (if k = r.length then .slice (some ⟨g, 0, none⟩) 1 1 else I k) _ _
    by_cases e : k = r.length
    · subst e
      rw [if_pos rfl, hG1]
      have hblk : Blk w1 g #[.int .i64 (x : Nat)] 3 := by
        refine hq.block (hg.block g hq.lt (fun e => ?_))
        exact ha.out.notblk hq (by decide) e.symm
      refine ⟨[.int .i64 (x : Nat)], ⟨rfl, .inr ⟨g, 1, #[.int .i64 (x : Nat)], rfl, hgb, hblk, Nat.le_refl _, by unfold maxLen; omega, rfl, rfl⟩⟩, fun i hi => ?_⟩
      obtain rfl : i = 0 := by simpa using hi
      rfl
    · rw [if_neg e, hG k (by simp at hk; omega)]
      have h1 := ha.inn k (by simp at hk; omega)
      refine h1.block fun b hb2 => hg.block b (rowI_lt3 h1 hb2) (fun e2 => ?_)
      exact rowIV_ne h1 ha.out (by decide) hb2 e2.symm
end
end Go.Law.Bd
