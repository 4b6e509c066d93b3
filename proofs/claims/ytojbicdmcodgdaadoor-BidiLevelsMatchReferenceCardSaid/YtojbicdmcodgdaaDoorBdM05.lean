/-
  BdExpS, BdExpT.
-/
import Derived.Test.YtojbicdmcodgdaaDoorBdM04
import Derived.Deep.CutRange
import Derived.Deep.CutBlock
namespace Go.Proofs.YtojbicdmcodgdaaDoor.BD
open Go.RowKit Go.Law Go.Law.Bd
set_option linter.unusedVariables false
set_option linter.unusedSimpArgs false
set_option maxRecDepth 100000
/-- behind an override: nothing was put on the stack or taken off -/
theorem exAfter {p : PaP} {b : Ent} {K L0 : Nat → Int} {w w6 w7 : World} {i T gs cs g8 : Nat} {t : List Ent} {lv ov l2 : Int} {iso : Bool} {x : Ent}
    (hxo : XOk p w g8 (.slice (some ⟨gs, 0, none⟩) (T + 1) cs))
    (hy : Yq p b (prt (clE b K p.n) K i) (upd (prt (lvE b K p.n) L0 i) i l2) (prtB (ouE K) (fun _ => false) i) w w6 (.slice (some ⟨gs, 0, none⟩) (T + 1) cs) (x :: t) g8 ⟨lv, ov, iso⟩) (hT : T = t.length)
    (hpa : Pa p (ovC (prt (clE b K p.n) K i) i ov) (upd (prt (lvE b K p.n) L0 i) i l2) (prtB (ouE K) (fun _ => false) i) w7) (hsv : Save p.own w6 w7)
    (hcl : clE b K p.n i = if 0 ≤ ov then ov else K i) (hlv : lvE b K p.n i = l2) (hou : ouE K i = false) :
    Xq p b K L0 w w7 (.slice (some ⟨gs, 0, none⟩) (T + 1) cs) (i + 1) (x :: t) := by
  refine ⟨hpa.congr (fun j _ => ?_) (fun j _ => prt_set _ _ i hlv j) (fun j _ => prtB_same hou j), hy.st.block (fun k hk => hsv.block k (hy.st.lt hk) (fun h => ?_)), hy.sv.trans hsv⟩
  · unfold ovC; exact cl_set rfl hcl j
  · exact hxo.row hy (h.elim (fun e => .inr (.inl e)) (fun h => h.elim (fun e => .inr (.inr (.inl e))) (fun e => .inr (.inr (.inr e))))) hk
set_option maxHeartbeats 8000000 in
theorem exOther {p : PaP} {b : Ent} {K L0 : Nat → Int} {w w6 : World} {i oi oe va T gs cs g8 : Nat} {e : Est} {t : List Ent} {lv ov nx k : Int} {iso ft : Bool}
    (OK : Hid (PaOk p)) (HEK : Hid (EstOk b i e)) (HEK2 : Hid (EstOk b (i + 1) (estAt b K p.n (i + 1)))) (HXT : Hid (e.st = ⟨lv, ov, iso⟩ :: t)) (HOI : Hid (oi = e.oi)) (HOE : Hid (oe = e.oe)) (HVA : Hid (va = e.va)) (HNX : Hid (nextB b K p.n i e = nx)) (HFT : Hid (ft = true ↔ fitsB b K p.n i e))
    (HK : Hid (k = K i)) (HE : Hid (e = estAt b K p.n i)) (HST : Hid (estAt b K p.n (i + 1) = estStep b K p.n i e)) (HTL : Hid (T = t.length)) (HBD : Hid (b = ⟨p.base, -1, false⟩)) (HXO : Hid (XOk p w g8 (.slice (some ⟨gs, 0, none⟩) (T + 1) cs)))
    (HY6 : Hid (Yq p b (prt (clE b K p.n) K i) (upd (prt (lvE b K p.n) L0 i) i lv) (prtB (ouE K) (fun _ => false) i) w w6 (.slice (some ⟨gs, 0, none⟩) (T + 1) cs) (⟨lv, ov, iso⟩ :: t) g8 ⟨lv, ov, iso⟩))
    (hin : i < p.n) (hn2 : p.n ≤ 200) (hTs : T + 1 ≤ i + 1) (hoib : oi ≤ i) (hoeb : oe ≤ i) (hvab : va ≤ i) (hxm : 0 ≤ lv ∧ lv ≤ 125) (hxo : -1 ≤ ov ∧ ov ≤ 1) (hsc1 : T + 1 ≤ cs) (hsc2 : cs ≤ maxLen) (hnxb : 0 ≤ nx ∧ nx ≤ 1000) (hbase : p.base = 0 ∨ p.base = 1) (hk : ¬ (14 ≤ k ∧ k ≤ 22) ∧ k ≠ 9 ∧ k ≠ 10)
    {s1 s9 s12 s13 s14 s15 s16 s17 s18 s19 s20 s21 s22 s23 s24 s25 s26 s27 s28 s29 s30 s31 s32 s33 s34 s35 s36 s37 s38 s39 s40 s41 s42 s43 s44 s45 s46 s47 s48 s49 s50 s51 s52 s53 s54 s55 s56 s57 s58 s59 s60 s61 s62 s63 s64 s65 s66 s67 s68 s69 s70 s71 s72 s73 s74 s75 s76 s77 s78 s79 s80 s81 s82 s83 s84 s85 s86 s87 s88 s89 s90 s91 s92 s93 s94 s95 s96 s97 s98 s99 s100 s101 s102 s103 s104 s105 s106 s107 s108 s109 s110 s111 s112 s113 s114 s115 s116 s117 s118 s119 s120 s121 s122 s123 s124 s125 s126 s127 s128 s129 s130 s131 s132 s133 s134 s135 s136 s137 s138 s139 s140 s141 s142 s143 s144 s145 s146 s147 s148 s149 s150 s151 s152 s153 s154 s155 s156 s157 s158 s159 s160 s161 s162 s163 s164 s165 s166 s167 s168 s169 s170 s171 s172 s173 s174 s175 s176 s177 s178 s179 s180 s181 s182 s183 s184 s185 s186 s187 s188 s189 s190 s191 s192 s193 s194 s195 s196 s197 s198 s199 s200 s201 s202 s203 s204 s205 s206 s207 s208 s209 s210 s211 s212 s213 s214 s215 s216 s217 s218 s219 s220 s221 s222 s223 s224 s225 s226 s227 s228 s229 s230 s231 s232 s233 s234 s235 s236 s237 s238 s239 s240 s241 s242 : Value} {J K' : Act → World → Prop} {Q : Exit → Act → World → Prop}
    (HPQ : Hid (∀ (c : List PanicEntry) (a a' : Act) (w : World), a.defers = a'.defers → Q (.panic c) a w → Q (.panic c) a' w))
    (hJ : ∀ (a' : Act) (w' : World), (∃ u2 u3 u4 u5 u12 u81 u82 u83 u84 u85 u86 u87 u88 u89 u90 u91 u92 u93 u94 u95 u96 u97 u98 u99 u100 u101 u102 u103 u104 u105 u106 u107 u108 u109 u110 u111 u112 u113 u114 u115 u116 u117 u118 u119 u120 u121 u122 u123 u124 u125 u126 u127 u128 u129 u130 u131 u132 u133 u134 u135 u136 u137 u138 u139 u140 u141 u142 u143 u144 u145 u146 u147 u148 u149 u150 u151 u152 u153 u154 u155 u156 u157 u158 u159 u160 u161 u162 u163 u164 u165 u166 u167 u168 u169 u170 u171 u172 u173 u174 u175 u176 u177 u178 u179 u180 u181 u182 u183 u184 u185 u186 u187 u188 u189 u190 u191 u192 u193 u194 u195 u196 u197 u198 u199 u200 u201 u202 u203 u204 u205 u206 u207 u208 u209 u210 u211 u212 u213 u214 u215 u216 u217 u218 u219 u220 u221 u222 u223 u224 u225 u226 u227 u228 u229 u230 u231 u232 u233 u234 u235 u236 u237 u238 u239 u240 u241 : Value, (u3 = .int .i64 (estAt b K p.n (i + 1)).oi ∧ u4 = .int .i64 (estAt b K p.n (i + 1)).oe ∧ u5 = .int .i64 (estAt b K p.n (i + 1)).va ∧ Xq p b K L0 w w' u2 (i + 1) (estAt b K p.n (i + 1)).st) ∧ a' = ⟨#[.pointer (some ⟨p.pz, 0, none⟩), s1, u2, u3, u4, u5, .int .i64 i, .int .i64 k, .pointer (some ⟨g8, 0, none⟩), s9, .int .i64 nx, .bool ft, u12, s13, s14, s15, s16, s17, s18, s19, s20, s21, s22, s23, s24, s25, s26, s27, s28, s29, s30, s31, s32, s33, s34, s35, s36, s37, s38, s39, s40, s41, s42, s43, s44, s45, s46, s47, s48, s49, s50, s51, s52, s53, s54, s55, s56, s57, s58, s59, s60, s61, s62, s63, s64, s65, s66, s67, s68, s69, s70, s71, s72, s73, s74, s75, s76, s77, s78, s79, s80, u81, u82, u83, u84, u85, u86, u87, u88, u89, u90, u91, u92, u93, u94, u95, u96, u97, u98, u99, u100, u101, u102, u103, u104, u105, u106, u107, u108, u109, u110, u111, u112, u113, u114, u115, u116, u117, u118, u119, u120, u121, u122, u123, u124, u125, u126, u127, u128, u129, u130, u131, u132, u133, u134, u135, u136, u137, u138, u139, u140, u141, u142, u143, u144, u145, u146, u147, u148, u149, u150, u151, u152, u153, u154, u155, u156, u157, u158, u159, u160, u161, u162, u163, u164, u165, u166, u167, u168, u169, u170, u171, u172, u173, u174, u175, u176, u177, u178, u179, u180, u181, u182, u183, u184, u185, u186, u187, u188, u189, u190, u191, u192, u193, u194, u195, u196, u197, u198, u199, u200, u201, u202, u203, u204, u205, u206, u207, u208, u209, u210, u211, u212, u213, u214, u215, u216, u217, u218, u219, u220, u221, u222, u223, u224, u225, u226, u227, u228, u229, u230, u231, u232, u233, u234, u235, u236, u237, u238, u239, u240, u241, s242], []⟩) → J a' w')
    (hK : ∀ (a' : Act) (w' : World), Met J a' w' → K' a' w') :
    Code.wp Tryd.prog (theBlk Tryd.f14 2) (Exit.then K' Q) ⟨#[.pointer (some ⟨p.pz, 0, none⟩), s1, .slice (some ⟨gs, 0, none⟩) (T + 1) cs, .int .i64 oi, .int .i64 oe, .int .i64 va, .int .i64 i, .int .i64 k, .pointer (some ⟨g8, 0, none⟩), s9, .int .i64 nx, .bool ft, s12, s13, s14, s15, s16, s17, s18, s19, s20, s21, s22, s23, s24, s25, s26, s27, s28, s29, s30, s31, s32, s33, s34, s35, s36, s37, s38, s39, s40, s41, s42, s43, s44, s45, s46, s47, s48, s49, s50, s51, s52, s53, s54, s55, s56, s57, s58, s59, s60, s61, s62, s63, s64, s65, s66, s67, s68, s69, s70, s71, s72, s73, s74, s75, s76, s77, s78, s79, s80, s81, s82, s83, s84, s85, s86, s87, s88, s89, s90, s91, s92, s93, s94, s95, s96, s97, s98, s99, s100, s101, s102, s103, s104, s105, s106, s107, s108, s109, s110, s111, s112, s113, s114, s115, s116, s117, s118, s119, s120, s121, s122, s123, s124, s125, s126, s127, s128, s129, s130, s131, s132, s133, s134, s135, s136, s137, s138, s139, s140, s141, s142, s143, s144, s145, s146, s147, s148, s149, s150, s151, s152, s153, s154, s155, s156, s157, s158, s159, s160, s161, s162, s163, s164, s165, s166, s167, s168, s169, s170, s171, s172, s173, s174, s175, s176, s177, s178, s179, s180, s181, s182, s183, s184, s185, s186, s187, s188, s189, s190, s191, s192, s193, s194, s195, s196, s197, s198, s199, s200, s201, s202, s203, s204, s205, s206, s207, s208, s209, s210, s211, s212, s213, s214, s215, s216, s217, s218, s219, s220, s221, s222, s223, s224, s225, s226, s227, s228, s229, s230, s231, s232, s233, s234, s235, s236, s237, s238, s239, s240, s241, s242], []⟩ w6 := by
  have HES := Lib.hid (show estAt b K p.n (i + 1) = e by
    have hk2 := HK.out
    have h1 : ¬ isEmb (K i) := by unfold isEmb; omega
    have h2 : ¬ isoB (K i) = true := by unfold isoB; rw [decide_eq_true_eq]; omega
    rw [HST.out]; unfold estStep
    rw [if_neg h1, if_neg h2, if_neg (by omega), if_neg (by omega)])
  have HDC := Lib.hid (show decB b K p.n i = ⟨lv, ov, iso⟩ by
    have hk2 := HK.out
    unfold decB; rw [if_neg (by omega), ← HE.out, HXT.out]; rfl)
  have HOU := Lib.hid (show ouE K i = false by have hk2 := HK.out; unfold ouE; rw [decide_eq_false_iff_not]; omega)
  have HCL := Lib.hid (show clE b K p.n i = if 0 ≤ ov then ov else K i by
    have hk2 := HK.out
    unfold clE; rw [HOU.out, HDC.out, if_neg (by intro h; rcases h with h | h; exact absurd h (by decide); omega)])
  have HLV := Lib.hid (show lvE b K p.n i = lv by have hk2 := HK.out; unfold lvE; rw [if_neg (by omega), HDC.out])
  have f14 : (k == 14) = false := by simp; omega
  have f15 : (k == 15) = false := by simp; omega
  have f16 : (k == 16) = false := by simp; omega
  have f17 : (k == 17) = false := by simp; omega
  have f18 : (k == 18) = false := by simp; omega
  have f22 : (k == 22) = false := by simp; omega
  have f9 : (k == 9) = false := by simp; omega
  have f10 : (k == 10) = false := by simp; omega
  have HIS := Lib.hid (show isoB k = false by unfold isoB; rw [decide_eq_false_iff_not]; omega)
  clear hk
  have y0 : w6.cell? ⟨g8, 0, none⟩ = some (.int .i64 lv) := HY6.out.tb.cell (i := 0) rfl
  have y1 : w6.cell? ⟨g8, 1, none⟩ = some (.int .i64 ov) := HY6.out.tb.cell (i := 1) rfl
  have y2 : w6.cell? ⟨g8, 2, none⟩ = some (.bool iso) := HY6.out.tb.cell (i := 2) rfl
  conv => arg 2; whnf
  go_wp2_with fail
  refine (isolate_is HIS.out _).mono ?_
  rintro e9 w9 ⟨rfl, rfl⟩
  go_wp2_with fail
  refine (override_any OK.out HY6.out.pa (Save.refl _ _) i hin lv ov iso).mono ?_
  rintro e9 w7 ⟨rfl, hpa, hsv⟩
  have HX7 := Lib.hid (show Xq p b K L0 w w7 (.slice (some ⟨gs, 0, none⟩) (T + 1) cs) (i + 1) (estAt b K p.n (i + 1)).st by
    rw [HES.out, HXT.out]
    exact exAfter HXO.out HY6.out HTL.out hpa hsv HCL.out HLV.out HOU.out)
  clear hpa hsv y0 y1 y2 HY6
  go_wp2_with fail
  go_meet
  exact ⟨by rw [HES.out, HOI.out], by rw [HES.out, HOE.out], by rw [HES.out, HVA.out], HX7.out⟩
set_option maxHeartbeats 8000000 in
theorem exB10 {p : PaP} {b : Ent} {K L0 : Nat → Int} {w w6 : World} {i oi oe va T gs cs g8 : Nat} {e : Est} {t : List Ent} {lv ov nx k : Int} {iso ft : Bool}
    (OK : Hid (PaOk p)) (HEK : Hid (EstOk b i e)) (HEK2 : Hid (EstOk b (i + 1) (estAt b K p.n (i + 1)))) (HXT : Hid (e.st = ⟨lv, ov, iso⟩ :: t)) (HOI : Hid (oi = e.oi)) (HOE : Hid (oe = e.oe)) (HVA : Hid (va = e.va)) (HNX : Hid (nextB b K p.n i e = nx)) (HFT : Hid (ft = true ↔ fitsB b K p.n i e))
    (HK : Hid (k = K i)) (HE : Hid (e = estAt b K p.n i)) (HST : Hid (estAt b K p.n (i + 1) = estStep b K p.n i e)) (HTL : Hid (T = t.length)) (HBD : Hid (b = ⟨p.base, -1, false⟩)) (HXO : Hid (XOk p w g8 (.slice (some ⟨gs, 0, none⟩) (T + 1) cs)))
    (HY6 : Hid (Yq p b (prt (clE b K p.n) K i) (upd (prt (lvE b K p.n) L0 i) i lv) (prtB (ouE K) (fun _ => false) i) w w6 (.slice (some ⟨gs, 0, none⟩) (T + 1) cs) (⟨lv, ov, iso⟩ :: t) g8 ⟨lv, ov, iso⟩))
    (hin : i < p.n) (hn2 : p.n ≤ 200) (hTs : T + 1 ≤ i + 1) (hoib : oi ≤ i) (hoeb : oe ≤ i) (hvab : va ≤ i) (hxm : 0 ≤ lv ∧ lv ≤ 125) (hxo : -1 ≤ ov ∧ ov ≤ 1) (hsc1 : T + 1 ≤ cs) (hsc2 : cs ≤ maxLen) (hnxb : 0 ≤ nx ∧ nx ≤ 1000) (hbase : p.base = 0 ∨ p.base = 1) (hk : k = 10)
    {s1 s9 s12 s13 s14 s15 s16 s17 s18 s19 s20 s21 s22 s23 s24 s25 s26 s27 s28 s29 s30 s31 s32 s33 s34 s35 s36 s37 s38 s39 s40 s41 s42 s43 s44 s45 s46 s47 s48 s49 s50 s51 s52 s53 s54 s55 s56 s57 s58 s59 s60 s61 s62 s63 s64 s65 s66 s67 s68 s69 s70 s71 s72 s73 s74 s75 s76 s77 s78 s79 s80 s81 s82 s83 s84 s85 s86 s87 s88 s89 s90 s91 s92 s93 s94 s95 s96 s97 s98 s99 s100 s101 s102 s103 s104 s105 s106 s107 s108 s109 s110 s111 s112 s113 s114 s115 s116 s117 s118 s119 s120 s121 s122 s123 s124 s125 s126 s127 s128 s129 s130 s131 s132 s133 s134 s135 s136 s137 s138 s139 s140 s141 s142 s143 s144 s145 s146 s147 s148 s149 s150 s151 s152 s153 s154 s155 s156 s157 s158 s159 s160 s161 s162 s163 s164 s165 s166 s167 s168 s169 s170 s171 s172 s173 s174 s175 s176 s177 s178 s179 s180 s181 s182 s183 s184 s185 s186 s187 s188 s189 s190 s191 s192 s193 s194 s195 s196 s197 s198 s199 s200 s201 s202 s203 s204 s205 s206 s207 s208 s209 s210 s211 s212 s213 s214 s215 s216 s217 s218 s219 s220 s221 s222 s223 s224 s225 s226 s227 s228 s229 s230 s231 s232 s233 s234 s235 s236 s237 s238 s239 s240 s241 s242 : Value} {J K' : Act → World → Prop} {Q : Exit → Act → World → Prop}
    (HPQ : Hid (∀ (c : List PanicEntry) (a a' : Act) (w : World), a.defers = a'.defers → Q (.panic c) a w → Q (.panic c) a' w))
    (hJ : ∀ (a' : Act) (w' : World), (∃ u2 u3 u4 u5 u12 u81 u82 u83 u84 u85 u86 u87 u88 u89 u90 u91 u92 u93 u94 u95 u96 u97 u98 u99 u100 u101 u102 u103 u104 u105 u106 u107 u108 u109 u110 u111 u112 u113 u114 u115 u116 u117 u118 u119 u120 u121 u122 u123 u124 u125 u126 u127 u128 u129 u130 u131 u132 u133 u134 u135 u136 u137 u138 u139 u140 u141 u142 u143 u144 u145 u146 u147 u148 u149 u150 u151 u152 u153 u154 u155 u156 u157 u158 u159 u160 u161 u162 u163 u164 u165 u166 u167 u168 u169 u170 u171 u172 u173 u174 u175 u176 u177 u178 u179 u180 u181 u182 u183 u184 u185 u186 u187 u188 u189 u190 u191 u192 u193 u194 u195 u196 u197 u198 u199 u200 u201 u202 u203 u204 u205 u206 u207 u208 u209 u210 u211 u212 u213 u214 u215 u216 u217 u218 u219 u220 u221 u222 u223 u224 u225 u226 u227 u228 u229 u230 u231 u232 u233 u234 u235 u236 u237 u238 u239 u240 u241 : Value, (u3 = .int .i64 (estAt b K p.n (i + 1)).oi ∧ u4 = .int .i64 (estAt b K p.n (i + 1)).oe ∧ u5 = .int .i64 (estAt b K p.n (i + 1)).va ∧ Xq p b K L0 w w' u2 (i + 1) (estAt b K p.n (i + 1)).st) ∧ a' = ⟨#[.pointer (some ⟨p.pz, 0, none⟩), s1, u2, u3, u4, u5, .int .i64 i, .int .i64 k, .pointer (some ⟨g8, 0, none⟩), s9, .int .i64 nx, .bool ft, u12, s13, s14, s15, s16, s17, s18, s19, s20, s21, s22, s23, s24, s25, s26, s27, s28, s29, s30, s31, s32, s33, s34, s35, s36, s37, s38, s39, s40, s41, s42, s43, s44, s45, s46, s47, s48, s49, s50, s51, s52, s53, s54, s55, s56, s57, s58, s59, s60, s61, s62, s63, s64, s65, s66, s67, s68, s69, s70, s71, s72, s73, s74, s75, s76, s77, s78, s79, s80, u81, u82, u83, u84, u85, u86, u87, u88, u89, u90, u91, u92, u93, u94, u95, u96, u97, u98, u99, u100, u101, u102, u103, u104, u105, u106, u107, u108, u109, u110, u111, u112, u113, u114, u115, u116, u117, u118, u119, u120, u121, u122, u123, u124, u125, u126, u127, u128, u129, u130, u131, u132, u133, u134, u135, u136, u137, u138, u139, u140, u141, u142, u143, u144, u145, u146, u147, u148, u149, u150, u151, u152, u153, u154, u155, u156, u157, u158, u159, u160, u161, u162, u163, u164, u165, u166, u167, u168, u169, u170, u171, u172, u173, u174, u175, u176, u177, u178, u179, u180, u181, u182, u183, u184, u185, u186, u187, u188, u189, u190, u191, u192, u193, u194, u195, u196, u197, u198, u199, u200, u201, u202, u203, u204, u205, u206, u207, u208, u209, u210, u211, u212, u213, u214, u215, u216, u217, u218, u219, u220, u221, u222, u223, u224, u225, u226, u227, u228, u229, u230, u231, u232, u233, u234, u235, u236, u237, u238, u239, u240, u241, s242], []⟩) → J a' w')
    (hK : ∀ (a' : Act) (w' : World), Met J a' w' → K' a' w') :
    Code.wp Tryd.prog (theBlk Tryd.f14 2) (Exit.then K' Q) ⟨#[.pointer (some ⟨p.pz, 0, none⟩), s1, .slice (some ⟨gs, 0, none⟩) (T + 1) cs, .int .i64 oi, .int .i64 oe, .int .i64 va, .int .i64 i, .int .i64 k, .pointer (some ⟨g8, 0, none⟩), s9, .int .i64 nx, .bool ft, s12, s13, s14, s15, s16, s17, s18, s19, s20, s21, s22, s23, s24, s25, s26, s27, s28, s29, s30, s31, s32, s33, s34, s35, s36, s37, s38, s39, s40, s41, s42, s43, s44, s45, s46, s47, s48, s49, s50, s51, s52, s53, s54, s55, s56, s57, s58, s59, s60, s61, s62, s63, s64, s65, s66, s67, s68, s69, s70, s71, s72, s73, s74, s75, s76, s77, s78, s79, s80, s81, s82, s83, s84, s85, s86, s87, s88, s89, s90, s91, s92, s93, s94, s95, s96, s97, s98, s99, s100, s101, s102, s103, s104, s105, s106, s107, s108, s109, s110, s111, s112, s113, s114, s115, s116, s117, s118, s119, s120, s121, s122, s123, s124, s125, s126, s127, s128, s129, s130, s131, s132, s133, s134, s135, s136, s137, s138, s139, s140, s141, s142, s143, s144, s145, s146, s147, s148, s149, s150, s151, s152, s153, s154, s155, s156, s157, s158, s159, s160, s161, s162, s163, s164, s165, s166, s167, s168, s169, s170, s171, s172, s173, s174, s175, s176, s177, s178, s179, s180, s181, s182, s183, s184, s185, s186, s187, s188, s189, s190, s191, s192, s193, s194, s195, s196, s197, s198, s199, s200, s201, s202, s203, s204, s205, s206, s207, s208, s209, s210, s211, s212, s213, s214, s215, s216, s217, s218, s219, s220, s221, s222, s223, s224, s225, s226, s227, s228, s229, s230, s231, s232, s233, s234, s235, s236, s237, s238, s239, s240, s241, s242], []⟩ w6 := by
  subst hk
  have HES := Lib.hid (show estAt b K p.n (i + 1) = e by
    have hk2 := HK.out
    have h1 : ¬ isEmb (K i) := by unfold isEmb; omega
    have h2 : ¬ isoB (K i) = true := by unfold isoB; rw [decide_eq_true_eq]; omega
    rw [HST.out]; unfold estStep
    rw [if_neg h1, if_neg h2, if_neg (by omega), if_neg (by omega)])
  have HOU := Lib.hid (show ouE K i = false by have hk2 := HK.out; unfold ouE; rw [decide_eq_false_iff_not]; omega)
  have HCL := Lib.hid (show clE b K p.n i = K i by unfold clE; rw [if_pos (.inr HK.out.symm)])
  have HLV := Lib.hid (show lvE b K p.n i = p.base by unfold lvE; rw [if_pos HK.out.symm, HBD.out])
  have c2 : w6.cell? ⟨p.pz, 2, none⟩ = _ := HY6.out.pa.par.cell (i := 2) rfl
  have c3 : w6.cell? ⟨p.pz, 3, none⟩ = _ := HY6.out.pa.par.cell (i := 3) rfl
  conv => arg 2; whnf
  go_wp2_with fail
  refine (isolate_is (show isoB 10 = false by decide) _).mono ?_
  rintro e9 w9 ⟨rfl, rfl⟩
  go_wp2_with fail
  go_still_tail 10, (by kernel_rfl)
  change wpList _ _ _ _ _ w6.drew
  obtain ⟨w7, hw7⟩ : ∃ w7, w7 = w6.drew := ⟨_, rfl⟩
  have HY7 := Lib.hid (HY6.out.drew)
  rw [← hw7] at HY7 ⊢
  have z1 := HY7.out.pa.lev.frozen i
  have z2 := HY7.out.pa.lev.cell hin
  clear hw7 c2 c3 HY6
  go_wp2_with fail
  go_meet
  have h8 := HY7.out.setL (i := i) OK.out HXO.out p.base
  refine ⟨by rw [HES.out, HOI.out], by rw [HES.out, HOE.out], by rw [HES.out, HVA.out], ?_⟩
  rw [HES.out, HXT.out]
  refine ⟨h8.pa.congr (fun j _ => prt_same HCL.out j) (fun j _ => (upd_upd _ _ _ _ j).trans (prt_set _ _ i HLV.out j)) (fun j _ => prtB_same HOU.out j), ?_, h8.sv⟩
  have := h8.st
  exact this
set_option maxHeartbeats 8000000 in
theorem exBN9 {p : PaP} {b : Ent} {K L0 : Nat → Int} {w w6 : World} {i oi oe va T gs cs g8 : Nat} {e : Est} {t : List Ent} {lv ov nx k : Int} {iso ft : Bool}
    (OK : Hid (PaOk p)) (HEK : Hid (EstOk b i e)) (HEK2 : Hid (EstOk b (i + 1) (estAt b K p.n (i + 1)))) (HXT : Hid (e.st = ⟨lv, ov, iso⟩ :: t)) (HOI : Hid (oi = e.oi)) (HOE : Hid (oe = e.oe)) (HVA : Hid (va = e.va)) (HNX : Hid (nextB b K p.n i e = nx)) (HFT : Hid (ft = true ↔ fitsB b K p.n i e))
    (HK : Hid (k = K i)) (HE : Hid (e = estAt b K p.n i)) (HST : Hid (estAt b K p.n (i + 1) = estStep b K p.n i e)) (HTL : Hid (T = t.length)) (HBD : Hid (b = ⟨p.base, -1, false⟩)) (HXO : Hid (XOk p w g8 (.slice (some ⟨gs, 0, none⟩) (T + 1) cs)))
    (HY6 : Hid (Yq p b (prt (clE b K p.n) K i) (upd (prt (lvE b K p.n) L0 i) i lv) (prtB (ouE K) (fun _ => false) i) w w6 (.slice (some ⟨gs, 0, none⟩) (T + 1) cs) (⟨lv, ov, iso⟩ :: t) g8 ⟨lv, ov, iso⟩))
    (hin : i < p.n) (hn2 : p.n ≤ 200) (hTs : T + 1 ≤ i + 1) (hoib : oi ≤ i) (hoeb : oe ≤ i) (hvab : va ≤ i) (hxm : 0 ≤ lv ∧ lv ≤ 125) (hxo : -1 ≤ ov ∧ ov ≤ 1) (hsc1 : T + 1 ≤ cs) (hsc2 : cs ≤ maxLen) (hnxb : 0 ≤ nx ∧ nx ≤ 1000) (hbase : p.base = 0 ∨ p.base = 1) (hk : k = 9)
    {s1 s9 s12 s13 s14 s15 s16 s17 s18 s19 s20 s21 s22 s23 s24 s25 s26 s27 s28 s29 s30 s31 s32 s33 s34 s35 s36 s37 s38 s39 s40 s41 s42 s43 s44 s45 s46 s47 s48 s49 s50 s51 s52 s53 s54 s55 s56 s57 s58 s59 s60 s61 s62 s63 s64 s65 s66 s67 s68 s69 s70 s71 s72 s73 s74 s75 s76 s77 s78 s79 s80 s81 s82 s83 s84 s85 s86 s87 s88 s89 s90 s91 s92 s93 s94 s95 s96 s97 s98 s99 s100 s101 s102 s103 s104 s105 s106 s107 s108 s109 s110 s111 s112 s113 s114 s115 s116 s117 s118 s119 s120 s121 s122 s123 s124 s125 s126 s127 s128 s129 s130 s131 s132 s133 s134 s135 s136 s137 s138 s139 s140 s141 s142 s143 s144 s145 s146 s147 s148 s149 s150 s151 s152 s153 s154 s155 s156 s157 s158 s159 s160 s161 s162 s163 s164 s165 s166 s167 s168 s169 s170 s171 s172 s173 s174 s175 s176 s177 s178 s179 s180 s181 s182 s183 s184 s185 s186 s187 s188 s189 s190 s191 s192 s193 s194 s195 s196 s197 s198 s199 s200 s201 s202 s203 s204 s205 s206 s207 s208 s209 s210 s211 s212 s213 s214 s215 s216 s217 s218 s219 s220 s221 s222 s223 s224 s225 s226 s227 s228 s229 s230 s231 s232 s233 s234 s235 s236 s237 s238 s239 s240 s241 s242 : Value} {J K' : Act → World → Prop} {Q : Exit → Act → World → Prop}
    (HPQ : Hid (∀ (c : List PanicEntry) (a a' : Act) (w : World), a.defers = a'.defers → Q (.panic c) a w → Q (.panic c) a' w))
    (hJ : ∀ (a' : Act) (w' : World), (∃ u2 u3 u4 u5 u12 u81 u82 u83 u84 u85 u86 u87 u88 u89 u90 u91 u92 u93 u94 u95 u96 u97 u98 u99 u100 u101 u102 u103 u104 u105 u106 u107 u108 u109 u110 u111 u112 u113 u114 u115 u116 u117 u118 u119 u120 u121 u122 u123 u124 u125 u126 u127 u128 u129 u130 u131 u132 u133 u134 u135 u136 u137 u138 u139 u140 u141 u142 u143 u144 u145 u146 u147 u148 u149 u150 u151 u152 u153 u154 u155 u156 u157 u158 u159 u160 u161 u162 u163 u164 u165 u166 u167 u168 u169 u170 u171 u172 u173 u174 u175 u176 u177 u178 u179 u180 u181 u182 u183 u184 u185 u186 u187 u188 u189 u190 u191 u192 u193 u194 u195 u196 u197 u198 u199 u200 u201 u202 u203 u204 u205 u206 u207 u208 u209 u210 u211 u212 u213 u214 u215 u216 u217 u218 u219 u220 u221 u222 u223 u224 u225 u226 u227 u228 u229 u230 u231 u232 u233 u234 u235 u236 u237 u238 u239 u240 u241 : Value, (u3 = .int .i64 (estAt b K p.n (i + 1)).oi ∧ u4 = .int .i64 (estAt b K p.n (i + 1)).oe ∧ u5 = .int .i64 (estAt b K p.n (i + 1)).va ∧ Xq p b K L0 w w' u2 (i + 1) (estAt b K p.n (i + 1)).st) ∧ a' = ⟨#[.pointer (some ⟨p.pz, 0, none⟩), s1, u2, u3, u4, u5, .int .i64 i, .int .i64 k, .pointer (some ⟨g8, 0, none⟩), s9, .int .i64 nx, .bool ft, u12, s13, s14, s15, s16, s17, s18, s19, s20, s21, s22, s23, s24, s25, s26, s27, s28, s29, s30, s31, s32, s33, s34, s35, s36, s37, s38, s39, s40, s41, s42, s43, s44, s45, s46, s47, s48, s49, s50, s51, s52, s53, s54, s55, s56, s57, s58, s59, s60, s61, s62, s63, s64, s65, s66, s67, s68, s69, s70, s71, s72, s73, s74, s75, s76, s77, s78, s79, s80, u81, u82, u83, u84, u85, u86, u87, u88, u89, u90, u91, u92, u93, u94, u95, u96, u97, u98, u99, u100, u101, u102, u103, u104, u105, u106, u107, u108, u109, u110, u111, u112, u113, u114, u115, u116, u117, u118, u119, u120, u121, u122, u123, u124, u125, u126, u127, u128, u129, u130, u131, u132, u133, u134, u135, u136, u137, u138, u139, u140, u141, u142, u143, u144, u145, u146, u147, u148, u149, u150, u151, u152, u153, u154, u155, u156, u157, u158, u159, u160, u161, u162, u163, u164, u165, u166, u167, u168, u169, u170, u171, u172, u173, u174, u175, u176, u177, u178, u179, u180, u181, u182, u183, u184, u185, u186, u187, u188, u189, u190, u191, u192, u193, u194, u195, u196, u197, u198, u199, u200, u201, u202, u203, u204, u205, u206, u207, u208, u209, u210, u211, u212, u213, u214, u215, u216, u217, u218, u219, u220, u221, u222, u223, u224, u225, u226, u227, u228, u229, u230, u231, u232, u233, u234, u235, u236, u237, u238, u239, u240, u241, s242], []⟩) → J a' w')
    (hK : ∀ (a' : Act) (w' : World), Met J a' w' → K' a' w') :
    Code.wp Tryd.prog (theBlk Tryd.f14 2) (Exit.then K' Q) ⟨#[.pointer (some ⟨p.pz, 0, none⟩), s1, .slice (some ⟨gs, 0, none⟩) (T + 1) cs, .int .i64 oi, .int .i64 oe, .int .i64 va, .int .i64 i, .int .i64 k, .pointer (some ⟨g8, 0, none⟩), s9, .int .i64 nx, .bool ft, s12, s13, s14, s15, s16, s17, s18, s19, s20, s21, s22, s23, s24, s25, s26, s27, s28, s29, s30, s31, s32, s33, s34, s35, s36, s37, s38, s39, s40, s41, s42, s43, s44, s45, s46, s47, s48, s49, s50, s51, s52, s53, s54, s55, s56, s57, s58, s59, s60, s61, s62, s63, s64, s65, s66, s67, s68, s69, s70, s71, s72, s73, s74, s75, s76, s77, s78, s79, s80, s81, s82, s83, s84, s85, s86, s87, s88, s89, s90, s91, s92, s93, s94, s95, s96, s97, s98, s99, s100, s101, s102, s103, s104, s105, s106, s107, s108, s109, s110, s111, s112, s113, s114, s115, s116, s117, s118, s119, s120, s121, s122, s123, s124, s125, s126, s127, s128, s129, s130, s131, s132, s133, s134, s135, s136, s137, s138, s139, s140, s141, s142, s143, s144, s145, s146, s147, s148, s149, s150, s151, s152, s153, s154, s155, s156, s157, s158, s159, s160, s161, s162, s163, s164, s165, s166, s167, s168, s169, s170, s171, s172, s173, s174, s175, s176, s177, s178, s179, s180, s181, s182, s183, s184, s185, s186, s187, s188, s189, s190, s191, s192, s193, s194, s195, s196, s197, s198, s199, s200, s201, s202, s203, s204, s205, s206, s207, s208, s209, s210, s211, s212, s213, s214, s215, s216, s217, s218, s219, s220, s221, s222, s223, s224, s225, s226, s227, s228, s229, s230, s231, s232, s233, s234, s235, s236, s237, s238, s239, s240, s241, s242], []⟩ w6 := by
  subst hk
  have HES := Lib.hid (show estAt b K p.n (i + 1) = e by
    have hk2 := HK.out
    have h1 : ¬ isEmb (K i) := by unfold isEmb; omega
    have h2 : ¬ isoB (K i) = true := by unfold isoB; rw [decide_eq_true_eq]; omega
    rw [HST.out]; unfold estStep
    rw [if_neg h1, if_neg h2, if_neg (by omega), if_neg (by omega)])
  have HDC := Lib.hid (show decB b K p.n i = ⟨lv, ov, iso⟩ by
    have hk2 := HK.out
    unfold decB; rw [if_neg (by omega), ← HE.out, HXT.out]; rfl)
  have HOU := Lib.hid (show ouE K i = true by have hk2 := HK.out; unfold ouE; rw [decide_eq_true_eq]; omega)
  have HCL := Lib.hid (show clE b K p.n i = K i by unfold clE; rw [if_pos (.inl HOU.out)])
  have HLV := Lib.hid (show lvE b K p.n i = lv by have hk2 := HK.out; unfold lvE; rw [if_neg (by omega), HDC.out])
  have c4 : w6.cell? ⟨p.pz, 4, none⟩ = _ := HY6.out.pa.par.cell (i := 4) rfl
  have z1 := HY6.out.pa.out.frozen i
  have z2 := HY6.out.pa.out.cell hin
  conv => arg 2; whnf
  go_wp2_with fail
  refine (isolate_is (show isoB 9 = false by decide) _).mono ?_
  rintro e9 w9 ⟨rfl, rfl⟩
  go_wp2_with fail
  go_meet
  have h8 := HY6.out.setO (i := i) OK.out HXO.out true
  refine ⟨by rw [HES.out, HOI.out], by rw [HES.out, HOE.out], by rw [HES.out, HVA.out], ?_⟩
  rw [HES.out, HXT.out]
  exact ⟨h8.pa.congr (fun j _ => prt_same HCL.out j) (fun j _ => prt_set _ _ i HLV.out j) (fun j _ => prtB_set _ _ i HOU.out j), h8.st, h8.sv⟩
set_option maxHeartbeats 8000000 in
theorem exPdf {p : PaP} {b : Ent} {K L0 : Nat → Int} {w w6 : World} {i oi oe va T gs cs g8 : Nat} {e : Est} {t : List Ent} {lv ov nx k : Int} {iso ft : Bool}
    (OK : Hid (PaOk p)) (HEK : Hid (EstOk b i e)) (HEK2 : Hid (EstOk b (i + 1) (estAt b K p.n (i + 1)))) (HXT : Hid (e.st = ⟨lv, ov, iso⟩ :: t)) (HOI : Hid (oi = e.oi)) (HOE : Hid (oe = e.oe)) (HVA : Hid (va = e.va)) (HNX : Hid (nextB b K p.n i e = nx)) (HFT : Hid (ft = true ↔ fitsB b K p.n i e))
    (HK : Hid (k = K i)) (HE : Hid (e = estAt b K p.n i)) (HST : Hid (estAt b K p.n (i + 1) = estStep b K p.n i e)) (HTL : Hid (T = t.length)) (HBD : Hid (b = ⟨p.base, -1, false⟩)) (HXO : Hid (XOk p w g8 (.slice (some ⟨gs, 0, none⟩) (T + 1) cs)))
    (HY6 : Hid (Yq p b (prt (clE b K p.n) K i) (upd (prt (lvE b K p.n) L0 i) i lv) (prtB (ouE K) (fun _ => false) i) w w6 (.slice (some ⟨gs, 0, none⟩) (T + 1) cs) (⟨lv, ov, iso⟩ :: t) g8 ⟨lv, ov, iso⟩))
    (hin : i < p.n) (hn2 : p.n ≤ 200) (hTs : T + 1 ≤ i + 1) (hoib : oi ≤ i) (hoeb : oe ≤ i) (hvab : va ≤ i) (hxm : 0 ≤ lv ∧ lv ≤ 125) (hxo : -1 ≤ ov ∧ ov ≤ 1) (hsc1 : T + 1 ≤ cs) (hsc2 : cs ≤ maxLen) (hnxb : 0 ≤ nx ∧ nx ≤ 1000) (hbase : p.base = 0 ∨ p.base = 1) (hk : k = 18)
    {s1 s9 s12 s13 s14 s15 s16 s17 s18 s19 s20 s21 s22 s23 s24 s25 s26 s27 s28 s29 s30 s31 s32 s33 s34 s35 s36 s37 s38 s39 s40 s41 s42 s43 s44 s45 s46 s47 s48 s49 s50 s51 s52 s53 s54 s55 s56 s57 s58 s59 s60 s61 s62 s63 s64 s65 s66 s67 s68 s69 s70 s71 s72 s73 s74 s75 s76 s77 s78 s79 s80 s81 s82 s83 s84 s85 s86 s87 s88 s89 s90 s91 s92 s93 s94 s95 s96 s97 s98 s99 s100 s101 s102 s103 s104 s105 s106 s107 s108 s109 s110 s111 s112 s113 s114 s115 s116 s117 s118 s119 s120 s121 s122 s123 s124 s125 s126 s127 s128 s129 s130 s131 s132 s133 s134 s135 s136 s137 s138 s139 s140 s141 s142 s143 s144 s145 s146 s147 s148 s149 s150 s151 s152 s153 s154 s155 s156 s157 s158 s159 s160 s161 s162 s163 s164 s165 s166 s167 s168 s169 s170 s171 s172 s173 s174 s175 s176 s177 s178 s179 s180 s181 s182 s183 s184 s185 s186 s187 s188 s189 s190 s191 s192 s193 s194 s195 s196 s197 s198 s199 s200 s201 s202 s203 s204 s205 s206 s207 s208 s209 s210 s211 s212 s213 s214 s215 s216 s217 s218 s219 s220 s221 s222 s223 s224 s225 s226 s227 s228 s229 s230 s231 s232 s233 s234 s235 s236 s237 s238 s239 s240 s241 s242 : Value} {J K' : Act → World → Prop} {Q : Exit → Act → World → Prop}
    (HPQ : Hid (∀ (c : List PanicEntry) (a a' : Act) (w : World), a.defers = a'.defers → Q (.panic c) a w → Q (.panic c) a' w))
    (hJ : ∀ (a' : Act) (w' : World), (∃ u2 u3 u4 u5 u12 u81 u82 u83 u84 u85 u86 u87 u88 u89 u90 u91 u92 u93 u94 u95 u96 u97 u98 u99 u100 u101 u102 u103 u104 u105 u106 u107 u108 u109 u110 u111 u112 u113 u114 u115 u116 u117 u118 u119 u120 u121 u122 u123 u124 u125 u126 u127 u128 u129 u130 u131 u132 u133 u134 u135 u136 u137 u138 u139 u140 u141 u142 u143 u144 u145 u146 u147 u148 u149 u150 u151 u152 u153 u154 u155 u156 u157 u158 u159 u160 u161 u162 u163 u164 u165 u166 u167 u168 u169 u170 u171 u172 u173 u174 u175 u176 u177 u178 u179 u180 u181 u182 u183 u184 u185 u186 u187 u188 u189 u190 u191 u192 u193 u194 u195 u196 u197 u198 u199 u200 u201 u202 u203 u204 u205 u206 u207 u208 u209 u210 u211 u212 u213 u214 u215 u216 u217 u218 u219 u220 u221 u222 u223 u224 u225 u226 u227 u228 u229 u230 u231 u232 u233 u234 u235 u236 u237 u238 u239 u240 u241 : Value, (u3 = .int .i64 (estAt b K p.n (i + 1)).oi ∧ u4 = .int .i64 (estAt b K p.n (i + 1)).oe ∧ u5 = .int .i64 (estAt b K p.n (i + 1)).va ∧ Xq p b K L0 w w' u2 (i + 1) (estAt b K p.n (i + 1)).st) ∧ a' = ⟨#[.pointer (some ⟨p.pz, 0, none⟩), s1, u2, u3, u4, u5, .int .i64 i, .int .i64 k, .pointer (some ⟨g8, 0, none⟩), s9, .int .i64 nx, .bool ft, u12, s13, s14, s15, s16, s17, s18, s19, s20, s21, s22, s23, s24, s25, s26, s27, s28, s29, s30, s31, s32, s33, s34, s35, s36, s37, s38, s39, s40, s41, s42, s43, s44, s45, s46, s47, s48, s49, s50, s51, s52, s53, s54, s55, s56, s57, s58, s59, s60, s61, s62, s63, s64, s65, s66, s67, s68, s69, s70, s71, s72, s73, s74, s75, s76, s77, s78, s79, s80, u81, u82, u83, u84, u85, u86, u87, u88, u89, u90, u91, u92, u93, u94, u95, u96, u97, u98, u99, u100, u101, u102, u103, u104, u105, u106, u107, u108, u109, u110, u111, u112, u113, u114, u115, u116, u117, u118, u119, u120, u121, u122, u123, u124, u125, u126, u127, u128, u129, u130, u131, u132, u133, u134, u135, u136, u137, u138, u139, u140, u141, u142, u143, u144, u145, u146, u147, u148, u149, u150, u151, u152, u153, u154, u155, u156, u157, u158, u159, u160, u161, u162, u163, u164, u165, u166, u167, u168, u169, u170, u171, u172, u173, u174, u175, u176, u177, u178, u179, u180, u181, u182, u183, u184, u185, u186, u187, u188, u189, u190, u191, u192, u193, u194, u195, u196, u197, u198, u199, u200, u201, u202, u203, u204, u205, u206, u207, u208, u209, u210, u211, u212, u213, u214, u215, u216, u217, u218, u219, u220, u221, u222, u223, u224, u225, u226, u227, u228, u229, u230, u231, u232, u233, u234, u235, u236, u237, u238, u239, u240, u241, s242], []⟩) → J a' w')
    (hK : ∀ (a' : Act) (w' : World), Met J a' w' → K' a' w') :
    Code.wp Tryd.prog (theBlk Tryd.f14 2) (Exit.then K' Q) ⟨#[.pointer (some ⟨p.pz, 0, none⟩), s1, .slice (some ⟨gs, 0, none⟩) (T + 1) cs, .int .i64 oi, .int .i64 oe, .int .i64 va, .int .i64 i, .int .i64 k, .pointer (some ⟨g8, 0, none⟩), s9, .int .i64 nx, .bool ft, s12, s13, s14, s15, s16, s17, s18, s19, s20, s21, s22, s23, s24, s25, s26, s27, s28, s29, s30, s31, s32, s33, s34, s35, s36, s37, s38, s39, s40, s41, s42, s43, s44, s45, s46, s47, s48, s49, s50, s51, s52, s53, s54, s55, s56, s57, s58, s59, s60, s61, s62, s63, s64, s65, s66, s67, s68, s69, s70, s71, s72, s73, s74, s75, s76, s77, s78, s79, s80, s81, s82, s83, s84, s85, s86, s87, s88, s89, s90, s91, s92, s93, s94, s95, s96, s97, s98, s99, s100, s101, s102, s103, s104, s105, s106, s107, s108, s109, s110, s111, s112, s113, s114, s115, s116, s117, s118, s119, s120, s121, s122, s123, s124, s125, s126, s127, s128, s129, s130, s131, s132, s133, s134, s135, s136, s137, s138, s139, s140, s141, s142, s143, s144, s145, s146, s147, s148, s149, s150, s151, s152, s153, s154, s155, s156, s157, s158, s159, s160, s161, s162, s163, s164, s165, s166, s167, s168, s169, s170, s171, s172, s173, s174, s175, s176, s177, s178, s179, s180, s181, s182, s183, s184, s185, s186, s187, s188, s189, s190, s191, s192, s193, s194, s195, s196, s197, s198, s199, s200, s201, s202, s203, s204, s205, s206, s207, s208, s209, s210, s211, s212, s213, s214, s215, s216, s217, s218, s219, s220, s221, s222, s223, s224, s225, s226, s227, s228, s229, s230, s231, s232, s233, s234, s235, s236, s237, s238, s239, s240, s241, s242], []⟩ w6 := by
  subst hk
  have h1 : ¬ isEmb (K i) := by have hk2 := HK.out; unfold isEmb; omega
  have h2 : ¬ isoB (K i) = true := by have hk2 := HK.out; unfold isoB; rw [decide_eq_true_eq]; omega
  have HES := Lib.hid (show estAt b K p.n (i + 1) = if 0 < e.oi then e else if 0 < e.oe then { e with oe := e.oe - 1 } else if (topB b e.st).iso = false ∧ 1 < e.st.length then { e with st := e.st.tail } else e by
    have hk2 := HK.out
    rw [HST.out]; unfold estStep
    rw [if_neg h1, if_neg h2, if_neg (by omega), if_pos (by omega)])
  clear h1 h2
  have HDC := Lib.hid (show decB b K p.n i = ⟨lv, ov, iso⟩ by
    have hk2 := HK.out
    unfold decB; rw [if_neg (by omega), ← HE.out, HXT.out]; rfl)
  have HOU := Lib.hid (show ouE K i = true by have hk2 := HK.out; unfold ouE; rw [decide_eq_true_eq]; omega)
  have HCL := Lib.hid (show clE b K p.n i = K i by unfold clE; rw [if_pos (.inl HOU.out)])
  have HLV := Lib.hid (show lvE b K p.n i = lv by have hk2 := HK.out; unfold lvE; rw [if_neg (by omega), HDC.out])
  have c4 : w6.cell? ⟨p.pz, 4, none⟩ = _ := HY6.out.pa.par.cell (i := 4) rfl
  have z1 := HY6.out.pa.out.frozen i
  have z2 := HY6.out.pa.out.cell hin
  have h8 := HY6.out.setO (i := i) OK.out HXO.out true
  obtain ⟨w7, hw7⟩ : ∃ w7, w7 = w6.setCell ⟨p.go, i, none⟩ (.bool true) := ⟨_, rfl⟩
  rw [← hw7] at h8
  have HY7 := Lib.hid h8
  have HX7 := Lib.hid (show Xq p b K L0 w w7 (.slice (some ⟨gs, 0, none⟩) (T + 1) cs) (i + 1) (⟨lv, ov, iso⟩ :: t) from
    ⟨h8.pa.congr (fun j _ => prt_same HCL.out j) (fun j _ => prt_set _ _ i HLV.out j) (fun j _ => prtB_set _ _ i HOU.out j), h8.st, h8.sv⟩)
  have y2 : w7.cell? ⟨g8, 2, none⟩ = some (.bool iso) := h8.tb.cell (i := 2) rfl
  clear h8
  conv => arg 2; whnf
  go_upto_block 6 with (go_at_call 32; refine (isolate_is (show isoB 18 = false by decide) _).mono ?_; rintro e9 w9 ⟨rfl, rfl⟩)
  rw [← hw7]
  clear hw7 z1 z2 c4 HY6
  by_cases hoi0 : 0 < oi
  · have HN := Lib.hid (HES.out.trans (if_pos (by rw [← HOI.out]; exact hoi0)))
    have hoi1 : (0 : Int) < (oi : Int) := by omega
    go_wp2_with fail
    go_meet
    exact ⟨by rw [HN.out, HOI.out], by rw [HN.out, HOE.out], by rw [HN.out, HVA.out], by rw [HN.out, HXT.out]; exact HX7.out⟩
  · have HN1 := Lib.hid (HES.out.trans (if_neg (by rw [← HOI.out]; exact hoi0)))
    have hoi1 : ¬ (0 : Int) < (oi : Int) := by omega
    by_cases hoe0 : 0 < oe
    · have HN := Lib.hid (HN1.out.trans (if_pos (by rw [← HOE.out]; exact hoe0)))
      have hoe1 : (0 : Int) < (oe : Int) := by omega
      go_wp2_with fail
      go_meet
      exact ⟨by rw [HN.out, HOI.out], by rw [HN.out]; show _ = Value.int .i64 ((e.oe - 1 : Nat) : Int); rw [← HOE.out]; congr 1; omega, by rw [HN.out, HVA.out], by rw [HN.out]; show Xq p b K L0 w w7 _ (i + 1) e.st; rw [HXT.out]; exact HX7.out⟩
    · have HN2 := Lib.hid (HN1.out.trans (if_neg (by rw [← HOE.out]; exact hoe0)))
      have hoe1 : ¬ (0 : Int) < (oe : Int) := by omega
      have htp : topB b e.st = ⟨lv, ov, iso⟩ := by rw [HXT.out]; rfl
      have hlen : e.st.length = T + 1 := by rw [HXT.out, HTL.out]; rfl
      cases iso with
      | true =>
        have HN := Lib.hid (HN2.out.trans (if_neg (by rw [htp]; intro h; exact absurd h.1 (by simp))))
        clear htp hlen
        go_wp2_with fail
        go_meet
        exact ⟨by rw [HN.out, HOI.out], by rw [HN.out, HOE.out], by rw [HN.out, HVA.out], by rw [HN.out, HXT.out]; exact HX7.out⟩
      | false =>
        by_cases hT0 : 0 < T
        · have HN := Lib.hid (HN2.out.trans (if_pos ⟨by rw [htp], by omega⟩))
          have hT1 : (1 : Int) < (T : Int) + 1 := by omega
          have e1 : (T : Int) + 1 - 1 = (T : Int) := by omega
          have hw9 := IntWalk.i64_in (T : Int) (by omega)
          have hTc : (T : Int) ≤ (cs : Int) := by omega
          have hTz : (0 : Int) ≤ (T : Int) := by omega
          have HC := Lib.hid (show Xq p b K L0 w w7 (.slice (some ⟨gs, 0, none⟩) T cs) (i + 1) t by
            have h1 := Yq.cut (l1 := [⟨lv, ov, false⟩]) (l := t) HY7.out (by simp [HTL.out]; omega)
            rw [← HTL.out] at h1
            refine ⟨HX7.out.pa, ?_, HX7.out.sv⟩
            have h2 := h1.st
            exact h2)
          clear htp hlen
          go_wp2_with fail
          go_meet
          exact ⟨by rw [HN.out, HOI.out], by rw [HN.out, HOE.out], by rw [HN.out, HVA.out], by rw [HN.out]; show Xq p b K L0 w w7 _ (i + 1) e.st.tail; rw [HXT.out]; exact HC.out⟩
        · obtain rfl : T = 0 := by omega
          have HN := Lib.hid (HN2.out.trans (if_neg (by omega)))
          clear htp hlen
          go_wp2_with fail
          go_meet
          exact ⟨by rw [HN.out, HOI.out], by rw [HN.out, HOE.out], by rw [HN.out, HVA.out], by rw [HN.out, HXT.out]; exact HX7.out⟩
end Go.Proofs.YtojbicdmcodgdaaDoor.BD
