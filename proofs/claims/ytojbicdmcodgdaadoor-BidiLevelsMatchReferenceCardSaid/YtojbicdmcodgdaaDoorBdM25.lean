/-
  BdREmT, BdREmW.
-/
import Derived.Test.YtojbicdmcodgdaaDoorBdM23
import Derived.Test.YtojbicdmcodgdaaDoorBdM08
import Derived.Deep.RegionHeld3
import Derived.Deep.RegionWith
import Derived.Test.YtojbicdmcodgdaaDoorBdM24
namespace Go.Proofs.YtojbicdmcodgdaaDoor.BD
open Go.RowKit Go.Law Go.Law.Bd
set_option linter.unusedVariables false
set_option linter.unusedSimpArgs false
set_option maxRecDepth 100000
set_option maxHeartbeats 8000000 in
theorem emB10 {p : EmP} {b : Ent} {w0 wz : World} {i oi oe va T gs cs cb tb : Nat} {e : Est} {t : List Ent} {lv ov nx k base : Int} {iso ft : Bool}
    (OK : Hid (EmOk p w0)) (HEK : Hid (EstOk b i e)) (HEK2 : Hid (EstOk b (i + 1) (estAt b p.K p.n (i + 1)))) (HXT : Hid (e.st = ⟨lv, ov, iso⟩ :: t)) (HOI : Hid (oi = e.oi)) (HOE : Hid (oe = e.oe)) (HVA : Hid (va = e.va)) (HNX : Hid (nextB b p.K p.n i e = nx)) (HFT : Hid (ft = true ↔ fitsB b p.K p.n i e))
    (HK : Hid (k = p.K i)) (HE : Hid (e = estAt b p.K p.n i)) (HST : Hid (estAt b p.K p.n (i + 1) = estStep b p.K p.n i e)) (HTL : Hid (T = t.length)) (HBD : Hid (b = ⟨base, -1, false⟩))
    (HZ : Hid (Em p b (prt (clE b p.K p.n) p.K i) (prt (lvE b p.K p.n) (fun _ => 0) i) (prtB (ouE p.K) (fun _ => false) i) w0 wz (.slice (some ⟨gs, 0, none⟩) (T + 1) cs) (⟨lv, ov, iso⟩ :: t)))
    (HCB : Hid (Blk wz cb #[.pointer (some ⟨p.g, i * 5, none⟩)] 76)) (HTB : Hid (Blk wz tb #[.int .i64 lv, .int .i64 ov, .bool iso] 74)) (hcw : w0.heap.size ≤ cb) (htw : w0.heap.size ≤ tb)
    (hin : i < p.n) (hn2 : p.n ≤ 200) (hTs : T + 1 ≤ i + 1) (hoib : oi ≤ i) (hoeb : oe ≤ i) (hvab : va ≤ i) (hxm : 0 ≤ lv ∧ lv ≤ 125) (hxo : -1 ≤ ov ∧ ov ≤ 1) (hsc1 : T + 1 ≤ cs) (hsc2 : cs ≤ maxLen) (hnxb : 0 ≤ nx ∧ nx ≤ 1000) (hbase : base = 0 ∨ base = 1) (hk : k = 10)
    {s0 s2 s3 s4 s5 s6 s11 s14 s18 s19 s20 s21 s22 s23 s24 s25 s26 s27 s28 s29 s30 s31 s32 s33 s34 s35 s36 s37 s38 s39 s40 s41 s42 s43 s44 s45 s46 s47 s48 s49 s50 s51 s52 s53 s54 s55 s56 s57 s58 s59 s60 s61 s62 s63 s64 s65 s66 s67 s68 s69 s70 s71 s72 s73 s74 s75 s76 s77 s78 s79 s80 s81 s82 s83 s84 s85 s86 s87 s88 s89 s90 s91 s92 s93 s94 s95 s96 s97 s98 s99 s100 s101 s102 s103 s104 s106 s107 s108 s109 s110 s111 s112 s113 s114 s115 s116 s117 s118 s119 s120 s121 s122 s123 s124 s125 s126 s127 s128 s129 s130 s131 s132 s133 s134 s135 s136 s137 s138 s139 s140 s141 s142 s143 s144 s145 s146 s147 s148 s149 s150 s151 s152 s153 s154 s155 s156 s157 s158 s159 s160 s161 s162 s163 s164 s165 s166 s167 s168 s169 s170 s171 s172 s173 s174 s175 s176 s177 s178 s179 s180 s181 s182 s183 s184 s185 s186 s187 s188 s189 s190 s191 s192 s193 s194 s195 s196 s197 s198 s199 s200 s201 s202 s203 s204 s205 s206 s207 s208 s209 s210 s211 s212 s213 s214 s215 s216 s217 s218 s219 s220 s221 s222 s223 s224 s225 s226 s227 s228 s229 s230 s231 s232 s233 : Value} {J : Act → World → Prop} {Q : Exit → Act → World → Prop}
    (HQ : Hid (∀ (c : List PanicEntry) (a a' : Act) (w : World), a.defers = a'.defers → Q (.panic c) a w → Q (.panic c) a' w))
    (hJ : ∀ (a' : Act) (w' : World), (∃ u8 u9 u10 u18 u19 u106 u107 u108 u109 u110 u111 u112 u113 u114 u115 u116 u117 u118 u119 u120 u121 u122 u123 u124 u125 u126 u127 u128 u129 u130 u131 u132 u133 u134 u135 u136 u137 u138 u139 u140 u141 u142 u143 u144 u145 u146 u147 u148 u149 u150 u151 u152 u153 u154 u155 u156 u157 u158 u159 u160 u161 u162 u163 u164 u165 u166 u167 u168 u169 u170 u171 u172 u173 u174 u175 u176 u177 u178 u179 u180 u181 u182 u183 u184 u185 u186 u187 u188 u189 u190 u191 u192 u193 u194 u195 u196 u197 u198 u199 u200 u201 u202 u203 u204 u205 u206 u207 u208 u209 u210 u211 u212 u213 u214 u215 u216 u217 u218 u219 u220 u221 u222 u223 u224 u225 u226 u227 u228 u229 u230 u231 u232 : Value, (u8 = .int .i64 (estAt b p.K p.n (i + 1)).oi ∧ u9 = .int .i64 (estAt b p.K p.n (i + 1)).oe ∧ u10 = .int .i64 (estAt b p.K p.n (i + 1)).va ∧ ∃ sv, Em p b (prt (clE b p.K p.n) p.K (i + 1)) (prt (lvE b p.K p.n) (fun _ => 0) (i + 1)) (prtB (ouE p.K) (fun _ => false) (i + 1)) w0 w' sv (estAt b p.K p.n (i + 1)).st) ∧ a' = ⟨#[s0, .int .i64 base, s2, s3, s4, s5, s6, .pointer (some ⟨p.sp, 0, none⟩), u8, u9, u10, s11, .pointer (some ⟨cb, 0, none⟩), .pointer (some ⟨tb, 0, none⟩), s14, .int .i64 nx, .bool ft, .func (.func 46) #[] #[.pointer (some ⟨p.sp, 0, none⟩), .pointer (some ⟨cb, 0, none⟩)], u18, u19, s20, s21, s22, s23, s24, s25, s26, s27, s28, s29, s30, s31, s32, s33, s34, s35, s36, s37, s38, s39, s40, s41, s42, s43, s44, s45, s46, s47, s48, s49, s50, s51, s52, s53, s54, s55, s56, s57, s58, s59, s60, s61, s62, s63, s64, s65, s66, s67, s68, s69, s70, s71, s72, s73, s74, s75, s76, s77, s78, s79, s80, s81, s82, s83, s84, s85, s86, s87, s88, s89, s90, s91, s92, s93, s94, s95, s96, s97, s98, s99, s100, s101, s102, s103, s104, .int .i64 k, u106, u107, u108, u109, u110, u111, u112, u113, u114, u115, u116, u117, u118, u119, u120, u121, u122, u123, u124, u125, u126, u127, u128, u129, u130, u131, u132, u133, u134, u135, u136, u137, u138, u139, u140, u141, u142, u143, u144, u145, u146, u147, u148, u149, u150, u151, u152, u153, u154, u155, u156, u157, u158, u159, u160, u161, u162, u163, u164, u165, u166, u167, u168, u169, u170, u171, u172, u173, u174, u175, u176, u177, u178, u179, u180, u181, u182, u183, u184, u185, u186, u187, u188, u189, u190, u191, u192, u193, u194, u195, u196, u197, u198, u199, u200, u201, u202, u203, u204, u205, u206, u207, u208, u209, u210, u211, u212, u213, u214, u215, u216, u217, u218, u219, u220, u221, u222, u223, u224, u225, u226, u227, u228, u229, u230, u231, u232, s233], []⟩) → J a' w')
    (hN : ∀ (a' : Act) (w' : World), J a' w' → Q .normal a' w') (hX : ∀ (a' : Act) (w' : World), J a' w' → Q (.exit 3) a' w') :
    Code.wp Tryd.prog (theBlk Tryd.f25 4) Q ⟨#[s0, .int .i64 base, s2, s3, s4, s5, s6, .pointer (some ⟨p.sp, 0, none⟩), .int .i64 oi, .int .i64 oe, .int .i64 va, s11, .pointer (some ⟨cb, 0, none⟩), .pointer (some ⟨tb, 0, none⟩), s14, .int .i64 nx, .bool ft, .func (.func 46) #[] #[.pointer (some ⟨p.sp, 0, none⟩), .pointer (some ⟨cb, 0, none⟩)], s18, s19, s20, s21, s22, s23, s24, s25, s26, s27, s28, s29, s30, s31, s32, s33, s34, s35, s36, s37, s38, s39, s40, s41, s42, s43, s44, s45, s46, s47, s48, s49, s50, s51, s52, s53, s54, s55, s56, s57, s58, s59, s60, s61, s62, s63, s64, s65, s66, s67, s68, s69, s70, s71, s72, s73, s74, s75, s76, s77, s78, s79, s80, s81, s82, s83, s84, s85, s86, s87, s88, s89, s90, s91, s92, s93, s94, s95, s96, s97, s98, s99, s100, s101, s102, s103, s104, .int .i64 k, s106, s107, s108, s109, s110, s111, s112, s113, s114, s115, s116, s117, s118, s119, s120, s121, s122, s123, s124, s125, s126, s127, s128, s129, s130, s131, s132, s133, s134, s135, s136, s137, s138, s139, s140, s141, s142, s143, s144, s145, s146, s147, s148, s149, s150, s151, s152, s153, s154, s155, s156, s157, s158, s159, s160, s161, s162, s163, s164, s165, s166, s167, s168, s169, s170, s171, s172, s173, s174, s175, s176, s177, s178, s179, s180, s181, s182, s183, s184, s185, s186, s187, s188, s189, s190, s191, s192, s193, s194, s195, s196, s197, s198, s199, s200, s201, s202, s203, s204, s205, s206, s207, s208, s209, s210, s211, s212, s213, s214, s215, s216, s217, s218, s219, s220, s221, s222, s223, s224, s225, s226, s227, s228, s229, s230, s231, s232, s233], []⟩ wz := by
  have hk2 := HK.out
  rw [hk] at hk2
  have HES := Lib.hid (show estAt b p.K p.n (i + 1) = e by
    have h1 : ¬ isEmb (p.K i) := by unfold isEmb; omega
    have h2 : ¬ isoB (p.K i) = true := by unfold isoB; rw [decide_eq_true_eq]; omega
    rw [HST.out]; unfold estStep
    rw [if_neg h1, if_neg h2, if_neg (by omega), if_neg (by omega)])
  have HOU := Lib.hid (show ouE p.K i = false by unfold ouE; rw [decide_eq_false_iff_not]; omega)
  have HCL := Lib.hid (show clE b p.K p.n i = p.K i by unfold clE; rw [if_pos (.inr (by omega))])
  have HLV := Lib.hid (show lvE b p.K p.n i = base by unfold lvE; rw [if_pos (by omega), HBD.out])
  subst hk
  clear hk2
  have c0 : wz.cell? ⟨cb, 0, none⟩ = _ := HCB.out.cell (i := 0) rfl
  obtain ⟨z, _⟩ := HZ.out.ch.cells hin
  have z2 := z (i * 5 + 2)
  clear z
  conv => arg 2; whnf
  go_wp2_with fail
  have HX7 := Lib.hid (show Em p b (prt (clE b p.K p.n) p.K (i + 1)) (prt (lvE b p.K p.n) (fun _ => 0) (i + 1)) (prtB (ouE p.K) (fun _ => false) (i + 1)) w0 (wz.setCell ⟨p.g, i * 5 + 2, none⟩ (.int .i64 base)) (.slice (some ⟨gs, 0, none⟩) (T + 1) cs) (estAt b p.K p.n (i + 1)).st by
    rw [HES.out, HXT.out]
    exact (HZ.out.setV OK.out hin base).congr (fun j _ => prt_same HCL.out j) (fun j _ => prt_set _ _ i HLV.out j) (fun j _ => prtB_same HOU.out j))
  refine hN _ _ (hJ _ _ ?_)
  (repeat apply Exists.intro)
  refine ⟨?rel, rfl⟩
  case rel => exact ⟨by rw [HES.out, HOI.out], by rw [HES.out, HOE.out], by rw [HES.out, HVA.out], _, HX7.out⟩
set_option maxHeartbeats 8000000 in
theorem emBN9 {p : EmP} {b : Ent} {w0 wz : World} {i oi oe va T gs cs cb tb : Nat} {e : Est} {t : List Ent} {lv ov nx k base : Int} {iso ft : Bool}
    (OK : Hid (EmOk p w0)) (HEK : Hid (EstOk b i e)) (HEK2 : Hid (EstOk b (i + 1) (estAt b p.K p.n (i + 1)))) (HXT : Hid (e.st = ⟨lv, ov, iso⟩ :: t)) (HOI : Hid (oi = e.oi)) (HOE : Hid (oe = e.oe)) (HVA : Hid (va = e.va)) (HNX : Hid (nextB b p.K p.n i e = nx)) (HFT : Hid (ft = true ↔ fitsB b p.K p.n i e))
    (HK : Hid (k = p.K i)) (HE : Hid (e = estAt b p.K p.n i)) (HST : Hid (estAt b p.K p.n (i + 1) = estStep b p.K p.n i e)) (HTL : Hid (T = t.length)) (HBD : Hid (b = ⟨base, -1, false⟩))
    (HZ : Hid (Em p b (prt (clE b p.K p.n) p.K i) (prt (lvE b p.K p.n) (fun _ => 0) i) (prtB (ouE p.K) (fun _ => false) i) w0 wz (.slice (some ⟨gs, 0, none⟩) (T + 1) cs) (⟨lv, ov, iso⟩ :: t)))
    (HCB : Hid (Blk wz cb #[.pointer (some ⟨p.g, i * 5, none⟩)] 76)) (HTB : Hid (Blk wz tb #[.int .i64 lv, .int .i64 ov, .bool iso] 74)) (hcw : w0.heap.size ≤ cb) (htw : w0.heap.size ≤ tb)
    (hin : i < p.n) (hn2 : p.n ≤ 200) (hTs : T + 1 ≤ i + 1) (hoib : oi ≤ i) (hoeb : oe ≤ i) (hvab : va ≤ i) (hxm : 0 ≤ lv ∧ lv ≤ 125) (hxo : -1 ≤ ov ∧ ov ≤ 1) (hsc1 : T + 1 ≤ cs) (hsc2 : cs ≤ maxLen) (hnxb : 0 ≤ nx ∧ nx ≤ 1000) (hbase : base = 0 ∨ base = 1) (hk : k = 9)
    {s0 s2 s3 s4 s5 s6 s11 s14 s18 s19 s20 s21 s22 s23 s24 s25 s26 s27 s28 s29 s30 s31 s32 s33 s34 s35 s36 s37 s38 s39 s40 s41 s42 s43 s44 s45 s46 s47 s48 s49 s50 s51 s52 s53 s54 s55 s56 s57 s58 s59 s60 s61 s62 s63 s64 s65 s66 s67 s68 s69 s70 s71 s72 s73 s74 s75 s76 s77 s78 s79 s80 s81 s82 s83 s84 s85 s86 s87 s88 s89 s90 s91 s92 s93 s94 s95 s96 s97 s98 s99 s100 s101 s102 s103 s104 s106 s107 s108 s109 s110 s111 s112 s113 s114 s115 s116 s117 s118 s119 s120 s121 s122 s123 s124 s125 s126 s127 s128 s129 s130 s131 s132 s133 s134 s135 s136 s137 s138 s139 s140 s141 s142 s143 s144 s145 s146 s147 s148 s149 s150 s151 s152 s153 s154 s155 s156 s157 s158 s159 s160 s161 s162 s163 s164 s165 s166 s167 s168 s169 s170 s171 s172 s173 s174 s175 s176 s177 s178 s179 s180 s181 s182 s183 s184 s185 s186 s187 s188 s189 s190 s191 s192 s193 s194 s195 s196 s197 s198 s199 s200 s201 s202 s203 s204 s205 s206 s207 s208 s209 s210 s211 s212 s213 s214 s215 s216 s217 s218 s219 s220 s221 s222 s223 s224 s225 s226 s227 s228 s229 s230 s231 s232 s233 : Value} {J : Act → World → Prop} {Q : Exit → Act → World → Prop}
    (HQ : Hid (∀ (c : List PanicEntry) (a a' : Act) (w : World), a.defers = a'.defers → Q (.panic c) a w → Q (.panic c) a' w))
    (hJ : ∀ (a' : Act) (w' : World), (∃ u8 u9 u10 u18 u19 u106 u107 u108 u109 u110 u111 u112 u113 u114 u115 u116 u117 u118 u119 u120 u121 u122 u123 u124 u125 u126 u127 u128 u129 u130 u131 u132 u133 u134 u135 u136 u137 u138 u139 u140 u141 u142 u143 u144 u145 u146 u147 u148 u149 u150 u151 u152 u153 u154 u155 u156 u157 u158 u159 u160 u161 u162 u163 u164 u165 u166 u167 u168 u169 u170 u171 u172 u173 u174 u175 u176 u177 u178 u179 u180 u181 u182 u183 u184 u185 u186 u187 u188 u189 u190 u191 u192 u193 u194 u195 u196 u197 u198 u199 u200 u201 u202 u203 u204 u205 u206 u207 u208 u209 u210 u211 u212 u213 u214 u215 u216 u217 u218 u219 u220 u221 u222 u223 u224 u225 u226 u227 u228 u229 u230 u231 u232 : Value, (u8 = .int .i64 (estAt b p.K p.n (i + 1)).oi ∧ u9 = .int .i64 (estAt b p.K p.n (i + 1)).oe ∧ u10 = .int .i64 (estAt b p.K p.n (i + 1)).va ∧ ∃ sv, Em p b (prt (clE b p.K p.n) p.K (i + 1)) (prt (lvE b p.K p.n) (fun _ => 0) (i + 1)) (prtB (ouE p.K) (fun _ => false) (i + 1)) w0 w' sv (estAt b p.K p.n (i + 1)).st) ∧ a' = ⟨#[s0, .int .i64 base, s2, s3, s4, s5, s6, .pointer (some ⟨p.sp, 0, none⟩), u8, u9, u10, s11, .pointer (some ⟨cb, 0, none⟩), .pointer (some ⟨tb, 0, none⟩), s14, .int .i64 nx, .bool ft, .func (.func 46) #[] #[.pointer (some ⟨p.sp, 0, none⟩), .pointer (some ⟨cb, 0, none⟩)], u18, u19, s20, s21, s22, s23, s24, s25, s26, s27, s28, s29, s30, s31, s32, s33, s34, s35, s36, s37, s38, s39, s40, s41, s42, s43, s44, s45, s46, s47, s48, s49, s50, s51, s52, s53, s54, s55, s56, s57, s58, s59, s60, s61, s62, s63, s64, s65, s66, s67, s68, s69, s70, s71, s72, s73, s74, s75, s76, s77, s78, s79, s80, s81, s82, s83, s84, s85, s86, s87, s88, s89, s90, s91, s92, s93, s94, s95, s96, s97, s98, s99, s100, s101, s102, s103, s104, .int .i64 k, u106, u107, u108, u109, u110, u111, u112, u113, u114, u115, u116, u117, u118, u119, u120, u121, u122, u123, u124, u125, u126, u127, u128, u129, u130, u131, u132, u133, u134, u135, u136, u137, u138, u139, u140, u141, u142, u143, u144, u145, u146, u147, u148, u149, u150, u151, u152, u153, u154, u155, u156, u157, u158, u159, u160, u161, u162, u163, u164, u165, u166, u167, u168, u169, u170, u171, u172, u173, u174, u175, u176, u177, u178, u179, u180, u181, u182, u183, u184, u185, u186, u187, u188, u189, u190, u191, u192, u193, u194, u195, u196, u197, u198, u199, u200, u201, u202, u203, u204, u205, u206, u207, u208, u209, u210, u211, u212, u213, u214, u215, u216, u217, u218, u219, u220, u221, u222, u223, u224, u225, u226, u227, u228, u229, u230, u231, u232, s233], []⟩) → J a' w')
    (hN : ∀ (a' : Act) (w' : World), J a' w' → Q .normal a' w') (hX : ∀ (a' : Act) (w' : World), J a' w' → Q (.exit 3) a' w') :
    Code.wp Tryd.prog (theBlk Tryd.f25 4) Q ⟨#[s0, .int .i64 base, s2, s3, s4, s5, s6, .pointer (some ⟨p.sp, 0, none⟩), .int .i64 oi, .int .i64 oe, .int .i64 va, s11, .pointer (some ⟨cb, 0, none⟩), .pointer (some ⟨tb, 0, none⟩), s14, .int .i64 nx, .bool ft, .func (.func 46) #[] #[.pointer (some ⟨p.sp, 0, none⟩), .pointer (some ⟨cb, 0, none⟩)], s18, s19, s20, s21, s22, s23, s24, s25, s26, s27, s28, s29, s30, s31, s32, s33, s34, s35, s36, s37, s38, s39, s40, s41, s42, s43, s44, s45, s46, s47, s48, s49, s50, s51, s52, s53, s54, s55, s56, s57, s58, s59, s60, s61, s62, s63, s64, s65, s66, s67, s68, s69, s70, s71, s72, s73, s74, s75, s76, s77, s78, s79, s80, s81, s82, s83, s84, s85, s86, s87, s88, s89, s90, s91, s92, s93, s94, s95, s96, s97, s98, s99, s100, s101, s102, s103, s104, .int .i64 k, s106, s107, s108, s109, s110, s111, s112, s113, s114, s115, s116, s117, s118, s119, s120, s121, s122, s123, s124, s125, s126, s127, s128, s129, s130, s131, s132, s133, s134, s135, s136, s137, s138, s139, s140, s141, s142, s143, s144, s145, s146, s147, s148, s149, s150, s151, s152, s153, s154, s155, s156, s157, s158, s159, s160, s161, s162, s163, s164, s165, s166, s167, s168, s169, s170, s171, s172, s173, s174, s175, s176, s177, s178, s179, s180, s181, s182, s183, s184, s185, s186, s187, s188, s189, s190, s191, s192, s193, s194, s195, s196, s197, s198, s199, s200, s201, s202, s203, s204, s205, s206, s207, s208, s209, s210, s211, s212, s213, s214, s215, s216, s217, s218, s219, s220, s221, s222, s223, s224, s225, s226, s227, s228, s229, s230, s231, s232, s233], []⟩ wz := by
  have hk2 := HK.out
  rw [hk] at hk2
  have HES := Lib.hid (show estAt b p.K p.n (i + 1) = e by
    have h1 : ¬ isEmb (p.K i) := by unfold isEmb; omega
    have h2 : ¬ isoB (p.K i) = true := by unfold isoB; rw [decide_eq_true_eq]; omega
    rw [HST.out]; unfold estStep
    rw [if_neg h1, if_neg h2, if_neg (by omega), if_neg (by omega)])
  have HDC := Lib.hid (show decB b p.K p.n i = ⟨lv, ov, iso⟩ by unfold decB; rw [if_neg (by omega), ← HE.out, HXT.out]; rfl)
  have HOU := Lib.hid (show ouE p.K i = true by unfold ouE; rw [decide_eq_true_iff]; omega)
  have HCL := Lib.hid (show clE b p.K p.n i = p.K i by unfold clE; rw [if_pos (.inl HOU.out)])
  have HLV := Lib.hid (show lvE b p.K p.n i = lv by unfold lvE; rw [if_neg (by omega), HDC.out])
  subst hk
  clear hk2
  have c0 : wz.cell? ⟨cb, 0, none⟩ = some (.pointer (some ⟨p.g, i * 5, none⟩)) := HCB.out.cell (i := 0) rfl
  have t0 : wz.cell? ⟨tb, 0, none⟩ = some (.int .i64 lv) := HTB.out.cell (i := 0) rfl
  obtain ⟨z, _⟩ := HZ.out.ch.cells hin
  have z2 := z (i * 5 + 2)
  have z3 := z (i * 5 + 3)
  clear z
  conv => arg 2; whnf
  go_wp2_with fail
  have HX7 := Lib.hid (show Em p b (prt (clE b p.K p.n) p.K (i + 1)) (prt (lvE b p.K p.n) (fun _ => 0) (i + 1)) (prtB (ouE p.K) (fun _ => false) (i + 1)) w0 ((wz.setCell ⟨p.g, i * 5 + 3, none⟩ (.bool true)).setCell ⟨p.g, i * 5 + 2, none⟩ (.int .i64 lv)).drew (.slice (some ⟨gs, 0, none⟩) (T + 1) cs) (estAt b p.K p.n (i + 1)).st by
    rw [HES.out, HXT.out]
    exact (((HZ.out.setO OK.out hin true).setV OK.out hin lv).drew).congr (fun j _ => prt_same HCL.out j) (fun j _ => prt_set _ _ i HLV.out j) (fun j _ => prtB_set _ _ i HOU.out j))
  have hcg : cb ≠ p.g := by have := OK.out.g; omega
  have htg : tb ≠ p.g := by have := OK.out.g; omega
  refine wp_region_noPanic ?_
  go_region_with (fail)
  all_goals
    refine NoPanic.normal ?_
    refine hN _ _ (hJ _ _ ?_)
    (repeat apply Exists.intro)
    refine ⟨?rel, rfl⟩
    case rel => exact ⟨by rw [HES.out, HOI.out], by rw [HES.out, HOE.out], by rw [HES.out, HVA.out], _, HX7.out⟩
set_option maxHeartbeats 8000000 in
theorem emPdf {p : EmP} {b : Ent} {w0 wz : World} {i oi oe va T gs cs cb tb : Nat} {e : Est} {t : List Ent} {lv ov nx k base : Int} {iso ft : Bool}
    (OK : Hid (EmOk p w0)) (HEK : Hid (EstOk b i e)) (HEK2 : Hid (EstOk b (i + 1) (estAt b p.K p.n (i + 1)))) (HXT : Hid (e.st = ⟨lv, ov, iso⟩ :: t)) (HOI : Hid (oi = e.oi)) (HOE : Hid (oe = e.oe)) (HVA : Hid (va = e.va)) (HNX : Hid (nextB b p.K p.n i e = nx)) (HFT : Hid (ft = true ↔ fitsB b p.K p.n i e))
    (HK : Hid (k = p.K i)) (HE : Hid (e = estAt b p.K p.n i)) (HST : Hid (estAt b p.K p.n (i + 1) = estStep b p.K p.n i e)) (HTL : Hid (T = t.length)) (HBD : Hid (b = ⟨base, -1, false⟩))
    (HZ : Hid (Em p b (prt (clE b p.K p.n) p.K i) (prt (lvE b p.K p.n) (fun _ => 0) i) (prtB (ouE p.K) (fun _ => false) i) w0 wz (.slice (some ⟨gs, 0, none⟩) (T + 1) cs) (⟨lv, ov, iso⟩ :: t)))
    (HCB : Hid (Blk wz cb #[.pointer (some ⟨p.g, i * 5, none⟩)] 76)) (HTB : Hid (Blk wz tb #[.int .i64 lv, .int .i64 ov, .bool iso] 74)) (hcw : w0.heap.size ≤ cb) (htw : w0.heap.size ≤ tb)
    (hin : i < p.n) (hn2 : p.n ≤ 200) (hTs : T + 1 ≤ i + 1) (hoib : oi ≤ i) (hoeb : oe ≤ i) (hvab : va ≤ i) (hxm : 0 ≤ lv ∧ lv ≤ 125) (hxo : -1 ≤ ov ∧ ov ≤ 1) (hsc1 : T + 1 ≤ cs) (hsc2 : cs ≤ maxLen) (hnxb : 0 ≤ nx ∧ nx ≤ 1000) (hbase : base = 0 ∨ base = 1) (hk : k = 18)
    {s0 s2 s3 s4 s5 s6 s11 s14 s18 s19 s20 s21 s22 s23 s24 s25 s26 s27 s28 s29 s30 s31 s32 s33 s34 s35 s36 s37 s38 s39 s40 s41 s42 s43 s44 s45 s46 s47 s48 s49 s50 s51 s52 s53 s54 s55 s56 s57 s58 s59 s60 s61 s62 s63 s64 s65 s66 s67 s68 s69 s70 s71 s72 s73 s74 s75 s76 s77 s78 s79 s80 s81 s82 s83 s84 s85 s86 s87 s88 s89 s90 s91 s92 s93 s94 s95 s96 s97 s98 s99 s100 s101 s102 s103 s104 s106 s107 s108 s109 s110 s111 s112 s113 s114 s115 s116 s117 s118 s119 s120 s121 s122 s123 s124 s125 s126 s127 s128 s129 s130 s131 s132 s133 s134 s135 s136 s137 s138 s139 s140 s141 s142 s143 s144 s145 s146 s147 s148 s149 s150 s151 s152 s153 s154 s155 s156 s157 s158 s159 s160 s161 s162 s163 s164 s165 s166 s167 s168 s169 s170 s171 s172 s173 s174 s175 s176 s177 s178 s179 s180 s181 s182 s183 s184 s185 s186 s187 s188 s189 s190 s191 s192 s193 s194 s195 s196 s197 s198 s199 s200 s201 s202 s203 s204 s205 s206 s207 s208 s209 s210 s211 s212 s213 s214 s215 s216 s217 s218 s219 s220 s221 s222 s223 s224 s225 s226 s227 s228 s229 s230 s231 s232 s233 : Value} {J : Act → World → Prop} {Q : Exit → Act → World → Prop}
    (HQ : Hid (∀ (c : List PanicEntry) (a a' : Act) (w : World), a.defers = a'.defers → Q (.panic c) a w → Q (.panic c) a' w))
    (hJ : ∀ (a' : Act) (w' : World), (∃ u8 u9 u10 u18 u19 u106 u107 u108 u109 u110 u111 u112 u113 u114 u115 u116 u117 u118 u119 u120 u121 u122 u123 u124 u125 u126 u127 u128 u129 u130 u131 u132 u133 u134 u135 u136 u137 u138 u139 u140 u141 u142 u143 u144 u145 u146 u147 u148 u149 u150 u151 u152 u153 u154 u155 u156 u157 u158 u159 u160 u161 u162 u163 u164 u165 u166 u167 u168 u169 u170 u171 u172 u173 u174 u175 u176 u177 u178 u179 u180 u181 u182 u183 u184 u185 u186 u187 u188 u189 u190 u191 u192 u193 u194 u195 u196 u197 u198 u199 u200 u201 u202 u203 u204 u205 u206 u207 u208 u209 u210 u211 u212 u213 u214 u215 u216 u217 u218 u219 u220 u221 u222 u223 u224 u225 u226 u227 u228 u229 u230 u231 u232 : Value, (u8 = .int .i64 (estAt b p.K p.n (i + 1)).oi ∧ u9 = .int .i64 (estAt b p.K p.n (i + 1)).oe ∧ u10 = .int .i64 (estAt b p.K p.n (i + 1)).va ∧ ∃ sv, Em p b (prt (clE b p.K p.n) p.K (i + 1)) (prt (lvE b p.K p.n) (fun _ => 0) (i + 1)) (prtB (ouE p.K) (fun _ => false) (i + 1)) w0 w' sv (estAt b p.K p.n (i + 1)).st) ∧ a' = ⟨#[s0, .int .i64 base, s2, s3, s4, s5, s6, .pointer (some ⟨p.sp, 0, none⟩), u8, u9, u10, s11, .pointer (some ⟨cb, 0, none⟩), .pointer (some ⟨tb, 0, none⟩), s14, .int .i64 nx, .bool ft, .func (.func 46) #[] #[.pointer (some ⟨p.sp, 0, none⟩), .pointer (some ⟨cb, 0, none⟩)], u18, u19, s20, s21, s22, s23, s24, s25, s26, s27, s28, s29, s30, s31, s32, s33, s34, s35, s36, s37, s38, s39, s40, s41, s42, s43, s44, s45, s46, s47, s48, s49, s50, s51, s52, s53, s54, s55, s56, s57, s58, s59, s60, s61, s62, s63, s64, s65, s66, s67, s68, s69, s70, s71, s72, s73, s74, s75, s76, s77, s78, s79, s80, s81, s82, s83, s84, s85, s86, s87, s88, s89, s90, s91, s92, s93, s94, s95, s96, s97, s98, s99, s100, s101, s102, s103, s104, .int .i64 k, u106, u107, u108, u109, u110, u111, u112, u113, u114, u115, u116, u117, u118, u119, u120, u121, u122, u123, u124, u125, u126, u127, u128, u129, u130, u131, u132, u133, u134, u135, u136, u137, u138, u139, u140, u141, u142, u143, u144, u145, u146, u147, u148, u149, u150, u151, u152, u153, u154, u155, u156, u157, u158, u159, u160, u161, u162, u163, u164, u165, u166, u167, u168, u169, u170, u171, u172, u173, u174, u175, u176, u177, u178, u179, u180, u181, u182, u183, u184, u185, u186, u187, u188, u189, u190, u191, u192, u193, u194, u195, u196, u197, u198, u199, u200, u201, u202, u203, u204, u205, u206, u207, u208, u209, u210, u211, u212, u213, u214, u215, u216, u217, u218, u219, u220, u221, u222, u223, u224, u225, u226, u227, u228, u229, u230, u231, u232, s233], []⟩) → J a' w')
    (hN : ∀ (a' : Act) (w' : World), J a' w' → Q .normal a' w') (hX : ∀ (a' : Act) (w' : World), J a' w' → Q (.exit 3) a' w') :
    Code.wp Tryd.prog (theBlk Tryd.f25 4) Q ⟨#[s0, .int .i64 base, s2, s3, s4, s5, s6, .pointer (some ⟨p.sp, 0, none⟩), .int .i64 oi, .int .i64 oe, .int .i64 va, s11, .pointer (some ⟨cb, 0, none⟩), .pointer (some ⟨tb, 0, none⟩), s14, .int .i64 nx, .bool ft, .func (.func 46) #[] #[.pointer (some ⟨p.sp, 0, none⟩), .pointer (some ⟨cb, 0, none⟩)], s18, s19, s20, s21, s22, s23, s24, s25, s26, s27, s28, s29, s30, s31, s32, s33, s34, s35, s36, s37, s38, s39, s40, s41, s42, s43, s44, s45, s46, s47, s48, s49, s50, s51, s52, s53, s54, s55, s56, s57, s58, s59, s60, s61, s62, s63, s64, s65, s66, s67, s68, s69, s70, s71, s72, s73, s74, s75, s76, s77, s78, s79, s80, s81, s82, s83, s84, s85, s86, s87, s88, s89, s90, s91, s92, s93, s94, s95, s96, s97, s98, s99, s100, s101, s102, s103, s104, .int .i64 k, s106, s107, s108, s109, s110, s111, s112, s113, s114, s115, s116, s117, s118, s119, s120, s121, s122, s123, s124, s125, s126, s127, s128, s129, s130, s131, s132, s133, s134, s135, s136, s137, s138, s139, s140, s141, s142, s143, s144, s145, s146, s147, s148, s149, s150, s151, s152, s153, s154, s155, s156, s157, s158, s159, s160, s161, s162, s163, s164, s165, s166, s167, s168, s169, s170, s171, s172, s173, s174, s175, s176, s177, s178, s179, s180, s181, s182, s183, s184, s185, s186, s187, s188, s189, s190, s191, s192, s193, s194, s195, s196, s197, s198, s199, s200, s201, s202, s203, s204, s205, s206, s207, s208, s209, s210, s211, s212, s213, s214, s215, s216, s217, s218, s219, s220, s221, s222, s223, s224, s225, s226, s227, s228, s229, s230, s231, s232, s233], []⟩ wz := by
  subst hk
  have h1 : ¬ isEmb (p.K i) := by have hk2 := HK.out; unfold isEmb; omega
  have h2 : ¬ isoB (p.K i) = true := by have hk2 := HK.out; unfold isoB; rw [decide_eq_true_eq]; omega
  have HES := Lib.hid (show estAt b p.K p.n (i + 1) = if 0 < e.oi then e else if 0 < e.oe then { e with oe := e.oe - 1 } else if (topB b e.st).iso = false ∧ 1 < e.st.length then { e with st := e.st.tail } else e by
    have hk2 := HK.out
    rw [HST.out]; unfold estStep
    rw [if_neg h1, if_neg h2, if_neg (by omega), if_pos (by omega)])
  clear h1 h2
  have HDC := Lib.hid (show decB b p.K p.n i = ⟨lv, ov, iso⟩ by have hk2 := HK.out; unfold decB; rw [if_neg (by omega), ← HE.out, HXT.out]; rfl)
  have HOU := Lib.hid (show ouE p.K i = true by have hk2 := HK.out; unfold ouE; rw [decide_eq_true_iff]; omega)
  have HCL := Lib.hid (show clE b p.K p.n i = p.K i by unfold clE; rw [if_pos (.inl HOU.out)])
  have HLV := Lib.hid (show lvE b p.K p.n i = lv by have hk2 := HK.out; unfold lvE; rw [if_neg (by omega), HDC.out])
  have c0 : wz.cell? ⟨cb, 0, none⟩ = some (.pointer (some ⟨p.g, i * 5, none⟩)) := HCB.out.cell (i := 0) rfl
  have t0 : wz.cell? ⟨tb, 0, none⟩ = some (.int .i64 lv) := HTB.out.cell (i := 0) rfl
  obtain ⟨z, _⟩ := HZ.out.ch.cells hin
  have z2 := z (i * 5 + 2)
  have z3 := z (i * 5 + 3)
  clear z
  have hcg : cb ≠ p.g := by have := OK.out.g; omega
  have htg : tb ≠ p.g := by have := OK.out.g; omega
  obtain ⟨w7, hw7⟩ : ∃ w7, w7 = ((wz.setCell ⟨p.g, i * 5 + 3, none⟩ (.bool true)).setCell ⟨p.g, i * 5 + 2, none⟩ (.int .i64 lv)).drew := ⟨_, rfl⟩
  have HW7 := Lib.hid hw7
  clear hw7
  have HX7 := Lib.hid (show Em p b (prt (clE b p.K p.n) p.K (i + 1)) (prt (lvE b p.K p.n) (fun _ => 0) (i + 1)) (prtB (ouE p.K) (fun _ => false) (i + 1)) w0 w7 (.slice (some ⟨gs, 0, none⟩) (T + 1) cs) (⟨lv, ov, iso⟩ :: t) by
    rw [HW7.out]
    exact (((HZ.out.setO OK.out hin true).setV OK.out hin lv).drew).congr (fun j _ => prt_same HCL.out j) (fun j _ => prt_set _ _ i HLV.out j) (fun j _ => prtB_set _ _ i HOU.out j))
  have HCB7 := Lib.hid (show Blk w7 cb #[.pointer (some ⟨p.g, i * 5, none⟩)] 76 by rw [HW7.out]; exact ((HCB.out.other (a := ⟨p.g, i * 5 + 3, none⟩) hcg _).other (a := ⟨p.g, i * 5 + 2, none⟩) hcg _).drew)
  have HTB7 := Lib.hid (show Blk w7 tb #[.int .i64 lv, .int .i64 ov, .bool iso] 74 by rw [HW7.out]; exact ((HTB.out.other (a := ⟨p.g, i * 5 + 3, none⟩) htg _).other (a := ⟨p.g, i * 5 + 2, none⟩) htg _).drew)
  conv => arg 2; whnf
  go_upto_region 57 with fail
  go_cut [190] from 191 to 197 (fun _ wx => wx = w7)
  case first =>
    rename_i hJ2 hK2
    refine wp_region_noPanic ?_
    go_region_with (fail)
    all_goals
      refine NoPanic.normal ?_
      refine hK2 _ _ (Met.intro (hJ2 _ _ ?_))
      (repeat apply Exists.intro)
      refine ⟨?rel, rfl⟩
      case rel => exact HW7.out.symm
  case rest =>
  obtain rfl : w7 = wc := hcut.symm
  clear hcut c0 t0 z2 z3 hcg htg HW7 HZ HCB HTB
  by_cases hoi0 : 0 < oi
  · have HN := Lib.hid (HES.out.trans (if_pos (by rw [← HOI.out]; exact hoi0)))
    have hoi1 : (0 : Int) < (oi : Int) := by omega
    go_wp2_with fail
    (try refine hJ _ _ ?_)
    (repeat apply Exists.intro)
    refine ⟨?rel, rfl⟩
    case rel => exact ⟨by rw [HN.out, HOI.out], by rw [HN.out, HOE.out], by rw [HN.out, HVA.out], _, by rw [HN.out, HXT.out]; exact HX7.out⟩
  · have HN1 := Lib.hid (HES.out.trans (if_neg (by rw [← HOI.out]; exact hoi0)))
    have hoi1 : ¬ (0 : Int) < (oi : Int) := by omega
    by_cases hoe0 : 0 < oe
    · have HN := Lib.hid (HN1.out.trans (if_pos (by rw [← HOE.out]; exact hoe0)))
      have hoe1 : (0 : Int) < (oe : Int) := by omega
      go_wp2_with fail
      refine hN _ _ (hJ _ _ ?_)
      (repeat apply Exists.intro)
      refine ⟨?rel, rfl⟩
      case rel => exact ⟨by rw [HN.out, HOI.out], by rw [HN.out]; show _ = Value.int .i64 ((e.oe - 1 : Nat) : Int); rw [← HOE.out]; congr 1; omega, by rw [HN.out, HVA.out], _, by rw [HN.out]; show Em p b _ _ _ w0 w7 _ e.st; rw [HXT.out]; exact HX7.out⟩
    · have HN2 := Lib.hid (HN1.out.trans (if_neg (by rw [← HOE.out]; exact hoe0)))
      have hoe1 : ¬ (0 : Int) < (oe : Int) := by omega
      have htp : topB b e.st = ⟨lv, ov, iso⟩ := by rw [HXT.out]; rfl
      have hlen : e.st.length = T + 1 := by rw [HXT.out, HTL.out]; rfl
      have t2 : w7.cell? ⟨tb, 2, none⟩ = some (.bool iso) := HTB7.out.cell (i := 2) rfl
      have s0 : w7.cell? ⟨p.sp, 0, none⟩ = some (.slice (some ⟨gs, 0, none⟩) (T + 1) cs) := HX7.out.sp.cell (i := 0) rfl
      have z0 := HX7.out.sp.frozen 0
      by_cases hT0 : 0 < T
      · have hT1 : (1 : Int) < (T : Int) + 1 := by omega
        cases iso with
        | true =>
          have HN := Lib.hid (HN2.out.trans (if_neg (by rw [htp]; intro h; exact absurd h.1 (by simp))))
          clear htp hlen
          go_wp2_with fail
          refine hN _ _ (hJ _ _ ?_)
          (repeat apply Exists.intro)
          refine ⟨?rel, rfl⟩
          case rel => exact ⟨by rw [HN.out, HOI.out], by rw [HN.out, HOE.out], by rw [HN.out, HVA.out], _, by rw [HN.out, HXT.out]; exact HX7.out⟩
        | false =>
          have HN := Lib.hid (HN2.out.trans (if_pos ⟨by rw [htp], by omega⟩))
          have e1 : (T : Int) + 1 - 1 = (T : Int) := by omega
          have hw9 := IntWalk.i64_in (T : Int) (by omega)
          have hTc : (T : Int) ≤ (cs : Int) := by omega
          have hTz : (0 : Int) ≤ (T : Int) := by omega
          have HC := Em.cut (l1 := [⟨lv, ov, false⟩]) (l := t) OK.out HX7.out (by simp [HTL.out]; omega)
          rw [← HTL.out] at HC
          replace HC := Lib.hid HC
          clear htp hlen
          go_wp2_with fail
          refine hN _ _ (hJ _ _ ?_)
          (repeat apply Exists.intro)
          refine ⟨?rel, rfl⟩
          case rel => exact ⟨by rw [HN.out, HOI.out], by rw [HN.out, HOE.out], by rw [HN.out, HVA.out], _, by rw [HN.out]; show Em p b _ _ _ w0 _ _ e.st.tail; rw [HXT.out]; exact HC.out⟩
      · obtain rfl : T = 0 := by omega
        have HN := Lib.hid (HN2.out.trans (if_neg (by omega)))
        clear htp hlen
        go_wp2_with fail
        refine hN _ _ (hJ _ _ ?_)
        (repeat apply Exists.intro)
        refine ⟨?rel, rfl⟩
        case rel => exact ⟨by rw [HN.out, HOI.out], by rw [HN.out, HOE.out], by rw [HN.out, HVA.out], _, by rw [HN.out, HXT.out]; exact HX7.out⟩
end Go.Proofs.YtojbicdmcodgdaaDoor.BD
