



/-
  MasterShows: the law's walk: what is left of a master (loop 1).
-/
import Derived.Test.YtabnohphgegflaaMsParts
import Derived.Test.YtabnohphgegflaaMsItLoop
namespace Go.Proofs.Ytabnohphgegflaa.MS
open Go.RowKit Go.Law Go.Law.Sh Go.Law.Ms ShT
set_option linter.unusedVariables false
set_option linter.unusedSimpArgs false
set_option maxRecDepth 100000
set_option maxHeartbeats 8000000 in
theorem backsLoop {m2 c2 : Nat} {E2 : Nat → Nat → Int} {N2 : Nat → Nat → ByteArray} {a2 : Option Addr} {w w7 : World} (hl2 : m2 ≤ 20)
    (G2 : Hid (ShF w a2 m2 E2 N2)) (E20 : Hid (shE m2 E2 = 0)) (HB7 : Hid (Below w.heap.size w w7)) (HIS : Hid ((Try.prog.info? 24).map (fun i => (i.zero, i.size, i.bytes)) = some (some (.agg #[.int .i64 0, .int .i64 0, .int .i64 0, .int .i64 0, .int .i64 0, .int .i64 0, .int .i64 0, .int .i64 0, .int .i64 0, .int .i64 0, .string ⟨#[]⟩, .string ⟨#[]⟩]), 12, 112)))
    {s0 s2 s3 s4 s5 s6 s7 s8 s9 s10 s11 s12 s13 s14 s16 s17 s18 s19 s20 s21 s22 s23 s24 s25 s26 s27 s28 s29 s30 s31 s32 s33 s34 s35 s36 s37 s38 s39 s40 s41 s42 s43 s44 s45 s46 s47 s48 s49 s50 s51 s52 s53 s54 s55 s56 s57 s58 s59 s60 s61 s62 s63 s64 s65 s66 s67 s68 s69 s70 s71 s72 s73 s74 s75 s76 s77 s78 s79 s80 s81 s82 s83 s84 s85 s86 s87 s88 s89 s90 s91 s92 s93 s94 s95 s96 s97 s98 s99 s100 s101 s102 s103 s104 s105 s106 s107 s108 s112 s113 s114 s115 s116 s117 s118 s119 s120 s121 s122 s123 s124 s125 s126 s127 s128 s129 s130 s131 s132 s133 s134 s135 s136 s137 s138 s139 s140 s141 s142 s143 s144 s145 s146 s147 s148 s149 s150 s151 s152 s153 s154 s155 s156 s157 s158 s159 s160 s161 s162 s163 s164 s165 s166 s167 s168 s169 s170 s171 s172 s173 s174 s175 s176 s177 s178 s179 s180 s181 s182 s183 s184 s185 s186 s187 s188 s189 s190 s191 s192 s193 s194 s195 s196 s197 s198 s199 s200 s201 s202 s203 s204 s205 s206 s207 s208 s209 s210 s211 s212 s213 s214 s215 s216 s217 s218 s219 s220 s221 s222 s223 s224 s225 s226 s227 s228 s229 s230 s231 s232 s233 s234 s235 s236 s237 s238 s239 s240 s241 s242 s243 s244 s245 s246 s247 s248 s249 s250 s251 s252 s253 s254 s255 s256 s257 s258 s259 s260 s261 s262 s263 s264 s265 s266 s267 s268 s269 s270 s271 s272 s273 s274 s275 s276 s277 s278 s279 s280 s281 s282 s283 s284 s285 s286 s287 s288 s289 s290 s291 s292 s293 s294 s295 s296 s297 s298 s299 s300 s301 s302 s303 s304 s305 s306 s307 s308 : Value} {J K : Act → World → Prop} {Q : Exit → Act → World → Prop}
    (hJ : ∀ (a' : Act) (w' : World), (∃ u15 u17 u19 u20 u111 u112 u113 u114 u115 u116 u117 u118 u119 u120 u121 u122 u123 u124 u125 u126 u127 u128 u129 u130 u131 u132 u133 u134 u135 u136 u137 u138 u139 u140 u141 u142 u143 u144 u145 u146 u147 u148 u149 u150 u151 u152 u153 u154 : Value, (Below w7.heap.size w7 w' ∧ RowV w' w7.heap.size 24 12 u15 (lawB E2 N2 m2 m2).length (fun q => ((lawB E2 N2 m2 m2).getD q default).V)) ∧ a' = ⟨#[s0, .slice a2 m2 c2, s2, s3, s4, s5, s6, s7, s8, s9, s10, s11, s12, s13, s14, u15, s16, u17, s18, u19, u20, s21, s22, s23, s24, s25, s26, s27, s28, s29, s30, s31, s32, s33, s34, s35, s36, s37, s38, s39, s40, s41, s42, s43, s44, s45, s46, s47, s48, s49, s50, s51, s52, s53, s54, s55, s56, s57, s58, s59, s60, s61, s62, s63, s64, s65, s66, s67, s68, s69, s70, s71, s72, s73, s74, s75, s76, s77, s78, s79, s80, s81, s82, s83, s84, s85, s86, s87, s88, s89, s90, s91, s92, s93, s94, s95, s96, s97, s98, s99, s100, s101, s102, s103, s104, s105, s106, s107, s108, .slice a2 m2 c2, .int .i64 m2, u111, u112, u113, u114, u115, u116, u117, u118, u119, u120, u121, u122, u123, u124, u125, u126, u127, u128, u129, u130, u131, u132, u133, u134, u135, u136, u137, u138, u139, u140, u141, u142, u143, u144, u145, u146, u147, u148, u149, u150, u151, u152, u153, u154, s155, s156, s157, s158, s159, s160, s161, s162, s163, s164, s165, s166, s167, s168, s169, s170, s171, s172, s173, s174, s175, s176, s177, s178, s179, s180, s181, s182, s183, s184, s185, s186, s187, s188, s189, s190, s191, s192, s193, s194, s195, s196, s197, s198, s199, s200, s201, s202, s203, s204, s205, s206, s207, s208, s209, s210, s211, s212, s213, s214, s215, s216, s217, s218, s219, s220, s221, s222, s223, s224, s225, s226, s227, s228, s229, s230, s231, s232, s233, s234, s235, s236, s237, s238, s239, s240, s241, s242, s243, s244, s245, s246, s247, s248, s249, s250, s251, s252, s253, s254, s255, s256, s257, s258, s259, s260, s261, s262, s263, s264, s265, s266, s267, s268, s269, s270, s271, s272, s273, s274, s275, s276, s277, s278, s279, s280, s281, s282, s283, s284, s285, s286, s287, s288, s289, s290, s291, s292, s293, s294, s295, s296, s297, s298, s299, s300, s301, s302, s303, s304, s305, s306, s307, s308], []⟩) → J a' w')
    (hK : ∀ (a' : Act) (w' : World), Met J a' w' → K a' w') :
    Code.wp Try.prog (theBlk Try.f3 0) (Exit.then K Q) ⟨#[s0, .slice a2 m2 c2, s2, s3, s4, s5, s6, s7, s8, s9, s10, s11, s12, s13, s14, .slice none 0 0, s16, s17, s18, s19, s20, s21, s22, s23, s24, s25, s26, s27, s28, s29, s30, s31, s32, s33, s34, s35, s36, s37, s38, s39, s40, s41, s42, s43, s44, s45, s46, s47, s48, s49, s50, s51, s52, s53, s54, s55, s56, s57, s58, s59, s60, s61, s62, s63, s64, s65, s66, s67, s68, s69, s70, s71, s72, s73, s74, s75, s76, s77, s78, s79, s80, s81, s82, s83, s84, s85, s86, s87, s88, s89, s90, s91, s92, s93, s94, s95, s96, s97, s98, s99, s100, s101, s102, s103, s104, s105, s106, s107, s108, .slice a2 m2 c2, .int .i64 m2, .int .i64 0, s112, s113, s114, s115, s116, s117, s118, s119, s120, s121, s122, s123, s124, s125, s126, s127, s128, s129, s130, s131, s132, s133, s134, s135, s136, s137, s138, s139, s140, s141, s142, s143, s144, s145, s146, s147, s148, s149, s150, s151, s152, s153, s154, s155, s156, s157, s158, s159, s160, s161, s162, s163, s164, s165, s166, s167, s168, s169, s170, s171, s172, s173, s174, s175, s176, s177, s178, s179, s180, s181, s182, s183, s184, s185, s186, s187, s188, s189, s190, s191, s192, s193, s194, s195, s196, s197, s198, s199, s200, s201, s202, s203, s204, s205, s206, s207, s208, s209, s210, s211, s212, s213, s214, s215, s216, s217, s218, s219, s220, s221, s222, s223, s224, s225, s226, s227, s228, s229, s230, s231, s232, s233, s234, s235, s236, s237, s238, s239, s240, s241, s242, s243, s244, s245, s246, s247, s248, s249, s250, s251, s252, s253, s254, s255, s256, s257, s258, s259, s260, s261, s262, s263, s264, s265, s266, s267, s268, s269, s270, s271, s272, s273, s274, s275, s276, s277, s278, s279, s280, s281, s282, s283, s284, s285, s286, s287, s288, s289, s290, s291, s292, s293, s294, s295, s296, s297, s298, s299, s300, s301, s302, s303, s304, s305, s306, s307, s308], []⟩ w7 := by
  conv => arg 2; whnf
  go_wp2_with fail
  go_loopw [15, 111] (fun bv iv wx => ∃ i : Nat, iv = .int .i64 i ∧ i ≤ m2 ∧ Below w7.heap.size w7 wx ∧ RowV wx w7.heap.size 24 12 bv (lawB E2 N2 m2 i).length (fun q => ((lawB E2 N2 m2 i).getD q default).V)) (fun _ iv _ => m2 - (intOf iv).toNat)
  case atStart => exact ⟨0, rfl, by omega, Below.refl _ _, RowV.nil _ _ _ _ _⟩
  case round =>
    obtain ⟨i, rfl, hi, hbel, hrow⟩ := hrel
    obtain ⟨wo, rfl⟩ : ∃ wo : World, wo = wr := ⟨_, rfl⟩
    have HB := Lib.hid hbel
    have hsz := hbel.size
    obtain ⟨av, cv, hv, _, _⟩ := RowV.slice hrow
    subst hv
    have HR := Lib.hid hrow
    have HBW := Lib.hid (HB7.out.trans (hbel.mono HB7.out.size))
    have hlb := lawB_len (E := E2) (N := N2) m2 i
    clear hbel hrow
    by_cases hin : i < m2
    · have hin2 : (i : Int) < (m2 : Int) := by omega
      obtain ⟨b, off, hba, hcellG⟩ := (G2.out.below (Nat.le_refl _) HBW.out) (by omega)
      have hcell := hcellG i hin
      clear hcellG
      obtain ⟨hci, hc10, hc11⟩ := hcell
      have d0 := hci 0 (by omega)
      rw [Nat.add_zero] at d0
      have d1 := hci 1 (by omega)
      have d2 := hci 2 (by omega)
      have d3 := hci 3 (by omega)
      have d4 := hci 4 (by omega)
      have d5 := hci 5 (by omega)
      have d6 := hci 6 (by omega)
      have d7 := hci 7 (by omega)
      have d8 := hci 8 (by omega)
      have d9 := hci 9 (by omega)
      have zb := lt_of_cell d0
      simp only at zb
      clear hci
      obtain ⟨e0, he0⟩ : ∃ e, e = E2 i 0 := ⟨_, rfl⟩
      obtain ⟨e1, he1⟩ : ∃ e, e = E2 i 1 := ⟨_, rfl⟩
      obtain ⟨e2, he2⟩ : ∃ e, e = E2 i 2 := ⟨_, rfl⟩
      obtain ⟨e3, he3⟩ : ∃ e, e = E2 i 3 := ⟨_, rfl⟩
      obtain ⟨e4, he4⟩ : ∃ e, e = E2 i 4 := ⟨_, rfl⟩
      obtain ⟨e5, he5⟩ : ∃ e, e = E2 i 5 := ⟨_, rfl⟩
      obtain ⟨e6, he6⟩ : ∃ e, e = E2 i 6 := ⟨_, rfl⟩
      obtain ⟨e7, he7⟩ : ∃ e, e = E2 i 7 := ⟨_, rfl⟩
      obtain ⟨e8, he8⟩ : ∃ e, e = E2 i 8 := ⟨_, rfl⟩
      obtain ⟨e9, he9⟩ : ∃ e, e = E2 i 9 := ⟨_, rfl⟩
      obtain ⟨n0, hn0⟩ : ∃ e, e = N2 i 0 := ⟨_, rfl⟩
      obtain ⟨nt, hnt⟩ : ∃ e, e = N2 i 1 := ⟨_, rfl⟩
      rw [← he0] at d0
      rw [← he1] at d1
      rw [← he2] at d2
      rw [← he3] at d3
      rw [← he4] at d4
      rw [← he5] at d5
      rw [← he6] at d6
      rw [← he7] at d7
      rw [← he8] at d8
      rw [← he9] at d9
      rw [← hn0] at hc10
      rw [← hnt] at hc11
      have HE0 := Lib.hid he0
      have HE1 := Lib.hid he1
      have HE2 := Lib.hid he2
      have HE3 := Lib.hid he3
      have HE4 := Lib.hid he4
      have HE5 := Lib.hid he5
      have HE6 := Lib.hid he6
      have HE7 := Lib.hid he7
      have HE8 := Lib.hid he8
      have HE9 := Lib.hid he9
      have HN0 := Lib.hid hn0
      have HNT := Lib.hid hnt
      clear he0 he1 he2 he3 he4 he5 he6 he7 he8 he9 hn0 hnt
      have HSD := Lib.hid (show shD E2 N2 i = ⟨e0, e1, e2, e3, e4, e5, e6, e7, e8, e9, n0, nt⟩ by rw [HE0.out, HE1.out, HE2.out, HE3.out, HE4.out, HE5.out, HE6.out, HE7.out, HE8.out, HE9.out, HN0.out, HNT.out]; rfl)
      subst hba
      go_upto_region 17 with fail
      obtain ⟨wb, hwb⟩ : ∃ wb, wb = wo.alloc (Obj.cells #[.int .i64 e0, .int .i64 e1, .int .i64 e2, .int .i64 e3, .int .i64 e4, .int .i64 e5, .int .i64 e6, .int .i64 e7, .int .i64 e8, .int .i64 e9, .string n0, .string nt] 24) := ⟨_, rfl⟩
      have HK := Lib.hid (show Blk wb wo.heap.size #[.int .i64 e0, .int .i64 e1, .int .i64 e2, .int .i64 e3, .int .i64 e4, .int .i64 e5, .int .i64 e6, .int .i64 e7, .int .i64 e8, .int .i64 e9, .string n0, .string nt] 24 by rw [hwb]; exact Blk.new _ _ _)
      have HBO := Lib.hid (show Below wo.heap.size wo wb by rw [hwb]; exact (Below.refl _ _).alloc (Nat.le_refl _) _)
      rw [← hwb]
      obtain ⟨kc, hkc⟩ : ∃ kc, kc = wo.heap.size := ⟨_, rfl⟩
      have hkc1 : wo.heap.size ≤ kc := by omega
      rw [← hkc] at HK ⊢
      clear d0 d1 d2 d3 d4 d5 d6 d7 d8 d9 hc10 hc11 zb hwb hkc
      have y0 : wb.cell? ⟨kc, 0, none⟩ = some (.int .i64 e0) := (HK).out.cell (i := 0) rfl
      have y1 : wb.cell? ⟨kc, 1, none⟩ = some (.int .i64 e1) := (HK).out.cell (i := 1) rfl
      have y2 : wb.cell? ⟨kc, 2, none⟩ = some (.int .i64 e2) := (HK).out.cell (i := 2) rfl
      have y3 : wb.cell? ⟨kc, 3, none⟩ = some (.int .i64 e3) := (HK).out.cell (i := 3) rfl
      have y4 : wb.cell? ⟨kc, 4, none⟩ = some (.int .i64 e4) := (HK).out.cell (i := 4) rfl
      have y5 : wb.cell? ⟨kc, 5, none⟩ = some (.int .i64 e5) := (HK).out.cell (i := 5) rfl
      have y6 : wb.cell? ⟨kc, 6, none⟩ = some (.int .i64 e6) := (HK).out.cell (i := 6) rfl
      have y7 : wb.cell? ⟨kc, 7, none⟩ = some (.int .i64 e7) := (HK).out.cell (i := 7) rfl
      have y8 : wb.cell? ⟨kc, 8, none⟩ = some (.int .i64 e8) := (HK).out.cell (i := 8) rfl
      have y9 : wb.cell? ⟨kc, 9, none⟩ = some (.int .i64 e9) := (HK).out.cell (i := 9) rfl
      have y10 : wb.cell? ⟨kc, 10, none⟩ = some (.string n0) := (HK).out.cell (i := 10) rfl
      have y11 : wb.cell? ⟨kc, 11, none⟩ = some (.string nt) := (HK).out.cell (i := 11) rfl
      go_wp2_with fail
      have hip := inPlace_any m2 E2 N2 (some ⟨b, off, none⟩) c2 i wb (G2.out.below (Nat.le_refl _) (HBW.out.trans (HBO.out.mono HBW.out.size))) E20.out hin
      rw [HSD.out] at hip
      refine hip.mono ?_
      clear hip
      rintro e wi ⟨rfl, hbi⟩
      simp only []
      have HBI := Lib.hid (HBO.out.trans (hbi.mono HBO.out.size))
      have HKI := Lib.hid (HK.out.below hbi HK.out.lt)
      obtain ⟨IP, hIP⟩ : ∃ IP, IP = inP E2 N2 i := ⟨_, rfl⟩
      rw [← hIP]
      have HIP := Lib.hid hIP
      clear hbi hIP y0 y1 y2 y3 y4 y5 y6 y7 y8 y9 y10 y11
      cases IP
      case true =>
        have HL := Lib.hid (show lawB E2 N2 m2 (i + 1) = lawB E2 N2 m2 i from by unfold lawB; rw [back_gone HIP.out.symm])
        go_wp2_with fail
        go_roundw
        case rel => exact ⟨i + 1, by go_num, by omega, HB.out.trans (HBI.out.mono hsz), by rw [HL.out]; exact HR.out.below HBI.out (Nat.le_refl _)⟩
        case measure => simp [intOf]; omega
      case false =>
        have hbnd := (ok_at E20.out hin).2.1
        have HP8 := Lib.hid (show 0 ≤ e8 by rw [HE8.out]; exact hbnd.2.2.1.1)
        have HP9 := Lib.hid (show 0 ≤ e9 by rw [HE9.out]; exact hbnd.2.2.2.1)
        clear hbnd
        obtain ⟨F8, hF8⟩ : ∃ F, F = if goneK E2 N2 m2 e8 then 0 else e8 := ⟨_, rfl⟩
        obtain ⟨F9, hF9⟩ : ∃ F, F = if goneK E2 N2 m2 e9 then 0 else e9 := ⟨_, rfl⟩
        have HF8 := Lib.hid hF8
        have HF9 := Lib.hid hF9
        clear hF8 hF9
        have hzk := HKI.out.lt
        go_upto_block 2 with fail
        obtain ⟨kp, hkp⟩ : ∃ kp, kp = wi.heap.size := ⟨_, rfl⟩
        obtain ⟨wp, hwp⟩ : ∃ wp, wp = wi.alloc (Obj.cells #[.pointer (some ⟨kc, 8, none⟩), .pointer (some ⟨kc, 9, none⟩)] 34) := ⟨_, rfl⟩
        have HPP := Lib.hid (show Blk wp kp #[.pointer (some ⟨kc, 8, none⟩), .pointer (some ⟨kc, 9, none⟩)] 34 by rw [hwp, hkp]; exact Blk.new _ _ _)
        have HKP := Lib.hid (show Blk wp kc #[.int .i64 e0, .int .i64 e1, .int .i64 e2, .int .i64 e3, .int .i64 e4, .int .i64 e5, .int .i64 e6, .int .i64 e7, .int .i64 e8, .int .i64 e9, .string n0, .string nt] 24 by rw [hwp]; exact HKI.out.alloc _)
        have HBP := Lib.hid (show Below wo.heap.size wo wp by rw [hwp]; exact HBI.out.alloc HBI.out.size _)
        have HKN := Lib.hid (show kc < kp by omega)
        rw [← hwp, ← hkp]
        clear hwp hkp hzk
        go_cut [] from 122 to 122 (fun wx => Below wo.heap.size wo wx ∧ Blk wx kc #[.int .i64 e0, .int .i64 e1, .int .i64 e2, .int .i64 e3, .int .i64 e4, .int .i64 e5, .int .i64 e6, .int .i64 e7, .int .i64 F8, .int .i64 F9, .string n0, .string nt] 24)
        case first => exact itLoop hl2 G2 E20 HBW HBP HPP HKP hkc1 HKN HP8 HP9 HF8 HF9 (by assumption) (by assumption)
        case rest =>
        clear HKP HPP HBP HK HKI HBI HBO
        obtain ⟨hbx, hkx⟩ := hcut
        obtain ⟨wr, rfl⟩ : ∃ x : World, x = wc := ⟨_, rfl⟩
        have HBX := Lib.hid hbx
        have HBWX := Lib.hid (HBW.out.trans (hbx.mono HBW.out.size))
        have hzx := hkx.lt
        have hszx := hbx.size
        clear hbx
        have HKX := Lib.hid hkx
        clear hkx
        have HL := Lib.hid (show lawB E2 N2 m2 (i + 1) = lawB E2 N2 m2 i ++ [⟨e0, e1, e2, e3, e4, e5, e6, e7, F8, F9, n0, nt⟩] from by
          unfold lawB
          rw [back_left HIP.out.symm, List.map_append, HSD.out, HF8.out, HF9.out]
          rfl)
        obtain ⟨LB, hLB⟩ : ∃ LB, LB = lawB E2 N2 m2 i := ⟨_, rfl⟩
        rw [← hLB] at hlb HR HL ⊢
        obtain ⟨ln, hln⟩ : ∃ ln, ln = LB.length := ⟨_, rfl⟩
        have HLN := Lib.hid hln
        obtain ⟨xs, hown, hxl, hxs⟩ := RowV.own (HR.out.below HBX.out (Nat.le_refl _))
        rw [← hln] at hown hlb ⊢
        have HXL := Lib.hid hxl
        have HXS := Lib.hid hxs
        clear hxl hxs hln hLB
        have HIS2 := HIS
        go_upto_region 25 with fail
        have HRNg := Lib.hid (show wr.rangeAt kc 0 [.int .i64 e0, .int .i64 e1, .int .i64 e2, .int .i64 e3, .int .i64 e4, .int .i64 e5, .int .i64 e6, .int .i64 e7, .int .i64 F8, .int .i64 F9, .string n0, .string nt] from fun j v hj => by rw [Nat.zero_add]; exact (HKX).out.cell (by simpa using hj))
        refine wp_region_lit ?_
        refine cut_at 1 (fun R hR => ?_)
        have HRAsg := Lib.hid hR
        clear hR
        simp only [List.take_succ_cons, List.take_zero, List.cons_append, List.nil_append]
        go_wp2_with fail
        rw [HRAsg.out]
        simp only [List.drop_succ_cons, List.drop_zero]
        refine wpList_load_mid rfl 24 _ rfl kc 0 rfl _ _ HRNg.out Try.underlying24 rfl (by kernel_rfl) ?_
        simp only [Act.put, List.setIfInBounds_toArray, List.set_cons_zero, List.set_cons_succ]
        obtain ⟨ii, hii, hz0, hz1, hz2⟩ := info_parts HIS.out
        go_wp2_with (at_builtin; go_loud (refine wpList_append_own _ rfl _ _ 22 rfl (w7.heap.size) 24 ii _ 12 112 Try.underlying22 hii hz0 hz1 hz2 rfl (by decide) _ _ _ rfl (RowL.alloc hown _) ⟨wr.heap.size, 0, none⟩ 1 1 [.int .i64 e0, .int .i64 e1, .int .i64 e2, .int .i64 e3, .int .i64 e4, .int .i64 e5, .int .i64 e6, .int .i64 e7, .int .i64 F8, .int .i64 F9, .string n0, .string nt] rfl rfl ?k1g ?k2g ?k3g ?k4g ?k5g ?_))
        try (case k1g =>
          intro j u hj
          have e : Addr.add ⟨wr.heap.size, 0, none⟩ j = ⟨wr.heap.size, j, none⟩ := by simp [Addr.add]; omega
          rw [e]
          exact (Blk.new wr _ _).cell (by simpa using hj))
        try (case k2g => intro u hu; simp at hu; rcases hu with rfl | rfl | rfl | rfl | rfl | rfl | rfl | rfl | rfl | rfl | rfl | rfl <;> rfl)
        try (case k3g => unfold maxLen; (try simp); (try omega))
        try (case k4g => (try simp); (try omega))
        try (case k5g => (try simp); (try omega))
        intro v6 w6 hown6 hgrow _
        clear hii hz0 hz1 hz2
        have HBQ := Lib.hid (HB.out.trans (HBX.out.mono hsz))
        have HB6 := Lib.hid (Below.grown (B := w7.heap.size) (a := w7) (HBQ.out.alloc HBQ.out.size _) hgrow (by have := HBQ.out.size; simp; omega) (fun k hk => RowL.ge hown k hk))
        have HR6 := Lib.hid (row_push (s := ⟨e0, e1, e2, e3, e4, e5, e6, e7, F8, F9, n0, nt⟩) (L := LB) (by rw [← HLN.out]; exact hown6) HXL.out HXS.out)
        clear hown hown6 hgrow
        go_wp2_with fail
        go_roundw
        case rel => exact ⟨i + 1, by go_num, by omega, HB6.out, by rw [HL.out]; exact HR6.out⟩
        case measure => simp [intOf]; omega
    · obtain rfl : m2 = i := by omega
      have hnn : ¬ (m2 : Int) < (m2 : Int) := by omega
      go_wp2_with fail
      go_meet
      exact ⟨HB.out, HR.out⟩
end Go.Proofs.Ytabnohphgegflaa.MS
