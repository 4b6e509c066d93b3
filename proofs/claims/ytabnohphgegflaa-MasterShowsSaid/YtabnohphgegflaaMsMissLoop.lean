



/-
  MasterShows: the law's walk: which places are missed (loop 5).
-/
import Derived.Test.YtabnohphgegflaaMsParts
import Derived.Test.YtabnohphgegflaaMsUsed1
import Derived.Test.YtabnohphgegflaaMsUsed2
namespace Go.Proofs.Ytabnohphgegflaa.MS
open Go.RowKit Go.Law Go.Law.Sh Go.Law.Ms ShT
set_option linter.unusedVariables false
set_option linter.unusedSimpArgs false
set_option maxRecDepth 100000
set_option maxHeartbeats 8000000 in
theorem missLoop {m1 m2 c1 c2 : Nat} {E1 E2 : Nat → Nat → Int} {N1 N2 : Nat → Nat → ByteArray} {a1 a2 : Option Addr} {w wq : World} (hl1 : m1 ≤ 20) (hl2 : m2 ≤ 20) (GC : Hid (m1 ≤ c1 ∧ m2 ≤ c2))
    (G1 : Hid (ShF w a1 m1 E1 N1)) (G2 : Hid (ShF w a2 m2 E2 N2)) (HBWF : Hid (Below w.heap.size w wq)) (HIT : Hid ((Try.prog.info? 9).map (fun i => (i.zero, i.size, i.bytes)) = some (some (.string ⟨#[]⟩), 1, 16)))
    {s2 s3 s4 s5 s6 s7 s8 s9 s10 s11 s12 s13 s14 s15 s16 s17 s18 s19 s20 s21 s23 s24 s25 s26 s27 s28 s29 s30 s31 s32 s33 s34 s35 s36 s37 s38 s39 s40 s41 s42 s43 s44 s45 s46 s47 s48 s49 s50 s51 s52 s53 s54 s55 s56 s57 s58 s59 s60 s61 s62 s63 s64 s65 s66 s67 s68 s69 s70 s71 s72 s73 s74 s75 s76 s77 s78 s79 s80 s81 s82 s83 s84 s85 s86 s87 s88 s89 s90 s91 s92 s93 s94 s95 s96 s97 s98 s99 s100 s101 s102 s103 s104 s105 s106 s107 s108 s109 s110 s111 s112 s113 s114 s115 s116 s117 s118 s119 s120 s121 s122 s123 s124 s125 s126 s127 s128 s129 s130 s131 s132 s133 s134 s135 s136 s137 s138 s139 s140 s141 s142 s143 s144 s145 s146 s147 s148 s149 s150 s151 s152 s153 s154 s155 s156 s157 s158 s159 s160 s161 s162 s163 s164 s165 s166 s167 s168 s169 s170 s171 s172 s173 s174 s175 s176 s177 s178 s179 s180 s181 s182 s183 s184 s185 s186 s187 s188 s189 s190 s191 s192 s193 s194 s195 s196 s197 s198 s199 s200 s201 s202 s203 s204 s205 s206 s207 s208 s209 s210 s211 s212 s213 s217 s218 s219 s220 s221 s222 s223 s224 s225 s226 s227 s228 s229 s230 s231 s232 s233 s234 s235 s236 s237 s238 s239 s240 s241 s242 s243 s244 s245 s246 s247 s248 s249 s250 s251 s252 s253 s254 s255 s256 s257 s258 s259 s260 s261 s262 s263 s264 s265 s266 s267 s268 s269 s270 s271 s272 s273 s274 s275 s276 s277 s278 s279 s280 s281 s282 s283 s284 s285 s286 s287 s288 s289 s290 s291 s292 s293 s294 s295 s296 s297 s298 s299 s300 s301 s302 s303 s304 s305 s306 s307 s308 : Value} {J K : Act → World → Prop} {Q : Exit → Act → World → Prop}
    (HQ : Hid (∀ (c : List PanicEntry) (a a' : Act) (w : World), a.defers = a'.defers → Q (.panic c) a w → Q (.panic c) a' w))
    (hJ : ∀ (a' : Act) (w' : World), (∃ u22 u27 u28 u29 u31 u33 u216 u217 u218 u219 u220 u221 u222 u223 u224 u225 u226 u227 u228 u229 u230 u231 u232 u233 u234 u235 u236 u237 u238 u239 u240 u241 u242 u243 u244 u245 u246 u247 u248 u249 u250 u251 u252 u253 u254 u255 u256 u257 u258 u259 u260 u261 u262 u263 u264 u265 u266 u267 u268 u269 u270 u271 u272 : Value, (Below wq.heap.size wq w' ∧ RowV w' wq.heap.size 9 1 u22 (missL m1 E1 N1 E2 N2 m2).length (fun q _ => .string ((missL m1 E1 N1 E2 N2 m2).getD q ⟨#[]⟩))) ∧ a' = ⟨#[.slice a1 m1 c1, .slice a2 m2 c2, s2, s3, s4, s5, s6, s7, s8, s9, s10, s11, s12, s13, s14, s15, s16, s17, s18, s19, s20, s21, u22, s23, s24, s25, s26, u27, u28, u29, s30, u31, s32, u33, s34, s35, s36, s37, s38, s39, s40, s41, s42, s43, s44, s45, s46, s47, s48, s49, s50, s51, s52, s53, s54, s55, s56, s57, s58, s59, s60, s61, s62, s63, s64, s65, s66, s67, s68, s69, s70, s71, s72, s73, s74, s75, s76, s77, s78, s79, s80, s81, s82, s83, s84, s85, s86, s87, s88, s89, s90, s91, s92, s93, s94, s95, s96, s97, s98, s99, s100, s101, s102, s103, s104, s105, s106, s107, s108, s109, s110, s111, s112, s113, s114, s115, s116, s117, s118, s119, s120, s121, s122, s123, s124, s125, s126, s127, s128, s129, s130, s131, s132, s133, s134, s135, s136, s137, s138, s139, s140, s141, s142, s143, s144, s145, s146, s147, s148, s149, s150, s151, s152, s153, s154, s155, s156, s157, s158, s159, s160, s161, s162, s163, s164, s165, s166, s167, s168, s169, s170, s171, s172, s173, s174, s175, s176, s177, s178, s179, s180, s181, s182, s183, s184, s185, s186, s187, s188, s189, s190, s191, s192, s193, s194, s195, s196, s197, s198, s199, s200, s201, s202, s203, s204, s205, s206, s207, s208, s209, s210, s211, s212, s213, .slice a2 m2 c2, .int .i64 m2, u216, u217, u218, u219, u220, u221, u222, u223, u224, u225, u226, u227, u228, u229, u230, u231, u232, u233, u234, u235, u236, u237, u238, u239, u240, u241, u242, u243, u244, u245, u246, u247, u248, u249, u250, u251, u252, u253, u254, u255, u256, u257, u258, u259, u260, u261, u262, u263, u264, u265, u266, u267, u268, u269, u270, u271, u272, s273, s274, s275, s276, s277, s278, s279, s280, s281, s282, s283, s284, s285, s286, s287, s288, s289, s290, s291, s292, s293, s294, s295, s296, s297, s298, s299, s300, s301, s302, s303, s304, s305, s306, s307, s308], []⟩) → J a' w')
    (hK : ∀ (a' : Act) (w' : World), Met J a' w' → K a' w') :
    Code.wp Try.prog (theBlk Try.f3 8) (Exit.then K Q) ⟨#[.slice a1 m1 c1, .slice a2 m2 c2, s2, s3, s4, s5, s6, s7, s8, s9, s10, s11, s12, s13, s14, s15, s16, s17, s18, s19, s20, s21, .slice none 0 0, s23, s24, s25, s26, s27, s28, s29, s30, s31, s32, s33, s34, s35, s36, s37, s38, s39, s40, s41, s42, s43, s44, s45, s46, s47, s48, s49, s50, s51, s52, s53, s54, s55, s56, s57, s58, s59, s60, s61, s62, s63, s64, s65, s66, s67, s68, s69, s70, s71, s72, s73, s74, s75, s76, s77, s78, s79, s80, s81, s82, s83, s84, s85, s86, s87, s88, s89, s90, s91, s92, s93, s94, s95, s96, s97, s98, s99, s100, s101, s102, s103, s104, s105, s106, s107, s108, s109, s110, s111, s112, s113, s114, s115, s116, s117, s118, s119, s120, s121, s122, s123, s124, s125, s126, s127, s128, s129, s130, s131, s132, s133, s134, s135, s136, s137, s138, s139, s140, s141, s142, s143, s144, s145, s146, s147, s148, s149, s150, s151, s152, s153, s154, s155, s156, s157, s158, s159, s160, s161, s162, s163, s164, s165, s166, s167, s168, s169, s170, s171, s172, s173, s174, s175, s176, s177, s178, s179, s180, s181, s182, s183, s184, s185, s186, s187, s188, s189, s190, s191, s192, s193, s194, s195, s196, s197, s198, s199, s200, s201, s202, s203, s204, s205, s206, s207, s208, s209, s210, s211, s212, s213, .slice a2 m2 c2, .int .i64 m2, .int .i64 0, s217, s218, s219, s220, s221, s222, s223, s224, s225, s226, s227, s228, s229, s230, s231, s232, s233, s234, s235, s236, s237, s238, s239, s240, s241, s242, s243, s244, s245, s246, s247, s248, s249, s250, s251, s252, s253, s254, s255, s256, s257, s258, s259, s260, s261, s262, s263, s264, s265, s266, s267, s268, s269, s270, s271, s272, s273, s274, s275, s276, s277, s278, s279, s280, s281, s282, s283, s284, s285, s286, s287, s288, s289, s290, s291, s292, s293, s294, s295, s296, s297, s298, s299, s300, s301, s302, s303, s304, s305, s306, s307, s308], []⟩ wq := by
  conv => arg 2; whnf
  go_wp2_with fail
  go_loopw [22, 216] (fun mv iv wx => ∃ i : Nat, iv = .int .i64 i ∧ i ≤ m2 ∧ Below wq.heap.size wq wx ∧ RowV wx wq.heap.size 9 1 mv (missL m1 E1 N1 E2 N2 i).length (fun q _ => .string ((missL m1 E1 N1 E2 N2 i).getD q ⟨#[]⟩))) (fun _ iv _ => m2 - (intOf iv).toNat)
  case atStart => exact ⟨0, rfl, by omega, Below.refl _ _, RowV.nil _ _ _ _ _⟩
  case round =>
    obtain ⟨i, rfl, hi, hbel, hrow⟩ := hrel
    obtain ⟨wu, rfl⟩ : ∃ wu : World, wu = wr := ⟨_, rfl⟩
    have HB := Lib.hid hbel
    have hszr := hbel.size
    obtain ⟨ma, mc, hmv, _, _⟩ := RowV.slice hrow
    subst hmv
    have HR := Lib.hid hrow
    have HBW := Lib.hid (HBWF.out.trans (hbel.mono HBWF.out.size))
    have hmi := miss_len (n1 := m1) (E1 := E1) (N1 := N1) (E2 := E2) (N2 := N2) i
    obtain ⟨MI, hMI⟩ : ∃ MI, MI = missL m1 E1 N1 E2 N2 i := ⟨_, rfl⟩
    have HMI := Lib.hid hMI
    rw [← hMI] at hmi HR ⊢
    obtain ⟨ni, hni⟩ : ∃ ni, ni = MI.length := ⟨_, rfl⟩
    have HNI := Lib.hid hni
    rw [← hni] at hmi ⊢
    clear hbel hrow hMI hni
    by_cases hin : i < m2
    · have hin2 : (i : Int) < (m2 : Int) := by omega
      obtain ⟨b, off, hba, hcellG⟩ := (G2.out.below (Nat.le_refl _) HBW.out) (by omega)
      have hcell := hcellG i hin
      clear hcellG
      obtain ⟨hci, hc10, hc11⟩ := hcell
      have d0 := hci 0 (by omega)
      rw [Nat.add_zero] at d0
      have d1 := hci 1 (by omega)
      have d2 := hci 2 (by omega)
      have d3 := hci 3 (by omega)
      have d4 := hci 4 (by omega)
      have d5 := hci 5 (by omega)
      have d6 := hci 6 (by omega)
      have d7 := hci 7 (by omega)
      have d8 := hci 8 (by omega)
      have d9 := hci 9 (by omega)
      have zb := lt_of_cell d0
      simp only at zb
      clear hci
      obtain ⟨e0, he0⟩ : ∃ e, e = E2 i 0 := ⟨_, rfl⟩
      obtain ⟨e1, he1⟩ : ∃ e, e = E2 i 1 := ⟨_, rfl⟩
      obtain ⟨e2, he2⟩ : ∃ e, e = E2 i 2 := ⟨_, rfl⟩
      obtain ⟨e3, he3⟩ : ∃ e, e = E2 i 3 := ⟨_, rfl⟩
      obtain ⟨e4, he4⟩ : ∃ e, e = E2 i 4 := ⟨_, rfl⟩
      obtain ⟨e5, he5⟩ : ∃ e, e = E2 i 5 := ⟨_, rfl⟩
      obtain ⟨e6, he6⟩ : ∃ e, e = E2 i 6 := ⟨_, rfl⟩
      obtain ⟨e7, he7⟩ : ∃ e, e = E2 i 7 := ⟨_, rfl⟩
      obtain ⟨e8, he8⟩ : ∃ e, e = E2 i 8 := ⟨_, rfl⟩
      obtain ⟨e9, he9⟩ : ∃ e, e = E2 i 9 := ⟨_, rfl⟩
      obtain ⟨n0, hn0⟩ : ∃ e, e = N2 i 0 := ⟨_, rfl⟩
      obtain ⟨nt, hnt⟩ : ∃ e, e = N2 i 1 := ⟨_, rfl⟩
      rw [← he0] at d0
      rw [← he1] at d1
      rw [← he2] at d2
      rw [← he3] at d3
      rw [← he4] at d4
      rw [← he5] at d5
      rw [← he6] at d6
      rw [← he7] at d7
      rw [← he8] at d8
      rw [← he9] at d9
      rw [← hn0] at hc10
      rw [← hnt] at hc11
      have HE0 := Lib.hid he0
      have HE1 := Lib.hid he1
      have HE2 := Lib.hid he2
      have HE3 := Lib.hid he3
      have HE4 := Lib.hid he4
      have HE5 := Lib.hid he5
      have HE6 := Lib.hid he6
      have HE7 := Lib.hid he7
      have HE8 := Lib.hid he8
      have HE9 := Lib.hid he9
      have HN0 := Lib.hid hn0
      have HNT := Lib.hid hnt
      clear he0 he1 he2 he3 he4 he5 he6 he7 he8 he9 hn0 hnt
      subst hba
      go_upto_region 44 with fail
      obtain ⟨wb, hwb⟩ : ∃ wb, wb = wu.alloc (Obj.cells #[.int .i64 e0, .int .i64 e1, .int .i64 e2, .int .i64 e3, .int .i64 e4, .int .i64 e5, .int .i64 e6, .int .i64 e7, .int .i64 e8, .int .i64 e9, .string n0, .string nt] 24) := ⟨_, rfl⟩
      have HK := Lib.hid (show Blk wb wu.heap.size #[.int .i64 e0, .int .i64 e1, .int .i64 e2, .int .i64 e3, .int .i64 e4, .int .i64 e5, .int .i64 e6, .int .i64 e7, .int .i64 e8, .int .i64 e9, .string n0, .string nt] 24 by rw [hwb]; exact Blk.new _ _ _)
      have HBO := Lib.hid (show Below wu.heap.size wu wb by rw [hwb]; exact (Below.refl _ _).alloc (Nat.le_refl _) _)
      rw [← hwb]
      obtain ⟨kc, hkc⟩ : ∃ kc, kc = wu.heap.size := ⟨_, rfl⟩
      rw [← hkc] at HK ⊢
      clear d0 d1 d2 d3 d4 d5 d6 d7 d8 d9 hc10 hc11 zb hwb hkc
      have y0 : wb.cell? ⟨kc, 0, none⟩ = some (.int .i64 e0) := (HK).out.cell (i := 0) rfl
      have y1 : wb.cell? ⟨kc, 1, none⟩ = some (.int .i64 e1) := (HK).out.cell (i := 1) rfl
      have y2 : wb.cell? ⟨kc, 2, none⟩ = some (.int .i64 e2) := (HK).out.cell (i := 2) rfl
      have y3 : wb.cell? ⟨kc, 3, none⟩ = some (.int .i64 e3) := (HK).out.cell (i := 3) rfl
      have y4 : wb.cell? ⟨kc, 4, none⟩ = some (.int .i64 e4) := (HK).out.cell (i := 4) rfl
      have y5 : wb.cell? ⟨kc, 5, none⟩ = some (.int .i64 e5) := (HK).out.cell (i := 5) rfl
      have y6 : wb.cell? ⟨kc, 6, none⟩ = some (.int .i64 e6) := (HK).out.cell (i := 6) rfl
      have y7 : wb.cell? ⟨kc, 7, none⟩ = some (.int .i64 e7) := (HK).out.cell (i := 7) rfl
      have y8 : wb.cell? ⟨kc, 8, none⟩ = some (.int .i64 e8) := (HK).out.cell (i := 8) rfl
      have y9 : wb.cell? ⟨kc, 9, none⟩ = some (.int .i64 e9) := (HK).out.cell (i := 9) rfl
      have y10 : wb.cell? ⟨kc, 10, none⟩ = some (.string n0) := (HK).out.cell (i := 10) rfl
      have y11 : wb.cell? ⟨kc, 11, none⟩ = some (.string nt) := (HK).out.cell (i := 11) rfl
      go_wp2_with fail
      refine (isPlace_any ⟨e0, e1, e2, e3, e4, e5, e6, e7, e8, e9, n0, nt⟩ wb).mono ?_
      rintro e wi ⟨rfl, hbi⟩
      simp only []
      have HKI := Lib.hid (HK.out.below hbi HK.out.lt)
      have HBUI := Lib.hid (HBO.out.trans (hbi.mono HBO.out.size))
      have HBWI := Lib.hid (HBW.out.trans (HBUI.out.mono HBW.out.size))
      clear hbi y0 y1 y2 y3 y4 y5 y6 y7 y8 y9 y10 y11 HK HBO
      obtain ⟨PB, hPB⟩ : ∃ PB, PB = (decide (e1 = 0) && roomB n0) := ⟨_, rfl⟩
      rw [← hPB]
      have HPB := Lib.hid hPB
      clear hPB
      go_upto_block 10 with fail
      go_cut [29] from 226 to 226 (fun fv wx => fv = .bool (!PB || uS E1 N1 m1 n0) ∧ Below wi.heap.size wi wx)
      case first => exact usedLoop1 hl1 G1 HBWI HKI (Lib.hid fun _ _ _ _ hd h => HQ.out _ _ _ _ hd h) (by assumption) (by assumption)
      case rest =>
      obtain ⟨rfl, hbl⟩ := hcut
      obtain ⟨wj, rfl⟩ : ∃ x : World, x = wc := ⟨_, rfl⟩
      have HKJ := Lib.hid (HKI.out.below hbl HKI.out.lt)
      have HBUJ := Lib.hid (HBUI.out.trans (hbl.mono HBUI.out.size))
      have HBWX := Lib.hid (HBWI.out.trans (hbl.mono HBWI.out.size))
      obtain ⟨FB, hFB⟩ : ∃ FB, FB = (!PB || uS E1 N1 m1 n0) := ⟨_, rfl⟩
      rw [← hFB]
      have HFJ := Lib.hid hFB
      clear hFB hbl
      have hic : (i : Int) ≤ (c2 : Int) := by have := GC.out.2; omega
      have hic2 : i ≤ c2 := by have := GC.out.2; omega
      have hi0 : (0 : Int) ≤ (i : Int) := by omega
      go_upto_block 12 with fail
      go_cut [29] from 248 to 248 (fun fv wx => fv = .bool (FB || uP E2 N2 i n0) ∧ Below wj.heap.size wj wx)
      case first => exact usedLoop2 hl2 hin G2 HBWX HKJ (Lib.hid fun _ _ _ _ hd h => HQ.out _ _ _ _ hd h) (by assumption) (by assumption)
      case rest =>
      obtain ⟨rfl, hbl⟩ := hcut
      obtain ⟨wr, rfl⟩ : ∃ x : World, x = wc := ⟨_, rfl⟩
      have HBI := Lib.hid hbl
      obtain ⟨FC, hFC⟩ : ∃ FC, FC = (FB || uP E2 N2 i n0) := ⟨_, rfl⟩
      rw [← hFC]
      have HFC := Lib.hid hFC
      clear hFC hbl
      have hnq2 : ¬ (i : Int) < (i : Int) := by omega
      have HUS := Lib.hid (show FC = (!PB || usedB m1 E1 N1 E2 N2 i n0) from by
        rw [HFC.out, HFJ.out, used_parts, Bool.or_assoc])
      have HBUX := Lib.hid (HBUJ.out.trans (HBI.out.mono HBUJ.out.size))
      have HKX := Lib.hid (HKJ.out.below HBI.out HKJ.out.lt)
      have HNA := Lib.hid (show E2 i 1 = e1 ∧ N2 i 0 = n0 from ⟨HE1.out.symm, HN0.out.symm⟩)
      cases FC
      case true =>
        have HMN2 := Lib.hid (miss_no (n1 := m1) (E1 := E1) (N1 := N1) (E2 := E2) (N2 := N2) (i := i) (fun h => by
          have h1 := HUS.out
          rw [HNA.out.1, HNA.out.2] at h
          rw [HPB.out, decide_eq_true h.1.1, h.1.2, h.2] at h1
          cases h1))
        go_wp2_with fail
        go_roundw
        case rel => exact ⟨i + 1, by go_num, by omega, HB.out.trans (HBUX.out.mono hszr), by rw [HMN2.out, ← HMI.out, HNI.out]; exact HR.out.below HBUX.out (Nat.le_refl _)⟩
        case measure => simp [intOf]; omega
      case false =>
        have HMY := Lib.hid (miss_yes (n1 := m1) (E1 := E1) (N1 := N1) (E2 := E2) (N2 := N2) (i := i) (by
          have h1 := HUS.out.symm
          rw [HNA.out.1, HNA.out.2]
          rw [HPB.out] at h1
          simp only [Bool.or_eq_false_iff, Bool.not_eq_false', Bool.and_eq_true, decide_eq_true_eq] at h1
          exact h1))
        obtain ⟨xs, hown, hxl, hxs⟩ := RowV.own (HR.out.below HBUX.out (Nat.le_refl _))
        rw [← HNI.out] at hown
        have HXL := Lib.hid hxl
        have HXS := Lib.hid hxs
        have HBQ := Lib.hid (HB.out.trans (HBUX.out.mono hszr))
        have hszq := HBQ.out.size
        have y10 : wr.cell? ⟨kc, 10, none⟩ = some (.string n0) := HKX.out.cell (i := 10) rfl
        obtain ⟨ii, hii, hz0, hz1, hz2⟩ := info_parts HIT.out
        clear hxl hxs
        go_upto_region 56 with fail
        go_wp2_with (at_builtin; go_loud (refine wpList_append_own _ rfl _ _ 29 rfl (wq.heap.size) 9 ii _ 1 16 Try.underlying29 hii hz0 hz1 hz2 rfl (by decide) _ _ _ rfl (RowL.alloc hown _) ⟨wr.heap.size, 0, none⟩ 1 1 [.string n0] rfl rfl ?k1 ?k2 ?k3 ?k4 ?k5 ?_))
        try (case k1 =>
          intro j u hj
          match j, hj with
          | 0, hj => (simp at hj; subst hj; simp [Addr.add]))
        try (case k2 => first | rfl | (intro u hu; simp at hu; subst hu; rfl))
        try (case k3 => unfold maxLen; (try simp); (try omega))
        try (case k4 => (try simp); (try omega))
        try (case k5 => (try simp); (try omega))
        intro v7 w7' hown7 hgrow _
        have HB6 := Lib.hid (Below.grown (B := wq.heap.size) (a := wq) (HBQ.out.alloc HBQ.out.size _) hgrow (by have := HBQ.out.size; simp; omega) (fun k hk => RowL.ge hown k hk))
        have HR6 := Lib.hid (str_push (s := n0) (L := MI) (by rw [← HNI.out]; exact hown7) HXL.out HXS.out)
        clear hown hown7 hgrow hii hz0 hz1 hz2
        go_wp2_with fail
        go_roundw
        case rel => exact ⟨i + 1, by go_num, by omega, HB6.out, by rw [HMY.out, ← HMI.out, HNA.out.2]; exact HR6.out⟩
        case measure => simp [intOf]; omega
    · obtain rfl : m2 = i := by omega
      have hnm : ¬ (m2 : Int) < (m2 : Int) := by omega
      go_wp2_with fail
      go_meet
      exact ⟨HB.out, by have h := HR.out; rw [HNI.out, HMI.out]; rw [HMI.out] at h; exact h⟩
end Go.Proofs.Ytabnohphgegflaa.MS
