



/-
  MasterShows: the law's walk: is a place on the slide itself (loop 6).
-/
import Derived.Test.YtabnohphgegflaaMsParts
namespace Go.Proofs.Ytabnohphgegflaa.MS
open Go.RowKit Go.Law Go.Law.Sh Go.Law.Ms ShT
set_option linter.unusedVariables false
set_option linter.unusedSimpArgs false
set_option maxRecDepth 100000
set_option maxHeartbeats 8000000 in
theorem usedLoop1 {m1 c1 : Nat} {E1 : Nat → Nat → Int} {N1 : Nat → Nat → ByteArray} {a1 : Option Addr} {w wi : World} {kc : Nat} {e0 e1 e2 e3 e4 e5 e6 e7 e8 e9 : Int} {n0 nt : ByteArray} {PB : Bool} (hl1 : m1 ≤ 20)
    (G1 : Hid (ShF w a1 m1 E1 N1)) (HBWI : Hid (Below w.heap.size w wi)) (HKI : Hid (Blk wi kc #[.int .i64 e0, .int .i64 e1, .int .i64 e2, .int .i64 e3, .int .i64 e4, .int .i64 e5, .int .i64 e6, .int .i64 e7, .int .i64 e8, .int .i64 e9, .string n0, .string nt] 24))
    {s0 s1 s2 s3 s4 s5 s6 s7 s8 s9 s10 s11 s12 s13 s14 s15 s16 s17 s18 s19 s20 s21 s22 s23 s24 s25 s26 s27 s30 s31 s32 s33 s34 s35 s36 s37 s38 s39 s40 s41 s42 s43 s44 s45 s46 s47 s48 s49 s50 s51 s52 s53 s54 s55 s56 s57 s58 s59 s60 s61 s62 s63 s64 s65 s66 s67 s68 s69 s70 s71 s72 s73 s74 s75 s76 s77 s78 s79 s80 s81 s82 s83 s84 s85 s86 s87 s88 s89 s90 s91 s92 s93 s94 s95 s96 s97 s98 s99 s100 s101 s102 s103 s104 s105 s106 s107 s108 s109 s110 s111 s112 s113 s114 s115 s116 s117 s118 s119 s120 s121 s122 s123 s124 s125 s126 s127 s128 s129 s130 s131 s132 s133 s134 s135 s136 s137 s138 s139 s140 s141 s142 s143 s144 s145 s146 s147 s148 s149 s150 s151 s152 s153 s154 s155 s156 s157 s158 s159 s160 s161 s162 s163 s164 s165 s166 s167 s168 s169 s170 s171 s172 s173 s174 s175 s176 s177 s178 s179 s180 s181 s182 s183 s184 s185 s186 s187 s188 s189 s190 s191 s192 s193 s194 s195 s196 s197 s198 s199 s200 s201 s202 s203 s204 s205 s206 s207 s208 s209 s210 s211 s212 s213 s214 s215 s216 s217 s218 s219 s220 s221 s222 s223 s227 s228 s229 s230 s231 s232 s233 s234 s235 s236 s237 s238 s239 s240 s241 s242 s243 s244 s245 s246 s247 s248 s249 s250 s251 s252 s253 s254 s255 s256 s257 s258 s259 s260 s261 s262 s263 s264 s265 s266 s267 s268 s269 s270 s271 s272 s273 s274 s275 s276 s277 s278 s279 s280 s281 s282 s283 s284 s285 s286 s287 s288 s289 s290 s291 s292 s293 s294 s295 s296 s297 s298 s299 s300 s301 s302 s303 s304 s305 s306 s307 s308 : Value} {J K : Act → World → Prop} {Q : Exit → Act → World → Prop}
    (HQ : Hid (∀ (c : List PanicEntry) (a a' : Act) (w : World), a.defers = a'.defers → Q (.panic c) a w → Q (.panic c) a' w))
    (hJ : ∀ (a' : Act) (w' : World), (∃ u29 u31 u226 u227 u228 u229 u230 u231 u232 u233 u234 u235 u236 u237 u238 u239 u240 u241 u242 u243 : Value, (u29 = .bool (!PB || uS E1 N1 m1 n0) ∧ Below wi.heap.size wi w') ∧ a' = ⟨#[s0, s1, s2, s3, s4, s5, s6, s7, s8, s9, s10, s11, s12, s13, s14, s15, s16, s17, s18, s19, s20, s21, s22, s23, s24, s25, s26, s27, .pointer (some ⟨kc, 0, none⟩), u29, s30, u31, s32, s33, s34, s35, s36, s37, s38, s39, s40, s41, s42, s43, s44, s45, s46, s47, s48, s49, s50, s51, s52, s53, s54, s55, s56, s57, s58, s59, s60, s61, s62, s63, s64, s65, s66, s67, s68, s69, s70, s71, s72, s73, s74, s75, s76, s77, s78, s79, s80, s81, s82, s83, s84, s85, s86, s87, s88, s89, s90, s91, s92, s93, s94, s95, s96, s97, s98, s99, s100, s101, s102, s103, s104, s105, s106, s107, s108, s109, s110, s111, s112, s113, s114, s115, s116, s117, s118, s119, s120, s121, s122, s123, s124, s125, s126, s127, s128, s129, s130, s131, s132, s133, s134, s135, s136, s137, s138, s139, s140, s141, s142, s143, s144, s145, s146, s147, s148, s149, s150, s151, s152, s153, s154, s155, s156, s157, s158, s159, s160, s161, s162, s163, s164, s165, s166, s167, s168, s169, s170, s171, s172, s173, s174, s175, s176, s177, s178, s179, s180, s181, s182, s183, s184, s185, s186, s187, s188, s189, s190, s191, s192, s193, s194, s195, s196, s197, s198, s199, s200, s201, s202, s203, s204, s205, s206, s207, s208, s209, s210, s211, s212, s213, s214, s215, s216, s217, s218, s219, s220, s221, s222, s223, .slice a1 m1 c1, .int .i64 m1, u226, u227, u228, u229, u230, u231, u232, u233, u234, u235, u236, u237, u238, u239, u240, u241, u242, u243, s244, s245, s246, s247, s248, s249, s250, s251, s252, s253, s254, s255, s256, s257, s258, s259, s260, s261, s262, s263, s264, s265, s266, s267, s268, s269, s270, s271, s272, s273, s274, s275, s276, s277, s278, s279, s280, s281, s282, s283, s284, s285, s286, s287, s288, s289, s290, s291, s292, s293, s294, s295, s296, s297, s298, s299, s300, s301, s302, s303, s304, s305, s306, s307, s308], []⟩) → J a' w')
    (hK : ∀ (a' : Act) (w' : World), Met J a' w' → K a' w') :
    Code.wp Try.prog (theBlk Try.f3 10) (Exit.then K Q) ⟨#[s0, s1, s2, s3, s4, s5, s6, s7, s8, s9, s10, s11, s12, s13, s14, s15, s16, s17, s18, s19, s20, s21, s22, s23, s24, s25, s26, s27, .pointer (some ⟨kc, 0, none⟩), .bool (!PB), s30, s31, s32, s33, s34, s35, s36, s37, s38, s39, s40, s41, s42, s43, s44, s45, s46, s47, s48, s49, s50, s51, s52, s53, s54, s55, s56, s57, s58, s59, s60, s61, s62, s63, s64, s65, s66, s67, s68, s69, s70, s71, s72, s73, s74, s75, s76, s77, s78, s79, s80, s81, s82, s83, s84, s85, s86, s87, s88, s89, s90, s91, s92, s93, s94, s95, s96, s97, s98, s99, s100, s101, s102, s103, s104, s105, s106, s107, s108, s109, s110, s111, s112, s113, s114, s115, s116, s117, s118, s119, s120, s121, s122, s123, s124, s125, s126, s127, s128, s129, s130, s131, s132, s133, s134, s135, s136, s137, s138, s139, s140, s141, s142, s143, s144, s145, s146, s147, s148, s149, s150, s151, s152, s153, s154, s155, s156, s157, s158, s159, s160, s161, s162, s163, s164, s165, s166, s167, s168, s169, s170, s171, s172, s173, s174, s175, s176, s177, s178, s179, s180, s181, s182, s183, s184, s185, s186, s187, s188, s189, s190, s191, s192, s193, s194, s195, s196, s197, s198, s199, s200, s201, s202, s203, s204, s205, s206, s207, s208, s209, s210, s211, s212, s213, s214, s215, s216, s217, s218, s219, s220, s221, s222, s223, .slice a1 m1 c1, .int .i64 m1, .int .i64 0, s227, s228, s229, s230, s231, s232, s233, s234, s235, s236, s237, s238, s239, s240, s241, s242, s243, s244, s245, s246, s247, s248, s249, s250, s251, s252, s253, s254, s255, s256, s257, s258, s259, s260, s261, s262, s263, s264, s265, s266, s267, s268, s269, s270, s271, s272, s273, s274, s275, s276, s277, s278, s279, s280, s281, s282, s283, s284, s285, s286, s287, s288, s289, s290, s291, s292, s293, s294, s295, s296, s297, s298, s299, s300, s301, s302, s303, s304, s305, s306, s307, s308], []⟩ wi := by
  conv => arg 2; whnf
  go_wp2_with fail
  go_loopw [29, 226] (fun fv iv wx => ∃ q : Nat, iv = .int .i64 q ∧ q ≤ m1 ∧ fv = .bool (!PB || uS E1 N1 q n0) ∧ Below wi.heap.size wi wx) (fun _ iv _ => m1 - (intOf iv).toNat)
  case atStart => exact ⟨0, rfl, by omega, by simp [uS], Below.refl _ _⟩
  case round =>
    obtain ⟨q, rfl, hq, rfl, hbl⟩ := hrel
    have HBI := Lib.hid hbl
    have HBWX := Lib.hid (HBWI.out.trans (hbl.mono HBWI.out.size))
    have hszx := hbl.size
    clear hbl
    obtain ⟨FB, hFB⟩ : ∃ FB, FB = (!PB || uS E1 N1 q n0) := ⟨_, rfl⟩
    rw [← hFB]
    have HFB := Lib.hid hFB
    clear hFB
    by_cases hqn : q < m1
    · skip
      have hqn2 : (q : Int) < (m1 : Int) := by omega
      obtain ⟨b2, off2, hba2, hcellG2⟩ := (G1.out.below (Nat.le_refl _) HBWX.out) (by omega)
      obtain ⟨hci, hc10, hc11⟩ := hcellG2 q (by omega)
      obtain ⟨m0, hm0⟩ : ∃ m, m = E1 q 0 := ⟨_, rfl⟩
      obtain ⟨m1', hm1⟩ : ∃ m, m = E1 q 1 := ⟨_, rfl⟩
      obtain ⟨m2', hm2⟩ : ∃ m, m = E1 q 2 := ⟨_, rfl⟩
      obtain ⟨m3, hm3⟩ : ∃ m, m = E1 q 3 := ⟨_, rfl⟩
      obtain ⟨m4, hm4⟩ : ∃ m, m = E1 q 4 := ⟨_, rfl⟩
      obtain ⟨m5, hm5⟩ : ∃ m, m = E1 q 5 := ⟨_, rfl⟩
      obtain ⟨m6, hm6⟩ : ∃ m, m = E1 q 6 := ⟨_, rfl⟩
      obtain ⟨m7, hm7⟩ : ∃ m, m = E1 q 7 := ⟨_, rfl⟩
      obtain ⟨m8, hm8⟩ : ∃ m, m = E1 q 8 := ⟨_, rfl⟩
      obtain ⟨m9, hm9⟩ : ∃ m, m = E1 q 9 := ⟨_, rfl⟩
      obtain ⟨mn', hmn⟩ : ∃ m, m = N1 q 0 := ⟨_, rfl⟩
      obtain ⟨mt, hmt⟩ : ∃ m, m = N1 q 1 := ⟨_, rfl⟩
      have d0 := hci 0 (by omega)
      rw [Nat.add_zero] at d0
      have d1 := hci 1 (by omega)
      have d2 := hci 2 (by omega)
      have d3 := hci 3 (by omega)
      have d4 := hci 4 (by omega)
      have d5 := hci 5 (by omega)
      have d6 := hci 6 (by omega)
      have d7 := hci 7 (by omega)
      have d8 := hci 8 (by omega)
      have d9 := hci 9 (by omega)
      rw [← hm0] at d0
      rw [← hm1] at d1
      rw [← hm2] at d2
      rw [← hm3] at d3
      rw [← hm4] at d4
      rw [← hm5] at d5
      rw [← hm6] at d6
      rw [← hm7] at d7
      rw [← hm8] at d8
      rw [← hm9] at d9
      rw [← hmn] at hc10
      rw [← hmt] at hc11
      have HM1 := Lib.hid hm1
      have HM3 := Lib.hid hm3
      have HM4 := Lib.hid hm4
      have HM5 := Lib.hid hm5
      have HM6 := Lib.hid hm6
      have HM7 := Lib.hid hm7
      have HMNM := Lib.hid hmn
      have zb := lt_of_cell d0
      simp only at zb
      clear hcellG2 hci hm0 hm1 hm2 hm3 hm4 hm5 hm6 hm7 hm8 hm9 hmn hmt
      have HFN := Lib.hid (show (!PB || uS E1 N1 (q + 1) n0) = (FB || (decide (m1' = 0) && decide (mn' = n0))) from by
        rw [uS_next, ← Bool.or_assoc, ← HFB.out, HM1.out, HMNM.out])
      subst hba2
      go_upto_region 48 with fail
      obtain ⟨wk, hwk⟩ : ∃ wk, wk = wr.alloc (Obj.cells #[.int .i64 m0, .int .i64 m1', .int .i64 m2', .int .i64 m3, .int .i64 m4, .int .i64 m5, .int .i64 m6, .int .i64 m7, .int .i64 m8, .int .i64 m9, .string mn', .string mt] 24) := ⟨_, rfl⟩
      obtain ⟨km, hkm⟩ : ∃ km, km = wr.heap.size := ⟨_, rfl⟩
      have HMB := Lib.hid (show Blk wk km #[.int .i64 m0, .int .i64 m1', .int .i64 m2', .int .i64 m3, .int .i64 m4, .int .i64 m5, .int .i64 m6, .int .i64 m7, .int .i64 m8, .int .i64 m9, .string mn', .string mt] 24 by rw [hwk, hkm]; exact Blk.new _ _ _)
      have HBK := Lib.hid (show Below wi.heap.size wi wk by rw [hwk]; exact HBI.out.alloc HBI.out.size _)
      have HKK := Lib.hid (show Blk wk kc #[.int .i64 e0, .int .i64 e1, .int .i64 e2, .int .i64 e3, .int .i64 e4, .int .i64 e5, .int .i64 e6, .int .i64 e7, .int .i64 e8, .int .i64 e9, .string n0, .string nt] 24 by rw [hwk]; exact (HKI.out.below HBI.out HKI.out.lt).alloc _)
      rw [← hwk, ← hkm]
      clear d0 d1 d2 d3 d4 d5 d6 d7 d8 d9 hc10 hc11 zb hwk hkm
      have z1 : wk.cell? ⟨km, 1, none⟩ = some (.int .i64 m1') := HMB.out.cell (i := 1) rfl
      have z10 : wk.cell? ⟨km, 10, none⟩ = some (.string mn') := HMB.out.cell (i := 10) rfl
      have y10 : wk.cell? ⟨kc, 10, none⟩ = some (.string n0) := HKK.out.cell (i := 10) rfl
      cases FB
      case true =>
        go_wp2_with fail
        go_roundw
        case rel => exact ⟨q + 1, by go_num, by omega, by rw [HFN.out]; rfl, HBK.out⟩
        case measure => simp [intOf]; omega
      case false =>
        by_cases h1 : m1' = 0
        case neg =>
          have f1 : (m1' == 0) = false := by simpa using h1
          have HFF := Lib.hid (show (!PB || uS E1 N1 (q + 1) n0) = false by rw [HFN.out, decide_eq_false h1]; rfl)
          clear h1
          go_wp2_with fail
          go_roundw
          case rel => exact ⟨q + 1, by go_num, by omega, by rw [HFF.out], HBK.out⟩
          case measure => simp [intOf]; omega
        have f1 : (m1' == 0) = true := by simpa using h1
        by_cases h2 : mn' = n0
        · have f2 : (mn'.toList == n0.toList) = true := by rw [str_eq]; exact decide_eq_true h2
          have HFF := Lib.hid (show (!PB || uS E1 N1 (q + 1) n0) = true by rw [HFN.out, decide_eq_true h1, decide_eq_true h2]; rfl)
          clear h1 h2
          go_wp2_with fail
          go_roundw
          case rel => exact ⟨q + 1, by go_num, by omega, by rw [HFF.out], HBK.out⟩
          case measure => simp [intOf]; omega
        · have f2 : (mn'.toList == n0.toList) = false := by rw [str_eq]; exact decide_eq_false h2
          have HFF := Lib.hid (show (!PB || uS E1 N1 (q + 1) n0) = false by rw [HFN.out, decide_eq_true h1, decide_eq_false h2]; rfl)
          clear h1 h2
          go_wp2_with fail
          go_roundw
          case rel => exact ⟨q + 1, by go_num, by omega, by rw [HFF.out], HBK.out⟩
          case measure => simp [intOf]; omega
    · obtain rfl : m1 = q := by omega
      have hnq : ¬ (m1 : Int) < (m1 : Int) := by omega
      go_wp2_with fail
      go_meet
      exact ⟨by rw [HFB.out], HBI.out⟩
end Go.Proofs.Ytabnohphgegflaa.MS
