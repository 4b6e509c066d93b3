



/-
  MasterShows: the law's walk: what is left of a layout (loop 3).
-/
import Derived.Test.YtabnohphgegflaaMsParts
import Derived.Test.YtabnohphgegflaaMsMovLoop
namespace Go.Proofs.Ytabnohphgegflaa.MS
open Go.RowKit Go.Law Go.Law.Sh Go.Law.Ms ShT
set_option linter.unusedVariables false
set_option linter.unusedSimpArgs false
set_option maxRecDepth 100000
set_option maxHeartbeats 8000000 in
theorem frontLoop {m1 m2 c1 c2 : Nat} {E1 E2 : Nat → Nat → Int} {N1 N2 : Nat → Nat → ByteArray} {a1 a2 : Option Addr} {w wo : World} (hl1 : m1 ≤ 20) (hl2 : m2 ≤ 20) (GC : Hid (m1 ≤ c1 ∧ m2 ≤ c2))
    (G1 : Hid (ShF w a1 m1 E1 N1)) (G2 : Hid (ShF w a2 m2 E2 N2)) (E20 : Hid (shE m2 E2 = 0)) (HBWB : Hid (Below w.heap.size w wo)) (HIS : Hid ((Try.prog.info? 24).map (fun i => (i.zero, i.size, i.bytes)) = some (some (.agg #[.int .i64 0, .int .i64 0, .int .i64 0, .int .i64 0, .int .i64 0, .int .i64 0, .int .i64 0, .int .i64 0, .int .i64 0, .int .i64 0, .string ⟨#[]⟩, .string ⟨#[]⟩]), 12, 112)))
    {s0 s2 s3 s4 s5 s6 s7 s8 s9 s10 s11 s12 s13 s14 s15 s16 s17 s18 s19 s20 s22 s23 s24 s25 s26 s27 s28 s29 s30 s31 s32 s33 s34 s35 s36 s37 s38 s39 s40 s41 s42 s43 s44 s45 s46 s47 s48 s49 s50 s51 s52 s53 s54 s55 s56 s57 s58 s59 s60 s61 s62 s63 s64 s65 s66 s67 s68 s69 s70 s71 s72 s73 s74 s75 s76 s77 s78 s79 s80 s81 s82 s83 s84 s85 s86 s87 s88 s89 s90 s91 s92 s93 s94 s95 s96 s97 s98 s99 s100 s101 s102 s103 s104 s105 s106 s107 s108 s109 s110 s111 s112 s113 s114 s115 s116 s117 s118 s119 s120 s121 s122 s123 s124 s125 s126 s127 s128 s129 s130 s131 s132 s133 s134 s135 s136 s137 s138 s139 s140 s141 s142 s143 s144 s145 s146 s147 s148 s149 s150 s151 s152 s153 s154 s158 s159 s160 s161 s162 s163 s164 s165 s166 s167 s168 s169 s170 s171 s172 s173 s174 s175 s176 s177 s178 s179 s180 s181 s182 s183 s184 s185 s186 s187 s188 s189 s190 s191 s192 s193 s194 s195 s196 s197 s198 s199 s200 s201 s202 s203 s204 s205 s206 s207 s208 s209 s210 s211 s212 s213 s214 s215 s216 s217 s218 s219 s220 s221 s222 s223 s224 s225 s226 s227 s228 s229 s230 s231 s232 s233 s234 s235 s236 s237 s238 s239 s240 s241 s242 s243 s244 s245 s246 s247 s248 s249 s250 s251 s252 s253 s254 s255 s256 s257 s258 s259 s260 s261 s262 s263 s264 s265 s266 s267 s268 s269 s270 s271 s272 s273 s274 s275 s276 s277 s278 s279 s280 s281 s282 s283 s284 s285 s286 s287 s288 s289 s290 s291 s292 s293 s294 s295 s296 s297 s298 s299 s300 s301 s302 s303 s304 s305 s306 s307 s308 : Value} {J K : Act → World → Prop} {Q : Exit → Act → World → Prop}
    (HQ : Hid (∀ (c : List PanicEntry) (a a' : Act) (w : World), a.defers = a'.defers → Q (.panic c) a w → Q (.panic c) a' w))
    (hJ : ∀ (a' : Act) (w' : World), (∃ u21 u24 u25 u26 u157 u158 u159 u160 u161 u162 u163 u164 u165 u166 u167 u168 u169 u170 u171 u172 u173 u174 u175 u176 u177 u178 u179 u180 u181 u182 u183 u184 u185 u186 u187 u188 u189 u190 u191 u192 u193 u194 u195 u196 u197 u198 u199 u200 u201 u202 u203 u204 u205 u206 u207 u208 u209 u210 u211 u212 u213 : Value, (Below wo.heap.size wo w' ∧ RowV w' wo.heap.size 24 12 u21 m1 (fun q => (frontD m2 E2 N2 (shD E1 N1 q)).V)) ∧ a' = ⟨#[s0, .slice a2 m2 c2, s2, s3, s4, s5, s6, s7, s8, s9, s10, s11, s12, s13, s14, s15, s16, s17, s18, s19, s20, u21, s22, s23, u24, u25, u26, s27, s28, s29, s30, s31, s32, s33, s34, s35, s36, s37, s38, s39, s40, s41, s42, s43, s44, s45, s46, s47, s48, s49, s50, s51, s52, s53, s54, s55, s56, s57, s58, s59, s60, s61, s62, s63, s64, s65, s66, s67, s68, s69, s70, s71, s72, s73, s74, s75, s76, s77, s78, s79, s80, s81, s82, s83, s84, s85, s86, s87, s88, s89, s90, s91, s92, s93, s94, s95, s96, s97, s98, s99, s100, s101, s102, s103, s104, s105, s106, s107, s108, s109, s110, s111, s112, s113, s114, s115, s116, s117, s118, s119, s120, s121, s122, s123, s124, s125, s126, s127, s128, s129, s130, s131, s132, s133, s134, s135, s136, s137, s138, s139, s140, s141, s142, s143, s144, s145, s146, s147, s148, s149, s150, s151, s152, s153, s154, .slice a1 m1 c1, .int .i64 m1, u157, u158, u159, u160, u161, u162, u163, u164, u165, u166, u167, u168, u169, u170, u171, u172, u173, u174, u175, u176, u177, u178, u179, u180, u181, u182, u183, u184, u185, u186, u187, u188, u189, u190, u191, u192, u193, u194, u195, u196, u197, u198, u199, u200, u201, u202, u203, u204, u205, u206, u207, u208, u209, u210, u211, u212, u213, s214, s215, s216, s217, s218, s219, s220, s221, s222, s223, s224, s225, s226, s227, s228, s229, s230, s231, s232, s233, s234, s235, s236, s237, s238, s239, s240, s241, s242, s243, s244, s245, s246, s247, s248, s249, s250, s251, s252, s253, s254, s255, s256, s257, s258, s259, s260, s261, s262, s263, s264, s265, s266, s267, s268, s269, s270, s271, s272, s273, s274, s275, s276, s277, s278, s279, s280, s281, s282, s283, s284, s285, s286, s287, s288, s289, s290, s291, s292, s293, s294, s295, s296, s297, s298, s299, s300, s301, s302, s303, s304, s305, s306, s307, s308], []⟩) → J a' w')
    (hK : ∀ (a' : Act) (w' : World), Met J a' w' → K a' w') :
    Code.wp Try.prog (theBlk Try.f3 4) (Exit.then K Q) ⟨#[s0, .slice a2 m2 c2, s2, s3, s4, s5, s6, s7, s8, s9, s10, s11, s12, s13, s14, s15, s16, s17, s18, s19, s20, .slice none 0 0, s22, s23, s24, s25, s26, s27, s28, s29, s30, s31, s32, s33, s34, s35, s36, s37, s38, s39, s40, s41, s42, s43, s44, s45, s46, s47, s48, s49, s50, s51, s52, s53, s54, s55, s56, s57, s58, s59, s60, s61, s62, s63, s64, s65, s66, s67, s68, s69, s70, s71, s72, s73, s74, s75, s76, s77, s78, s79, s80, s81, s82, s83, s84, s85, s86, s87, s88, s89, s90, s91, s92, s93, s94, s95, s96, s97, s98, s99, s100, s101, s102, s103, s104, s105, s106, s107, s108, s109, s110, s111, s112, s113, s114, s115, s116, s117, s118, s119, s120, s121, s122, s123, s124, s125, s126, s127, s128, s129, s130, s131, s132, s133, s134, s135, s136, s137, s138, s139, s140, s141, s142, s143, s144, s145, s146, s147, s148, s149, s150, s151, s152, s153, s154, .slice a1 m1 c1, .int .i64 m1, .int .i64 0, s158, s159, s160, s161, s162, s163, s164, s165, s166, s167, s168, s169, s170, s171, s172, s173, s174, s175, s176, s177, s178, s179, s180, s181, s182, s183, s184, s185, s186, s187, s188, s189, s190, s191, s192, s193, s194, s195, s196, s197, s198, s199, s200, s201, s202, s203, s204, s205, s206, s207, s208, s209, s210, s211, s212, s213, s214, s215, s216, s217, s218, s219, s220, s221, s222, s223, s224, s225, s226, s227, s228, s229, s230, s231, s232, s233, s234, s235, s236, s237, s238, s239, s240, s241, s242, s243, s244, s245, s246, s247, s248, s249, s250, s251, s252, s253, s254, s255, s256, s257, s258, s259, s260, s261, s262, s263, s264, s265, s266, s267, s268, s269, s270, s271, s272, s273, s274, s275, s276, s277, s278, s279, s280, s281, s282, s283, s284, s285, s286, s287, s288, s289, s290, s291, s292, s293, s294, s295, s296, s297, s298, s299, s300, s301, s302, s303, s304, s305, s306, s307, s308], []⟩ wo := by
  conv => arg 2; whnf
  go_wp2_with fail
  go_loopw [21, 157] (fun fv iv wx => ∃ j : Nat, iv = .int .i64 j ∧ j ≤ m1 ∧ Below wo.heap.size wo wx ∧ RowV wx wo.heap.size 24 12 fv j (fun q => (frontD m2 E2 N2 (shD E1 N1 q)).V)) (fun _ iv _ => m1 - (intOf iv).toNat)
  case atStart => exact ⟨0, rfl, by omega, Below.refl _ _, RowV.nil _ _ _ _ _⟩
  case round =>
    obtain ⟨j, rfl, hj, hbel, hrow⟩ := hrel
    obtain ⟨wq, rfl⟩ : ∃ wq : World, wq = wr := ⟨_, rfl⟩
    have HB := Lib.hid hbel
    have hszr := hbel.size
    obtain ⟨fa, fc, hfv, _, _⟩ := RowV.slice hrow
    subst hfv
    have HR := Lib.hid hrow
    have HBW := Lib.hid (HBWB.out.trans (hbel.mono HBWB.out.size))
    clear hbel hrow
    by_cases hjn : j < m1
    · have hjn2 : (j : Int) < (m1 : Int) := by omega
      obtain ⟨b, off, hba, hcellG⟩ := (G1.out.below (Nat.le_refl _) HBW.out) (by omega)
      have hcell := hcellG j hjn
      clear hcellG
      obtain ⟨hci, hc10, hc11⟩ := hcell
      have d0 := hci 0 (by omega)
      rw [Nat.add_zero] at d0
      have d1 := hci 1 (by omega)
      have d2 := hci 2 (by omega)
      have d3 := hci 3 (by omega)
      have d4 := hci 4 (by omega)
      have d5 := hci 5 (by omega)
      have d6 := hci 6 (by omega)
      have d7 := hci 7 (by omega)
      have d8 := hci 8 (by omega)
      have d9 := hci 9 (by omega)
      have zb := lt_of_cell d0
      simp only at zb
      clear hci
      obtain ⟨e0, he0⟩ : ∃ e, e = E1 j 0 := ⟨_, rfl⟩
      obtain ⟨e1, he1⟩ : ∃ e, e = E1 j 1 := ⟨_, rfl⟩
      obtain ⟨e2, he2⟩ : ∃ e, e = E1 j 2 := ⟨_, rfl⟩
      obtain ⟨e3, he3⟩ : ∃ e, e = E1 j 3 := ⟨_, rfl⟩
      obtain ⟨e4, he4⟩ : ∃ e, e = E1 j 4 := ⟨_, rfl⟩
      obtain ⟨e5, he5⟩ : ∃ e, e = E1 j 5 := ⟨_, rfl⟩
      obtain ⟨e6, he6⟩ : ∃ e, e = E1 j 6 := ⟨_, rfl⟩
      obtain ⟨e7, he7⟩ : ∃ e, e = E1 j 7 := ⟨_, rfl⟩
      obtain ⟨e8, he8⟩ : ∃ e, e = E1 j 8 := ⟨_, rfl⟩
      obtain ⟨e9, he9⟩ : ∃ e, e = E1 j 9 := ⟨_, rfl⟩
      obtain ⟨n0, hn0⟩ : ∃ e, e = N1 j 0 := ⟨_, rfl⟩
      obtain ⟨nt, hnt⟩ : ∃ e, e = N1 j 1 := ⟨_, rfl⟩
      rw [← he0] at d0
      rw [← he1] at d1
      rw [← he2] at d2
      rw [← he3] at d3
      rw [← he4] at d4
      rw [← he5] at d5
      rw [← he6] at d6
      rw [← he7] at d7
      rw [← he8] at d8
      rw [← he9] at d9
      rw [← hn0] at hc10
      rw [← hnt] at hc11
      have HE0 := Lib.hid he0
      have HE1 := Lib.hid he1
      have HE2 := Lib.hid he2
      have HE3 := Lib.hid he3
      have HE4 := Lib.hid he4
      have HE5 := Lib.hid he5
      have HE6 := Lib.hid he6
      have HE7 := Lib.hid he7
      have HE8 := Lib.hid he8
      have HE9 := Lib.hid he9
      have HN0 := Lib.hid hn0
      have HNT := Lib.hid hnt
      clear he0 he1 he2 he3 he4 he5 he6 he7 he8 he9 hn0 hnt
      have HSD := Lib.hid (show shD E1 N1 j = ⟨e0, e1, e2, e3, e4, e5, e6, e7, e8, e9, n0, nt⟩ by rw [HE0.out, HE1.out, HE2.out, HE3.out, HE4.out, HE5.out, HE6.out, HE7.out, HE8.out, HE9.out, HN0.out, HNT.out]; rfl)
      subst hba
      go_upto_region 32 with fail
      obtain ⟨wb, hwb⟩ : ∃ wb, wb = wq.alloc (Obj.cells #[.int .i64 e0, .int .i64 e1, .int .i64 e2, .int .i64 e3, .int .i64 e4, .int .i64 e5, .int .i64 e6, .int .i64 e7, .int .i64 e8, .int .i64 e9, .string n0, .string nt] 24) := ⟨_, rfl⟩
      have HK := Lib.hid (show Blk wb wq.heap.size #[.int .i64 e0, .int .i64 e1, .int .i64 e2, .int .i64 e3, .int .i64 e4, .int .i64 e5, .int .i64 e6, .int .i64 e7, .int .i64 e8, .int .i64 e9, .string n0, .string nt] 24 by rw [hwb]; exact Blk.new _ _ _)
      have HBO := Lib.hid (show Below wq.heap.size wq wb by rw [hwb]; exact (Below.refl _ _).alloc (Nat.le_refl _) _)
      rw [← hwb]
      obtain ⟨kc, hkc⟩ : ∃ kc, kc = wq.heap.size := ⟨_, rfl⟩
      have hkc1 : wq.heap.size ≤ kc := by omega
      rw [← hkc] at HK ⊢
      clear d0 d1 d2 d3 d4 d5 d6 d7 d8 d9 hc10 hc11 zb hwb hkc
      obtain ⟨TB, hTB⟩ : ∃ TB, TB = decide (e1 = 0 ∧ e5 = 0 ∧ e6 = 0) := ⟨_, rfl⟩
      have HTB := Lib.hid hTB
      clear hTB
      go_cut [173] from 161 to 173 (fun tv wx => tv = .bool TB ∧ wx = wb)
      case first =>
        have y1 : wb.cell? ⟨kc, 1, none⟩ = some (.int .i64 e1) := HK.out.cell (i := 1) rfl
        have y5 : wb.cell? ⟨kc, 5, none⟩ = some (.int .i64 e5) := HK.out.cell (i := 5) rfl
        have y6 : wb.cell? ⟨kc, 6, none⟩ = some (.int .i64 e6) := HK.out.cell (i := 6) rfl
        by_cases h2 : e1 = 0
        case neg =>
          have HT := Lib.hid (show TB = false by rw [HTB.out]; exact decide_eq_false (fun h => h2 h.1))
          have f2 : (e1 == 0) = false := by simpa using h2
          clear h2
          go_wp2_with fail
          go_meet
          exact ⟨by rw [HT.out], rfl⟩
        have f2 : (e1 == 0) = true := by simpa using h2
        by_cases h3 : e5 = 0
        case neg =>
          have HT := Lib.hid (show TB = false by rw [HTB.out]; exact decide_eq_false (fun h => h3 h.2.1))
          have f3 : (e5 == 0) = false := by simpa using h3
          clear h2 h3
          go_wp2_with fail
          go_meet
          exact ⟨by rw [HT.out], rfl⟩
        have f3 : (e5 == 0) = true := by simpa using h3
        by_cases h4 : e6 = 0
        case neg =>
          have HT := Lib.hid (show TB = false by rw [HTB.out]; exact decide_eq_false (fun h => h4 h.2.2))
          have f4 : (e6 == 0) = false := by simpa using h4
          clear h2 h3 h4
          go_wp2_with fail
          go_meet
          exact ⟨by rw [HT.out], rfl⟩
        have f4 : (e6 == 0) = true := by simpa using h4
        have HT := Lib.hid (show TB = true by rw [HTB.out]; exact decide_eq_true ⟨h2, h3, h4⟩)
        clear h2 h3 h4
        go_wp2_with fail
        go_meet
        exact ⟨by rw [HT.out], rfl⟩
      case rest =>
      obtain ⟨rfl, hw5⟩ := hcut
      obtain rfl : wb = wc := hw5.symm
      clear hw5
      cases TB
      case false =>
        have HFD := Lib.hid (show frontD m2 E2 N2 (shD E1 N1 j) = ⟨e0, e1, e2, e3, e4, e5, e6, e7, e8, e9, n0, nt⟩ by rw [HSD.out]; exact front_not (of_decide_eq_false HTB.out.symm))
        have HBQ := Lib.hid (HB.out.trans ((HBO).out.mono hszr))
        obtain ⟨xs, hown, hxl, hxs⟩ := RowV.own (HR.out.below (HBO).out (Nat.le_refl _))
        have HXL := Lib.hid hxl
        have HXS := Lib.hid hxs
        have hszq := HBQ.out.size
        clear hxl hxs
        go_upto_region 39 with fail
        have HRNa := Lib.hid (show wb.rangeAt kc 0 [.int .i64 e0, .int .i64 e1, .int .i64 e2, .int .i64 e3, .int .i64 e4, .int .i64 e5, .int .i64 e6, .int .i64 e7, .int .i64 e8, .int .i64 e9, .string n0, .string nt] from fun j v hj => by rw [Nat.zero_add]; exact (HK).out.cell (by simpa using hj))
        refine wp_region_lit ?_
        refine cut_at 1 (fun R hR => ?_)
        have HRAsa := Lib.hid hR
        clear hR
        simp only [List.take_succ_cons, List.take_zero, List.cons_append, List.nil_append]
        go_wp2_with fail
        rw [HRAsa.out]
        simp only [List.drop_succ_cons, List.drop_zero]
        refine wpList_load_mid rfl 24 _ rfl kc 0 rfl _ _ HRNa.out Try.underlying24 rfl (by kernel_rfl) ?_
        simp only [Act.put, List.setIfInBounds_toArray, List.set_cons_zero, List.set_cons_succ]
        obtain ⟨ii, hii, hz0, hz1, hz2⟩ := info_parts HIS.out
        go_wp2_with (at_builtin; go_loud (refine wpList_append_own _ rfl _ _ 22 rfl (wo.heap.size) 24 ii _ 12 112 Try.underlying22 hii hz0 hz1 hz2 rfl (by decide) _ _ _ rfl (RowL.alloc hown _) ⟨wb.heap.size, 0, none⟩ 1 1 [.int .i64 e0, .int .i64 e1, .int .i64 e2, .int .i64 e3, .int .i64 e4, .int .i64 e5, .int .i64 e6, .int .i64 e7, .int .i64 e8, .int .i64 e9, .string n0, .string nt] rfl rfl ?k1a ?k2a ?k3a ?k4a ?k5a ?_))
        try (case k1a =>
          intro j u hj
          have e : Addr.add ⟨wb.heap.size, 0, none⟩ j = ⟨wb.heap.size, j, none⟩ := by simp [Addr.add]; omega
          rw [e]
          exact (Blk.new wb _ _).cell (by simpa using hj))
        try (case k2a => intro u hu; simp at hu; rcases hu with rfl | rfl | rfl | rfl | rfl | rfl | rfl | rfl | rfl | rfl | rfl | rfl <;> rfl)
        try (case k3a => unfold maxLen; (try simp); (try omega))
        try (case k4a => (try simp); (try omega))
        try (case k5a => (try simp); (try omega))
        intro v6 w6 hown6 hgrow _
        clear hii hz0 hz1 hz2
        have HB6 := Lib.hid (Below.grown (B := wo.heap.size) (a := wo) (HBQ.out.alloc HBQ.out.size _) hgrow (by have := HBQ.out.size; simp; omega) (fun k hk => RowL.ge hown k hk))
        have HR6 := Lib.hid (RowV.push (V' := fun q => (frontD m2 E2 N2 (shD E1 N1 q)).V) hown6 HXL.out HXS.out (fun q hq => by show _ = some ((frontD m2 E2 N2 (shD E1 N1 j)).V q); rw [HFD.out]; exact ShD.V_get (⟨e0, e1, e2, e3, e4, e5, e6, e7, e8, e9, n0, nt⟩ : ShD) hq) (fun a ha q hq => rfl))
        clear hown hown6 hgrow
        go_wp2_with fail
        go_roundw
        case rel => exact ⟨j + 1, by go_num, by omega, HB6.out, HR6.out⟩
        case measure => simp [intOf]; omega
      case true =>
        have HFM := Lib.hid (show frontD m2 E2 N2 (shD E1 N1 j) = movD E2 ⟨e0, e1, e2, e3, e4, e5, e6, e7, e8, e9, n0, nt⟩ (pfrom m2 E2 N2 n0 0) by rw [HSD.out, pfrom_zero]; exact front_mov (of_decide_eq_true HTB.out.symm))
        go_upto_block 6 with fail
        go_cut [] from 177 to 177 (fun wx => Below wq.heap.size wq wx ∧ Blk wx kc #[.int .i64 e0, .int .i64 e1, .int .i64 e2, .int .i64 (movD E2 ⟨e0, e1, e2, e3, e4, e5, e6, e7, e8, e9, n0, nt⟩ (pfrom m2 E2 N2 n0 0)).x, .int .i64 (movD E2 ⟨e0, e1, e2, e3, e4, e5, e6, e7, e8, e9, n0, nt⟩ (pfrom m2 E2 N2 n0 0)).y, .int .i64 (movD E2 ⟨e0, e1, e2, e3, e4, e5, e6, e7, e8, e9, n0, nt⟩ (pfrom m2 E2 N2 n0 0)).w, .int .i64 (movD E2 ⟨e0, e1, e2, e3, e4, e5, e6, e7, e8, e9, n0, nt⟩ (pfrom m2 E2 N2 n0 0)).h, .int .i64 (movD E2 ⟨e0, e1, e2, e3, e4, e5, e6, e7, e8, e9, n0, nt⟩ (pfrom m2 E2 N2 n0 0)).tu, .int .i64 e8, .int .i64 e9, .string n0, .string nt] 24)
        case first => exact movLoop hl2 (Lib.hid GC.out.2) G2 E20 HBW HBO HK hkc1 (Lib.hid fun _ _ _ _ hd h => HQ.out _ _ _ _ hd h) (by assumption) (by assumption)
        case rest =>
        clear HK HBO
        obtain ⟨hbx, hkx⟩ := hcut
        have HBX := Lib.hid hbx
        have hszx := hbx.size
        obtain ⟨MV, hMV⟩ : ∃ MV, MV = movD E2 ⟨e0, e1, e2, e3, e4, e5, e6, e7, e8, e9, n0, nt⟩ (pfrom m2 E2 N2 n0 0) := ⟨_, rfl⟩
        rw [← hMV] at hkx
        have HMV := Lib.hid hMV
        obtain ⟨o3, ho3⟩ : ∃ o, o = MV.x := ⟨_, rfl⟩
        obtain ⟨o4, ho4⟩ : ∃ o, o = MV.y := ⟨_, rfl⟩
        obtain ⟨o5, ho5⟩ : ∃ o, o = MV.w := ⟨_, rfl⟩
        obtain ⟨o6, ho6⟩ : ∃ o, o = MV.h := ⟨_, rfl⟩
        obtain ⟨o7, ho7⟩ : ∃ o, o = MV.tu := ⟨_, rfl⟩
        rw [← ho3, ← ho4, ← ho5, ← ho6, ← ho7] at hkx
        have HKX := Lib.hid hkx
        have HO := Lib.hid (show (o3 = MV.x ∧ o4 = MV.y) ∧ (o5 = MV.w ∧ o6 = MV.h) ∧ o7 = MV.tu from ⟨⟨ho3, ho4⟩, ⟨ho5, ho6⟩, ho7⟩)
        clear hbx hkx hMV ho3 ho4 ho5 ho6 ho7
        have HFD := Lib.hid (show frontD m2 E2 N2 (shD E1 N1 j) = ⟨e0, e1, e2, o3, o4, o5, o6, o7, e8, e9, n0, nt⟩ by
          rw [HFM.out, ← HMV.out, HO.out.1.1, HO.out.1.2, HO.out.2.1.1, HO.out.2.1.2, HO.out.2.2, HMV.out]
          exact mov_eq _ _ _)
        have HBQ := Lib.hid (HB.out.trans ((HBX).out.mono hszr))
        obtain ⟨xs, hown, hxl, hxs⟩ := RowV.own (HR.out.below (HBX).out (Nat.le_refl _))
        have HXL := Lib.hid hxl
        have HXS := Lib.hid hxs
        have hszq := HBQ.out.size
        clear hxl hxs
        go_upto_region 39 with fail
        have HRNb := Lib.hid (show wc.rangeAt kc 0 [.int .i64 e0, .int .i64 e1, .int .i64 e2, .int .i64 o3, .int .i64 o4, .int .i64 o5, .int .i64 o6, .int .i64 o7, .int .i64 e8, .int .i64 e9, .string n0, .string nt] from fun j v hj => by rw [Nat.zero_add]; exact (HKX).out.cell (by simpa using hj))
        refine wp_region_lit ?_
        refine cut_at 1 (fun R hR => ?_)
        have HRAsb := Lib.hid hR
        clear hR
        simp only [List.take_succ_cons, List.take_zero, List.cons_append, List.nil_append]
        go_wp2_with fail
        rw [HRAsb.out]
        simp only [List.drop_succ_cons, List.drop_zero]
        refine wpList_load_mid rfl 24 _ rfl kc 0 rfl _ _ HRNb.out Try.underlying24 rfl (by kernel_rfl) ?_
        simp only [Act.put, List.setIfInBounds_toArray, List.set_cons_zero, List.set_cons_succ]
        obtain ⟨ii, hii, hz0, hz1, hz2⟩ := info_parts HIS.out
        go_wp2_with (at_builtin; go_loud (refine wpList_append_own _ rfl _ _ 22 rfl (wo.heap.size) 24 ii _ 12 112 Try.underlying22 hii hz0 hz1 hz2 rfl (by decide) _ _ _ rfl (RowL.alloc hown _) ⟨wc.heap.size, 0, none⟩ 1 1 [.int .i64 e0, .int .i64 e1, .int .i64 e2, .int .i64 o3, .int .i64 o4, .int .i64 o5, .int .i64 o6, .int .i64 o7, .int .i64 e8, .int .i64 e9, .string n0, .string nt] rfl rfl ?k1b ?k2b ?k3b ?k4b ?k5b ?_))
        try (case k1b =>
          intro j u hj
          have e : Addr.add ⟨wc.heap.size, 0, none⟩ j = ⟨wc.heap.size, j, none⟩ := by simp [Addr.add]; omega
          rw [e]
          exact (Blk.new wc _ _).cell (by simpa using hj))
        try (case k2b => intro u hu; simp at hu; rcases hu with rfl | rfl | rfl | rfl | rfl | rfl | rfl | rfl | rfl | rfl | rfl | rfl <;> rfl)
        try (case k3b => unfold maxLen; (try simp); (try omega))
        try (case k4b => (try simp); (try omega))
        try (case k5b => (try simp); (try omega))
        intro v6 w6 hown6 hgrow _
        clear hii hz0 hz1 hz2
        have HB6 := Lib.hid (Below.grown (B := wo.heap.size) (a := wo) (HBQ.out.alloc HBQ.out.size _) hgrow (by have := HBQ.out.size; simp; omega) (fun k hk => RowL.ge hown k hk))
        have HR6 := Lib.hid (RowV.push (V' := fun q => (frontD m2 E2 N2 (shD E1 N1 q)).V) hown6 HXL.out HXS.out (fun q hq => by show _ = some ((frontD m2 E2 N2 (shD E1 N1 j)).V q); rw [HFD.out]; exact ShD.V_get (⟨e0, e1, e2, o3, o4, o5, o6, o7, e8, e9, n0, nt⟩ : ShD) hq) (fun a ha q hq => rfl))
        clear hown hown6 hgrow
        go_wp2_with fail
        go_roundw
        case rel => exact ⟨j + 1, by go_num, by omega, HB6.out, HR6.out⟩
        case measure => simp [intOf]; omega
    · obtain rfl : m1 = j := by omega
      have hnj : ¬ (m1 : Int) < (m1 : Int) := by omega
      go_wp2_with fail
      go_meet
      exact ⟨HB.out, HR.out⟩
end Go.Proofs.Ytabnohphgegflaa.MS
