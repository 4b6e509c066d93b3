/-
  BdREmY, BdREmA.
-/
import Derived.Test.YtojbicdmcodgdaaDoorBdM24
import Derived.Test.YtojbicdmcodgdaaDoorBdM25
import Derived.Test.YtojbicdmcodgdaaDoorBdM06
import Derived.Test.YtojbicdmcodgdaaDoorBdM26
import Derived.Test.YtojbicdmcodgdaaDoorBdM04
import Derived.Test.YtojbicdmcodgdaaDoorBdM07
import Derived.Deep.CutRange
import Derived.Deep.CutBlock
namespace Go.Proofs.YtojbicdmcodgdaaDoor.BD
open Go.RowKit Go.Law Go.Law.Bd
set_option linter.unusedVariables false
set_option linter.unusedSimpArgs false
set_option maxRecDepth 100000
set_option maxHeartbeats 8000000 in
theorem emE16 {p : EmP} {b : Ent} {w0 wz : World} {i oi oe va T gs cs cb tb : Nat} {e : Est} {t : List Ent} {lv ov nx k base : Int} {iso ft : Bool}
    (OK : Hid (EmOk p w0)) (HEK : Hid (EstOk b i e)) (HEK2 : Hid (EstOk b (i + 1) (estAt b p.K p.n (i + 1)))) (HXT : Hid (e.st = ⟨lv, ov, iso⟩ :: t)) (HOI : Hid (oi = e.oi)) (HOE : Hid (oe = e.oe)) (HVA : Hid (va = e.va)) (HNX : Hid (nextB b p.K p.n i e = nx)) (HFT : Hid (ft = true ↔ fitsB b p.K p.n i e))
    (HK : Hid (k = p.K i)) (HE : Hid (e = estAt b p.K p.n i)) (HST : Hid (estAt b p.K p.n (i + 1) = estStep b p.K p.n i e)) (HTL : Hid (T = t.length)) (HBD : Hid (b = ⟨base, -1, false⟩))
    (HZ : Hid (Em p b (prt (clE b p.K p.n) p.K i) (prt (lvE b p.K p.n) (fun _ => 0) i) (prtB (ouE p.K) (fun _ => false) i) w0 wz (.slice (some ⟨gs, 0, none⟩) (T + 1) cs) (⟨lv, ov, iso⟩ :: t)))
    (HCB : Hid (Blk wz cb #[.pointer (some ⟨p.g, i * 5, none⟩)] 76)) (HTB : Hid (Blk wz tb #[.int .i64 lv, .int .i64 ov, .bool iso] 74)) (hcw : w0.heap.size ≤ cb) (htw : w0.heap.size ≤ tb)
    (hin : i < p.n) (hn2 : p.n ≤ 200) (hTs : T + 1 ≤ i + 1) (hoib : oi ≤ i) (hoeb : oe ≤ i) (hvab : va ≤ i) (hxm : 0 ≤ lv ∧ lv ≤ 125) (hxo : -1 ≤ ov ∧ ov ≤ 1) (hsc1 : T + 1 ≤ cs) (hsc2 : cs ≤ maxLen) (hnxb : 0 ≤ nx ∧ nx ≤ 1000) (hbase : base = 0 ∨ base = 1) (hk : k = 16)
    {s0 s2 s3 s4 s5 s6 s11 s14 s18 s19 s20 s21 s22 s23 s24 s25 s26 s27 s28 s29 s30 s31 s32 s33 s34 s35 s36 s37 s38 s39 s40 s41 s42 s43 s44 s45 s46 s47 s48 s49 s50 s51 s52 s53 s54 s55 s56 s57 s58 s59 s60 s61 s62 s63 s64 s65 s66 s67 s68 s69 s70 s71 s72 s73 s74 s75 s76 s77 s78 s79 s80 s81 s82 s83 s84 s85 s86 s87 s88 s89 s90 s91 s92 s93 s94 s95 s96 s97 s98 s99 s100 s101 s102 s103 s104 s106 s107 s108 s109 s110 s111 s112 s113 s114 s115 s116 s117 s118 s119 s120 s121 s122 s123 s124 s125 s126 s127 s128 s129 s130 s131 s132 s133 s134 s135 s136 s137 s138 s139 s140 s141 s142 s143 s144 s145 s146 s147 s148 s149 s150 s151 s152 s153 s154 s155 s156 s157 s158 s159 s160 s161 s162 s163 s164 s165 s166 s167 s168 s169 s170 s171 s172 s173 s174 s175 s176 s177 s178 s179 s180 s181 s182 s183 s184 s185 s186 s187 s188 s189 s190 s191 s192 s193 s194 s195 s196 s197 s198 s199 s200 s201 s202 s203 s204 s205 s206 s207 s208 s209 s210 s211 s212 s213 s214 s215 s216 s217 s218 s219 s220 s221 s222 s223 s224 s225 s226 s227 s228 s229 s230 s231 s232 s233 : Value} {J : Act → World → Prop} {Q : Exit → Act → World → Prop}
    (HQ : Hid (∀ (c : List PanicEntry) (a a' : Act) (w : World), a.defers = a'.defers → Q (.panic c) a w → Q (.panic c) a' w))
    (hJ : ∀ (a' : Act) (w' : World), (∃ u8 u9 u10 u18 u19 u106 u107 u108 u109 u110 u111 u112 u113 u114 u115 u116 u117 u118 u119 u120 u121 u122 u123 u124 u125 u126 u127 u128 u129 u130 u131 u132 u133 u134 u135 u136 u137 u138 u139 u140 u141 u142 u143 u144 u145 u146 u147 u148 u149 u150 u151 u152 u153 u154 u155 u156 u157 u158 u159 u160 u161 u162 u163 u164 u165 u166 u167 u168 u169 u170 u171 u172 u173 u174 u175 u176 u177 u178 u179 u180 u181 u182 u183 u184 u185 u186 u187 u188 u189 u190 u191 u192 u193 u194 u195 u196 u197 u198 u199 u200 u201 u202 u203 u204 u205 u206 u207 u208 u209 u210 u211 u212 u213 u214 u215 u216 u217 u218 u219 u220 u221 u222 u223 u224 u225 u226 u227 u228 u229 u230 u231 u232 : Value, (u8 = .int .i64 (estAt b p.K p.n (i + 1)).oi ∧ u9 = .int .i64 (estAt b p.K p.n (i + 1)).oe ∧ u10 = .int .i64 (estAt b p.K p.n (i + 1)).va ∧ ∃ sv, Em p b (prt (clE b p.K p.n) p.K (i + 1)) (prt (lvE b p.K p.n) (fun _ => 0) (i + 1)) (prtB (ouE p.K) (fun _ => false) (i + 1)) w0 w' sv (estAt b p.K p.n (i + 1)).st) ∧ a' = ⟨#[s0, .int .i64 base, s2, s3, s4, s5, s6, .pointer (some ⟨p.sp, 0, none⟩), u8, u9, u10, s11, .pointer (some ⟨cb, 0, none⟩), .pointer (some ⟨tb, 0, none⟩), s14, .int .i64 nx, .bool ft, .func (.func 46) #[] #[.pointer (some ⟨p.sp, 0, none⟩), .pointer (some ⟨cb, 0, none⟩)], u18, u19, s20, s21, s22, s23, s24, s25, s26, s27, s28, s29, s30, s31, s32, s33, s34, s35, s36, s37, s38, s39, s40, s41, s42, s43, s44, s45, s46, s47, s48, s49, s50, s51, s52, s53, s54, s55, s56, s57, s58, s59, s60, s61, s62, s63, s64, s65, s66, s67, s68, s69, s70, s71, s72, s73, s74, s75, s76, s77, s78, s79, s80, s81, s82, s83, s84, s85, s86, s87, s88, s89, s90, s91, s92, s93, s94, s95, s96, s97, s98, s99, s100, s101, s102, s103, s104, .int .i64 k, u106, u107, u108, u109, u110, u111, u112, u113, u114, u115, u116, u117, u118, u119, u120, u121, u122, u123, u124, u125, u126, u127, u128, u129, u130, u131, u132, u133, u134, u135, u136, u137, u138, u139, u140, u141, u142, u143, u144, u145, u146, u147, u148, u149, u150, u151, u152, u153, u154, u155, u156, u157, u158, u159, u160, u161, u162, u163, u164, u165, u166, u167, u168, u169, u170, u171, u172, u173, u174, u175, u176, u177, u178, u179, u180, u181, u182, u183, u184, u185, u186, u187, u188, u189, u190, u191, u192, u193, u194, u195, u196, u197, u198, u199, u200, u201, u202, u203, u204, u205, u206, u207, u208, u209, u210, u211, u212, u213, u214, u215, u216, u217, u218, u219, u220, u221, u222, u223, u224, u225, u226, u227, u228, u229, u230, u231, u232, s233], []⟩) → J a' w')
    (hN : ∀ (a' : Act) (w' : World), J a' w' → Q .normal a' w') (hX : ∀ (a' : Act) (w' : World), J a' w' → Q (.exit 3) a' w') :
    Code.wp Tryd.prog (theBlk Tryd.f25 4) Q ⟨#[s0, .int .i64 base, s2, s3, s4, s5, s6, .pointer (some ⟨p.sp, 0, none⟩), .int .i64 oi, .int .i64 oe, .int .i64 va, s11, .pointer (some ⟨cb, 0, none⟩), .pointer (some ⟨tb, 0, none⟩), s14, .int .i64 nx, .bool ft, .func (.func 46) #[] #[.pointer (some ⟨p.sp, 0, none⟩), .pointer (some ⟨cb, 0, none⟩)], s18, s19, s20, s21, s22, s23, s24, s25, s26, s27, s28, s29, s30, s31, s32, s33, s34, s35, s36, s37, s38, s39, s40, s41, s42, s43, s44, s45, s46, s47, s48, s49, s50, s51, s52, s53, s54, s55, s56, s57, s58, s59, s60, s61, s62, s63, s64, s65, s66, s67, s68, s69, s70, s71, s72, s73, s74, s75, s76, s77, s78, s79, s80, s81, s82, s83, s84, s85, s86, s87, s88, s89, s90, s91, s92, s93, s94, s95, s96, s97, s98, s99, s100, s101, s102, s103, s104, .int .i64 k, s106, s107, s108, s109, s110, s111, s112, s113, s114, s115, s116, s117, s118, s119, s120, s121, s122, s123, s124, s125, s126, s127, s128, s129, s130, s131, s132, s133, s134, s135, s136, s137, s138, s139, s140, s141, s142, s143, s144, s145, s146, s147, s148, s149, s150, s151, s152, s153, s154, s155, s156, s157, s158, s159, s160, s161, s162, s163, s164, s165, s166, s167, s168, s169, s170, s171, s172, s173, s174, s175, s176, s177, s178, s179, s180, s181, s182, s183, s184, s185, s186, s187, s188, s189, s190, s191, s192, s193, s194, s195, s196, s197, s198, s199, s200, s201, s202, s203, s204, s205, s206, s207, s208, s209, s210, s211, s212, s213, s214, s215, s216, s217, s218, s219, s220, s221, s222, s223, s224, s225, s226, s227, s228, s229, s230, s231, s232, s233], []⟩ wz := by
  subst hk
  have h1 : isEmb (p.K i) := by have hk2 := HK.out; unfold isEmb; omega
  have HES := Lib.hid (show estAt b p.K p.n (i + 1) = if fitsB b p.K p.n i e then { e with st := ⟨nx, 0, false⟩ :: e.st } else if e.oi = 0 then { e with oe := e.oe + 1 } else e by
    rw [HST.out]; unfold estStep
    rw [if_pos h1, HNX.out, show ovrOf (p.K i) = 0 by rw [← HK.out]; decide])
  clear h1
  have HDC := Lib.hid (show decB b p.K p.n i = ⟨lv, ov, iso⟩ by have hk2 := HK.out; unfold decB; rw [if_neg (by omega), ← HE.out, HXT.out]; rfl)
  have HOU := Lib.hid (show ouE p.K i = true by have hk2 := HK.out; unfold ouE; rw [decide_eq_true_iff]; omega)
  have HCL := Lib.hid (show clE b p.K p.n i = p.K i by unfold clE; rw [if_pos (.inl HOU.out)])
  have HLV := Lib.hid (show lvE b p.K p.n i = lv by have hk2 := HK.out; unfold lvE; rw [if_neg (by omega), HDC.out])
  have c0 : wz.cell? ⟨cb, 0, none⟩ = some (.pointer (some ⟨p.g, i * 5, none⟩)) := HCB.out.cell (i := 0) rfl
  have t0 : wz.cell? ⟨tb, 0, none⟩ = some (.int .i64 lv) := HTB.out.cell (i := 0) rfl
  obtain ⟨z, _⟩ := HZ.out.ch.cells hin
  have z2 := z (i * 5 + 2)
  have z3 := z (i * 5 + 3)
  clear z
  have hcg : cb ≠ p.g := by have := OK.out.g; omega
  have htg : tb ≠ p.g := by have := OK.out.g; omega
  obtain ⟨w7, hw7⟩ : ∃ w7, w7 = ((wz.setCell ⟨p.g, i * 5 + 3, none⟩ (.bool true)).setCell ⟨p.g, i * 5 + 2, none⟩ (.int .i64 lv)).drew := ⟨_, rfl⟩
  have HW7 := Lib.hid hw7
  clear hw7
  have HX7 := Lib.hid (show Em p b (prt (clE b p.K p.n) p.K (i + 1)) (prt (lvE b p.K p.n) (fun _ => 0) (i + 1)) (prtB (ouE p.K) (fun _ => false) (i + 1)) w0 w7 (.slice (some ⟨gs, 0, none⟩) (T + 1) cs) (⟨lv, ov, iso⟩ :: t) by
    rw [HW7.out]
    exact (((HZ.out.setO OK.out hin true).setV OK.out hin lv).drew).congr (fun j _ => prt_same HCL.out j) (fun j _ => prt_set _ _ i HLV.out j) (fun j _ => prtB_set _ _ i HOU.out j))
  have HCB7 := Lib.hid (show Blk w7 cb #[.pointer (some ⟨p.g, i * 5, none⟩)] 76 by rw [HW7.out]; exact ((HCB.out.other (a := ⟨p.g, i * 5 + 3, none⟩) hcg _).other (a := ⟨p.g, i * 5 + 2, none⟩) hcg _).drew)
  have HTB7 := Lib.hid (show Blk w7 tb #[.int .i64 lv, .int .i64 ov, .bool iso] 74 by rw [HW7.out]; exact ((HTB.out.other (a := ⟨p.g, i * 5 + 3, none⟩) htg _).other (a := ⟨p.g, i * 5 + 2, none⟩) htg _).drew)
  conv => arg 2; whnf
  go_upto_region 27 with fail
  go_cut [113] from 114 to 120 (fun _ wx => wx = w7)
  case first =>
    rename_i hJ2 hK2
    refine wp_region_noPanic ?_
    go_region_with (fail)
    all_goals
      refine NoPanic.normal ?_
      refine hK2 _ _ (Met.intro (hJ2 _ _ ?_))
      (repeat apply Exists.intro)
      refine ⟨?rel, rfl⟩
      case rel => exact HW7.out.symm
  case rest =>
  obtain rfl : w7 = wc := hcut.symm
  clear hcut c0 t0 z2 z3 hcg htg HW7 HZ HCB HTB
  cases ft with
  | true =>
    have HN := Lib.hid (HES.out.trans (if_pos (HFT.out.1 rfl)))
    have HA := Lib.hid (HX7.out.alloc (Obj.cells #[.int .i64 nx, .int .i64 (-1), .bool false] 74))
    have c0 : (w7.alloc (Obj.cells #[.int .i64 nx, .int .i64 (-1), .bool false] 74)).cell? ⟨cb, 0, none⟩ = some (.pointer (some ⟨p.g, i * 5, none⟩)) := (HCB7.out.alloc _).cell (i := 0) rfl
    obtain ⟨_, d0, _⟩ := HA.out.ch.cells hin
    rw [← HK.out] at d0
    obtain ⟨w8, hw8⟩ : ∃ w8, w8 = w7.alloc (Obj.cells #[.int .i64 nx, .int .i64 (-1), .bool false] 74) := ⟨_, rfl⟩
    rw [← hw8] at c0 d0 HA
    obtain ⟨q, hq⟩ : ∃ q, q = w7.heap.size := ⟨_, rfl⟩
    have HQ8 := Lib.hid (show Blk w8 q #[.int .i64 nx, .int .i64 (-1), .bool false] 74 by rw [hw8, hq]; exact Blk.new _ _ _)
    have hqb : p.g ≠ q ∧ p.sp ≠ q ∧ (Value.slice (some ⟨gs, 0, none⟩) (T + 1) cs).ownBlock ≠ some q ∧ w0.heap.size ≤ q := by
      have a1 := HX7.out.ch.lt
      have a2 := HX7.out.sp.lt
      have a4 := HX7.out.sv.size
      rw [hq]
      refine ⟨by omega, by omega, fun e => ?_, a4⟩
      have a3 := HX7.out.st.lt e
      omega
    have hcq : cb ≠ q := by have := HCB7.out.lt; omega
    go_upto_region 32 with fail
    rw [← hw8, ← hq]
    clear hw8 hq HX7 HTB7
    have zq := HQ8.out.frozen 1
    have cq : w8.cell? ⟨q, 1, none⟩ = some (.int .i64 (-1)) := HQ8.out.cell (i := 1) rfl
    have hgq := hqb.1
    go_upto_region 36 with fail
    obtain ⟨wq, hwq⟩ : ∃ wq, wq = w8.setCell ⟨q, 1, none⟩ (.int .i64 0) := ⟨_, rfl⟩
    have HXQ := Lib.hid (show Em p b (prt (clE b p.K p.n) p.K (i + 1)) (prt (lvE b p.K p.n) (fun _ => 0) (i + 1)) (prtB (ouE p.K) (fun _ => false) (i + 1)) w0 wq (.slice (some ⟨gs, 0, none⟩) (T + 1) cs) (⟨lv, ov, iso⟩ :: t) by rw [hwq]; exact (HA.out.other (a := ⟨q, 1, none⟩) hqb.1 hqb.2.1 hqb.2.2.1 hqb.2.2.2 _))
    have hqz : Blk wq q #[.int .i64 nx, .int .i64 (0), .bool false] 74 := by rw [hwq]; first | exact HQ8.out | exact HQ8.out.set 1 _
    have q0 : wq.cell? ⟨q, 0, none⟩ = some (.int .i64 nx) := hqz.cell (i := 0) rfl
    have q1 : wq.cell? ⟨q, 1, none⟩ = some (.int .i64 (0)) := hqz.cell (i := 1) rfl
    have q2 : wq.cell? ⟨q, 2, none⟩ = some (.bool false) := hqz.cell (i := 2) rfl
    have qlt := hqz.lt
    try rw [← hwq]
    clear hwq c0 d0 zq cq hgq hqz HA HQ8
    obtain ⟨xs, hown0, hxl, hxs⟩ := HXQ.out.st.own
    have HX := Lib.hid hown0
    have HXL := Lib.hid hxl
    have HXS := Lib.hid hxs
    obtain ⟨ii, hii, hz0, hz1, hz2⟩ := info_parts (show (Tryd.prog.info? 74).map (fun i => (i.zero, i.size, i.bytes)) = some (some (.agg #[.int .i64 0, .int .i64 0, .bool false]), 3, 24) by kernel_rfl)
    have hsl3 : (Ent.mk lv ov iso :: t).length = T + 1 := by rw [HTL.out]; rfl
    rw [hsl3] at HX HXL HXS
    have hlowz := HXQ.out.sv.size
    have s0 : wq.cell? ⟨p.sp, 0, none⟩ = some (.slice (some ⟨gs, 0, none⟩) (T + 1) cs) := HXQ.out.sp.cell (i := 0) rfl
    have hspl := HXQ.out.sp.lt
    clear hown0 hxl hxs
    go_wp2_with (at_builtin; go_loud (refine wpList_append_own _ rfl _ _ 75 rfl (w0.heap.size) 74 ii _ 3 24 Tryd.underlying75 hii hz0 hz1 hz2 rfl (by decide) _ _ _ rfl (RowL.alloc HX.out _) ⟨wq.heap.size, 0, none⟩ 1 1 [.int .i64 nx, .int .i64 (0), .bool false] rfl rfl ?k1a ?k2a ?k3a ?k4a ?k5a ?_))
    try (case k1a =>
      intro j u hj
      have e : Addr.add ⟨wq.heap.size, 0, none⟩ j = ⟨wq.heap.size, j, none⟩ := by simp [Addr.add] <;> omega
      rw [e]
      exact cellNew3 (by simpa using hj))
    try (case k2a => first | exact ⟨rfl, rfl, rfl⟩ | (intro u hu; simp at hu; rcases hu with rfl | rfl | rfl <;> rfl))
    try (case k3a => unfold maxLen; (try simp); (try omega))
    try (case k4a => (try simp); (try omega))
    try (case k5a => (try simp); (try omega))
    intro v5 w5 hown hgrow _
    have hsp5 := Em.spAfter OK.out HXQ.out hgrow
    have s5 : w5.cell? ⟨p.sp, 0, none⟩ = some (.slice (some ⟨gs, 0, none⟩) (T + 1) cs) := hsp5.cell (i := 0) rfl
    have z5 := hsp5.frozen 0
    have HX5 := Lib.hid (Em.push (y := ⟨nx, 0, false⟩) OK.out HXQ.out hgrow (by rw [hsl3]; exact hown) (by rw [hsl3]; exact HXL.out) (by rw [hsl3]; exact HXS.out))
    obtain ⟨a5, c5, hv5, _, _⟩ := RowL.slice hown
    subst hv5
    clear hown hgrow hii hz0 hz1 hz2 HX HXS HXL hsl3 s0 hsp5 hspl
    go_wp2_with fail
    refine hN _ _ (hJ _ _ ?_)
    (repeat apply Exists.intro)
    refine ⟨?rel, rfl⟩
    case rel => exact ⟨by rw [HN.out, HOI.out], by rw [HN.out, HOE.out], by rw [HN.out, HVA.out], _, by rw [HN.out]; show Em p b _ _ _ w0 _ _ (⟨nx, 0, false⟩ :: e.st); rw [HXT.out]; exact HX5.out⟩
  | false =>
    have HN1 := Lib.hid (HES.out.trans (if_neg (fun h => absurd (HFT.out.2 h) (by decide))))
    by_cases hoi0 : oi = 0
    · have HN := Lib.hid (HN1.out.trans (if_pos (by rw [← HOI.out]; exact hoi0)))
      have hoi1 : ((oi : Int) == 0) = true := by simp [hoi0]
      have hoi2 : (oi == 0) = true := by simp [hoi0]
      have HZ0 := Lib.hid hoi0
      clear hoi0
      go_wp2_with fail
      (try refine hJ _ _ ?_)
      (repeat apply Exists.intro)
      refine ⟨?rel, rfl⟩
      case rel => exact ⟨by rw [HN.out, HOI.out], by rw [HN.out, HOE.out]; rfl, by rw [HN.out, HVA.out], _, by rw [HN.out]; show Em p b _ _ _ w0 w7 _ e.st; rw [HXT.out]; exact HX7.out⟩
    · have HN := Lib.hid (HN1.out.trans (if_neg (by rw [← HOI.out]; exact hoi0)))
      have hoi1 : ((oi : Int) == 0) = false := by simp [hoi0]
      have hoi2 : (oi == 0) = false := by simp [hoi0]
      clear hoi0
      go_wp2_with fail
      (try refine hJ _ _ ?_)
      (repeat apply Exists.intro)
      refine ⟨?rel, rfl⟩
      case rel => exact ⟨by rw [HN.out, HOI.out], by rw [HN.out, HOE.out], by rw [HN.out, HVA.out], _, by rw [HN.out]; show Em p b _ _ _ w0 w7 _ e.st; rw [HXT.out]; exact HX7.out⟩
set_option maxHeartbeats 8000000 in
theorem emE17 {p : EmP} {b : Ent} {w0 wz : World} {i oi oe va T gs cs cb tb : Nat} {e : Est} {t : List Ent} {lv ov nx k base : Int} {iso ft : Bool}
    (OK : Hid (EmOk p w0)) (HEK : Hid (EstOk b i e)) (HEK2 : Hid (EstOk b (i + 1) (estAt b p.K p.n (i + 1)))) (HXT : Hid (e.st = ⟨lv, ov, iso⟩ :: t)) (HOI : Hid (oi = e.oi)) (HOE : Hid (oe = e.oe)) (HVA : Hid (va = e.va)) (HNX : Hid (nextB b p.K p.n i e = nx)) (HFT : Hid (ft = true ↔ fitsB b p.K p.n i e))
    (HK : Hid (k = p.K i)) (HE : Hid (e = estAt b p.K p.n i)) (HST : Hid (estAt b p.K p.n (i + 1) = estStep b p.K p.n i e)) (HTL : Hid (T = t.length)) (HBD : Hid (b = ⟨base, -1, false⟩))
    (HZ : Hid (Em p b (prt (clE b p.K p.n) p.K i) (prt (lvE b p.K p.n) (fun _ => 0) i) (prtB (ouE p.K) (fun _ => false) i) w0 wz (.slice (some ⟨gs, 0, none⟩) (T + 1) cs) (⟨lv, ov, iso⟩ :: t)))
    (HCB : Hid (Blk wz cb #[.pointer (some ⟨p.g, i * 5, none⟩)] 76)) (HTB : Hid (Blk wz tb #[.int .i64 lv, .int .i64 ov, .bool iso] 74)) (hcw : w0.heap.size ≤ cb) (htw : w0.heap.size ≤ tb)
    (hin : i < p.n) (hn2 : p.n ≤ 200) (hTs : T + 1 ≤ i + 1) (hoib : oi ≤ i) (hoeb : oe ≤ i) (hvab : va ≤ i) (hxm : 0 ≤ lv ∧ lv ≤ 125) (hxo : -1 ≤ ov ∧ ov ≤ 1) (hsc1 : T + 1 ≤ cs) (hsc2 : cs ≤ maxLen) (hnxb : 0 ≤ nx ∧ nx ≤ 1000) (hbase : base = 0 ∨ base = 1) (hk : k = 17)
    {s0 s2 s3 s4 s5 s6 s11 s14 s18 s19 s20 s21 s22 s23 s24 s25 s26 s27 s28 s29 s30 s31 s32 s33 s34 s35 s36 s37 s38 s39 s40 s41 s42 s43 s44 s45 s46 s47 s48 s49 s50 s51 s52 s53 s54 s55 s56 s57 s58 s59 s60 s61 s62 s63 s64 s65 s66 s67 s68 s69 s70 s71 s72 s73 s74 s75 s76 s77 s78 s79 s80 s81 s82 s83 s84 s85 s86 s87 s88 s89 s90 s91 s92 s93 s94 s95 s96 s97 s98 s99 s100 s101 s102 s103 s104 s106 s107 s108 s109 s110 s111 s112 s113 s114 s115 s116 s117 s118 s119 s120 s121 s122 s123 s124 s125 s126 s127 s128 s129 s130 s131 s132 s133 s134 s135 s136 s137 s138 s139 s140 s141 s142 s143 s144 s145 s146 s147 s148 s149 s150 s151 s152 s153 s154 s155 s156 s157 s158 s159 s160 s161 s162 s163 s164 s165 s166 s167 s168 s169 s170 s171 s172 s173 s174 s175 s176 s177 s178 s179 s180 s181 s182 s183 s184 s185 s186 s187 s188 s189 s190 s191 s192 s193 s194 s195 s196 s197 s198 s199 s200 s201 s202 s203 s204 s205 s206 s207 s208 s209 s210 s211 s212 s213 s214 s215 s216 s217 s218 s219 s220 s221 s222 s223 s224 s225 s226 s227 s228 s229 s230 s231 s232 s233 : Value} {J : Act → World → Prop} {Q : Exit → Act → World → Prop}
    (HQ : Hid (∀ (c : List PanicEntry) (a a' : Act) (w : World), a.defers = a'.defers → Q (.panic c) a w → Q (.panic c) a' w))
    (hJ : ∀ (a' : Act) (w' : World), (∃ u8 u9 u10 u18 u19 u106 u107 u108 u109 u110 u111 u112 u113 u114 u115 u116 u117 u118 u119 u120 u121 u122 u123 u124 u125 u126 u127 u128 u129 u130 u131 u132 u133 u134 u135 u136 u137 u138 u139 u140 u141 u142 u143 u144 u145 u146 u147 u148 u149 u150 u151 u152 u153 u154 u155 u156 u157 u158 u159 u160 u161 u162 u163 u164 u165 u166 u167 u168 u169 u170 u171 u172 u173 u174 u175 u176 u177 u178 u179 u180 u181 u182 u183 u184 u185 u186 u187 u188 u189 u190 u191 u192 u193 u194 u195 u196 u197 u198 u199 u200 u201 u202 u203 u204 u205 u206 u207 u208 u209 u210 u211 u212 u213 u214 u215 u216 u217 u218 u219 u220 u221 u222 u223 u224 u225 u226 u227 u228 u229 u230 u231 u232 : Value, (u8 = .int .i64 (estAt b p.K p.n (i + 1)).oi ∧ u9 = .int .i64 (estAt b p.K p.n (i + 1)).oe ∧ u10 = .int .i64 (estAt b p.K p.n (i + 1)).va ∧ ∃ sv, Em p b (prt (clE b p.K p.n) p.K (i + 1)) (prt (lvE b p.K p.n) (fun _ => 0) (i + 1)) (prtB (ouE p.K) (fun _ => false) (i + 1)) w0 w' sv (estAt b p.K p.n (i + 1)).st) ∧ a' = ⟨#[s0, .int .i64 base, s2, s3, s4, s5, s6, .pointer (some ⟨p.sp, 0, none⟩), u8, u9, u10, s11, .pointer (some ⟨cb, 0, none⟩), .pointer (some ⟨tb, 0, none⟩), s14, .int .i64 nx, .bool ft, .func (.func 46) #[] #[.pointer (some ⟨p.sp, 0, none⟩), .pointer (some ⟨cb, 0, none⟩)], u18, u19, s20, s21, s22, s23, s24, s25, s26, s27, s28, s29, s30, s31, s32, s33, s34, s35, s36, s37, s38, s39, s40, s41, s42, s43, s44, s45, s46, s47, s48, s49, s50, s51, s52, s53, s54, s55, s56, s57, s58, s59, s60, s61, s62, s63, s64, s65, s66, s67, s68, s69, s70, s71, s72, s73, s74, s75, s76, s77, s78, s79, s80, s81, s82, s83, s84, s85, s86, s87, s88, s89, s90, s91, s92, s93, s94, s95, s96, s97, s98, s99, s100, s101, s102, s103, s104, .int .i64 k, u106, u107, u108, u109, u110, u111, u112, u113, u114, u115, u116, u117, u118, u119, u120, u121, u122, u123, u124, u125, u126, u127, u128, u129, u130, u131, u132, u133, u134, u135, u136, u137, u138, u139, u140, u141, u142, u143, u144, u145, u146, u147, u148, u149, u150, u151, u152, u153, u154, u155, u156, u157, u158, u159, u160, u161, u162, u163, u164, u165, u166, u167, u168, u169, u170, u171, u172, u173, u174, u175, u176, u177, u178, u179, u180, u181, u182, u183, u184, u185, u186, u187, u188, u189, u190, u191, u192, u193, u194, u195, u196, u197, u198, u199, u200, u201, u202, u203, u204, u205, u206, u207, u208, u209, u210, u211, u212, u213, u214, u215, u216, u217, u218, u219, u220, u221, u222, u223, u224, u225, u226, u227, u228, u229, u230, u231, u232, s233], []⟩) → J a' w')
    (hN : ∀ (a' : Act) (w' : World), J a' w' → Q .normal a' w') (hX : ∀ (a' : Act) (w' : World), J a' w' → Q (.exit 3) a' w') :
    Code.wp Tryd.prog (theBlk Tryd.f25 4) Q ⟨#[s0, .int .i64 base, s2, s3, s4, s5, s6, .pointer (some ⟨p.sp, 0, none⟩), .int .i64 oi, .int .i64 oe, .int .i64 va, s11, .pointer (some ⟨cb, 0, none⟩), .pointer (some ⟨tb, 0, none⟩), s14, .int .i64 nx, .bool ft, .func (.func 46) #[] #[.pointer (some ⟨p.sp, 0, none⟩), .pointer (some ⟨cb, 0, none⟩)], s18, s19, s20, s21, s22, s23, s24, s25, s26, s27, s28, s29, s30, s31, s32, s33, s34, s35, s36, s37, s38, s39, s40, s41, s42, s43, s44, s45, s46, s47, s48, s49, s50, s51, s52, s53, s54, s55, s56, s57, s58, s59, s60, s61, s62, s63, s64, s65, s66, s67, s68, s69, s70, s71, s72, s73, s74, s75, s76, s77, s78, s79, s80, s81, s82, s83, s84, s85, s86, s87, s88, s89, s90, s91, s92, s93, s94, s95, s96, s97, s98, s99, s100, s101, s102, s103, s104, .int .i64 k, s106, s107, s108, s109, s110, s111, s112, s113, s114, s115, s116, s117, s118, s119, s120, s121, s122, s123, s124, s125, s126, s127, s128, s129, s130, s131, s132, s133, s134, s135, s136, s137, s138, s139, s140, s141, s142, s143, s144, s145, s146, s147, s148, s149, s150, s151, s152, s153, s154, s155, s156, s157, s158, s159, s160, s161, s162, s163, s164, s165, s166, s167, s168, s169, s170, s171, s172, s173, s174, s175, s176, s177, s178, s179, s180, s181, s182, s183, s184, s185, s186, s187, s188, s189, s190, s191, s192, s193, s194, s195, s196, s197, s198, s199, s200, s201, s202, s203, s204, s205, s206, s207, s208, s209, s210, s211, s212, s213, s214, s215, s216, s217, s218, s219, s220, s221, s222, s223, s224, s225, s226, s227, s228, s229, s230, s231, s232, s233], []⟩ wz := by
  subst hk
  have h1 : isEmb (p.K i) := by have hk2 := HK.out; unfold isEmb; omega
  have HES := Lib.hid (show estAt b p.K p.n (i + 1) = if fitsB b p.K p.n i e then { e with st := ⟨nx, 1, false⟩ :: e.st } else if e.oi = 0 then { e with oe := e.oe + 1 } else e by
    rw [HST.out]; unfold estStep
    rw [if_pos h1, HNX.out, show ovrOf (p.K i) = 1 by rw [← HK.out]; decide])
  clear h1
  have HDC := Lib.hid (show decB b p.K p.n i = ⟨lv, ov, iso⟩ by have hk2 := HK.out; unfold decB; rw [if_neg (by omega), ← HE.out, HXT.out]; rfl)
  have HOU := Lib.hid (show ouE p.K i = true by have hk2 := HK.out; unfold ouE; rw [decide_eq_true_iff]; omega)
  have HCL := Lib.hid (show clE b p.K p.n i = p.K i by unfold clE; rw [if_pos (.inl HOU.out)])
  have HLV := Lib.hid (show lvE b p.K p.n i = lv by have hk2 := HK.out; unfold lvE; rw [if_neg (by omega), HDC.out])
  have c0 : wz.cell? ⟨cb, 0, none⟩ = some (.pointer (some ⟨p.g, i * 5, none⟩)) := HCB.out.cell (i := 0) rfl
  have t0 : wz.cell? ⟨tb, 0, none⟩ = some (.int .i64 lv) := HTB.out.cell (i := 0) rfl
  obtain ⟨z, _⟩ := HZ.out.ch.cells hin
  have z2 := z (i * 5 + 2)
  have z3 := z (i * 5 + 3)
  clear z
  have hcg : cb ≠ p.g := by have := OK.out.g; omega
  have htg : tb ≠ p.g := by have := OK.out.g; omega
  obtain ⟨w7, hw7⟩ : ∃ w7, w7 = ((wz.setCell ⟨p.g, i * 5 + 3, none⟩ (.bool true)).setCell ⟨p.g, i * 5 + 2, none⟩ (.int .i64 lv)).drew := ⟨_, rfl⟩
  have HW7 := Lib.hid hw7
  clear hw7
  have HX7 := Lib.hid (show Em p b (prt (clE b p.K p.n) p.K (i + 1)) (prt (lvE b p.K p.n) (fun _ => 0) (i + 1)) (prtB (ouE p.K) (fun _ => false) (i + 1)) w0 w7 (.slice (some ⟨gs, 0, none⟩) (T + 1) cs) (⟨lv, ov, iso⟩ :: t) by
    rw [HW7.out]
    exact (((HZ.out.setO OK.out hin true).setV OK.out hin lv).drew).congr (fun j _ => prt_same HCL.out j) (fun j _ => prt_set _ _ i HLV.out j) (fun j _ => prtB_set _ _ i HOU.out j))
  have HCB7 := Lib.hid (show Blk w7 cb #[.pointer (some ⟨p.g, i * 5, none⟩)] 76 by rw [HW7.out]; exact ((HCB.out.other (a := ⟨p.g, i * 5 + 3, none⟩) hcg _).other (a := ⟨p.g, i * 5 + 2, none⟩) hcg _).drew)
  have HTB7 := Lib.hid (show Blk w7 tb #[.int .i64 lv, .int .i64 ov, .bool iso] 74 by rw [HW7.out]; exact ((HTB.out.other (a := ⟨p.g, i * 5 + 3, none⟩) htg _).other (a := ⟨p.g, i * 5 + 2, none⟩) htg _).drew)
  conv => arg 2; whnf
  go_upto_region 27 with fail
  go_cut [113] from 114 to 120 (fun _ wx => wx = w7)
  case first =>
    rename_i hJ2 hK2
    refine wp_region_noPanic ?_
    go_region_with (fail)
    all_goals
      refine NoPanic.normal ?_
      refine hK2 _ _ (Met.intro (hJ2 _ _ ?_))
      (repeat apply Exists.intro)
      refine ⟨?rel, rfl⟩
      case rel => exact HW7.out.symm
  case rest =>
  obtain rfl : w7 = wc := hcut.symm
  clear hcut c0 t0 z2 z3 hcg htg HW7 HZ HCB HTB
  cases ft with
  | true =>
    have HN := Lib.hid (HES.out.trans (if_pos (HFT.out.1 rfl)))
    have HA := Lib.hid (HX7.out.alloc (Obj.cells #[.int .i64 nx, .int .i64 (-1), .bool false] 74))
    have c0 : (w7.alloc (Obj.cells #[.int .i64 nx, .int .i64 (-1), .bool false] 74)).cell? ⟨cb, 0, none⟩ = some (.pointer (some ⟨p.g, i * 5, none⟩)) := (HCB7.out.alloc _).cell (i := 0) rfl
    obtain ⟨_, d0, _⟩ := HA.out.ch.cells hin
    rw [← HK.out] at d0
    obtain ⟨w8, hw8⟩ : ∃ w8, w8 = w7.alloc (Obj.cells #[.int .i64 nx, .int .i64 (-1), .bool false] 74) := ⟨_, rfl⟩
    rw [← hw8] at c0 d0 HA
    obtain ⟨q, hq⟩ : ∃ q, q = w7.heap.size := ⟨_, rfl⟩
    have HQ8 := Lib.hid (show Blk w8 q #[.int .i64 nx, .int .i64 (-1), .bool false] 74 by rw [hw8, hq]; exact Blk.new _ _ _)
    have hqb : p.g ≠ q ∧ p.sp ≠ q ∧ (Value.slice (some ⟨gs, 0, none⟩) (T + 1) cs).ownBlock ≠ some q ∧ w0.heap.size ≤ q := by
      have a1 := HX7.out.ch.lt
      have a2 := HX7.out.sp.lt
      have a4 := HX7.out.sv.size
      rw [hq]
      refine ⟨by omega, by omega, fun e => ?_, a4⟩
      have a3 := HX7.out.st.lt e
      omega
    have hcq : cb ≠ q := by have := HCB7.out.lt; omega
    go_upto_region 32 with fail
    rw [← hw8, ← hq]
    clear hw8 hq HX7 HTB7
    have zq := HQ8.out.frozen 1
    have cq : w8.cell? ⟨q, 1, none⟩ = some (.int .i64 (-1)) := HQ8.out.cell (i := 1) rfl
    have hgq := hqb.1
    go_upto_region 36 with fail
    obtain ⟨wq, hwq⟩ : ∃ wq, wq = w8.setCell ⟨q, 1, none⟩ (.int .i64 1) := ⟨_, rfl⟩
    have HXQ := Lib.hid (show Em p b (prt (clE b p.K p.n) p.K (i + 1)) (prt (lvE b p.K p.n) (fun _ => 0) (i + 1)) (prtB (ouE p.K) (fun _ => false) (i + 1)) w0 wq (.slice (some ⟨gs, 0, none⟩) (T + 1) cs) (⟨lv, ov, iso⟩ :: t) by rw [hwq]; exact (HA.out.other (a := ⟨q, 1, none⟩) hqb.1 hqb.2.1 hqb.2.2.1 hqb.2.2.2 _))
    have hqz : Blk wq q #[.int .i64 nx, .int .i64 (1), .bool false] 74 := by rw [hwq]; first | exact HQ8.out | exact HQ8.out.set 1 _
    have q0 : wq.cell? ⟨q, 0, none⟩ = some (.int .i64 nx) := hqz.cell (i := 0) rfl
    have q1 : wq.cell? ⟨q, 1, none⟩ = some (.int .i64 (1)) := hqz.cell (i := 1) rfl
    have q2 : wq.cell? ⟨q, 2, none⟩ = some (.bool false) := hqz.cell (i := 2) rfl
    have qlt := hqz.lt
    try rw [← hwq]
    clear hwq c0 d0 zq cq hgq hqz HA HQ8
    obtain ⟨xs, hown0, hxl, hxs⟩ := HXQ.out.st.own
    have HX := Lib.hid hown0
    have HXL := Lib.hid hxl
    have HXS := Lib.hid hxs
    obtain ⟨ii, hii, hz0, hz1, hz2⟩ := info_parts (show (Tryd.prog.info? 74).map (fun i => (i.zero, i.size, i.bytes)) = some (some (.agg #[.int .i64 0, .int .i64 0, .bool false]), 3, 24) by kernel_rfl)
    have hsl3 : (Ent.mk lv ov iso :: t).length = T + 1 := by rw [HTL.out]; rfl
    rw [hsl3] at HX HXL HXS
    have hlowz := HXQ.out.sv.size
    have s0 : wq.cell? ⟨p.sp, 0, none⟩ = some (.slice (some ⟨gs, 0, none⟩) (T + 1) cs) := HXQ.out.sp.cell (i := 0) rfl
    have hspl := HXQ.out.sp.lt
    clear hown0 hxl hxs
    go_wp2_with (at_builtin; go_loud (refine wpList_append_own _ rfl _ _ 75 rfl (w0.heap.size) 74 ii _ 3 24 Tryd.underlying75 hii hz0 hz1 hz2 rfl (by decide) _ _ _ rfl (RowL.alloc HX.out _) ⟨wq.heap.size, 0, none⟩ 1 1 [.int .i64 nx, .int .i64 (1), .bool false] rfl rfl ?k1a ?k2a ?k3a ?k4a ?k5a ?_))
    try (case k1a =>
      intro j u hj
      have e : Addr.add ⟨wq.heap.size, 0, none⟩ j = ⟨wq.heap.size, j, none⟩ := by simp [Addr.add] <;> omega
      rw [e]
      exact cellNew3 (by simpa using hj))
    try (case k2a => first | exact ⟨rfl, rfl, rfl⟩ | (intro u hu; simp at hu; rcases hu with rfl | rfl | rfl <;> rfl))
    try (case k3a => unfold maxLen; (try simp); (try omega))
    try (case k4a => (try simp); (try omega))
    try (case k5a => (try simp); (try omega))
    intro v5 w5 hown hgrow _
    have hsp5 := Em.spAfter OK.out HXQ.out hgrow
    have s5 : w5.cell? ⟨p.sp, 0, none⟩ = some (.slice (some ⟨gs, 0, none⟩) (T + 1) cs) := hsp5.cell (i := 0) rfl
    have z5 := hsp5.frozen 0
    have HX5 := Lib.hid (Em.push (y := ⟨nx, 1, false⟩) OK.out HXQ.out hgrow (by rw [hsl3]; exact hown) (by rw [hsl3]; exact HXL.out) (by rw [hsl3]; exact HXS.out))
    obtain ⟨a5, c5, hv5, _, _⟩ := RowL.slice hown
    subst hv5
    clear hown hgrow hii hz0 hz1 hz2 HX HXS HXL hsl3 s0 hsp5 hspl
    go_wp2_with fail
    refine hN _ _ (hJ _ _ ?_)
    (repeat apply Exists.intro)
    refine ⟨?rel, rfl⟩
    case rel => exact ⟨by rw [HN.out, HOI.out], by rw [HN.out, HOE.out], by rw [HN.out, HVA.out], _, by rw [HN.out]; show Em p b _ _ _ w0 _ _ (⟨nx, 1, false⟩ :: e.st); rw [HXT.out]; exact HX5.out⟩
  | false =>
    have HN1 := Lib.hid (HES.out.trans (if_neg (fun h => absurd (HFT.out.2 h) (by decide))))
    by_cases hoi0 : oi = 0
    · have HN := Lib.hid (HN1.out.trans (if_pos (by rw [← HOI.out]; exact hoi0)))
      have hoi1 : ((oi : Int) == 0) = true := by simp [hoi0]
      have hoi2 : (oi == 0) = true := by simp [hoi0]
      have HZ0 := Lib.hid hoi0
      clear hoi0
      go_wp2_with fail
      (try refine hJ _ _ ?_)
      (repeat apply Exists.intro)
      refine ⟨?rel, rfl⟩
      case rel => exact ⟨by rw [HN.out, HOI.out], by rw [HN.out, HOE.out]; rfl, by rw [HN.out, HVA.out], _, by rw [HN.out]; show Em p b _ _ _ w0 w7 _ e.st; rw [HXT.out]; exact HX7.out⟩
    · have HN := Lib.hid (HN1.out.trans (if_neg (by rw [← HOI.out]; exact hoi0)))
      have hoi1 : ((oi : Int) == 0) = false := by simp [hoi0]
      have hoi2 : (oi == 0) = false := by simp [hoi0]
      clear hoi0
      go_wp2_with fail
      (try refine hJ _ _ ?_)
      (repeat apply Exists.intro)
      refine ⟨?rel, rfl⟩
      case rel => exact ⟨by rw [HN.out, HOI.out], by rw [HN.out, HOE.out], by rw [HN.out, HVA.out], _, by rw [HN.out]; show Em p b _ _ _ w0 w7 _ e.st; rw [HXT.out]; exact HX7.out⟩
theorem IntsF.save {w w' : World} {g : Nat} {a : Option Addr} {n : Nat} {f : Nat → Int} (h : IntsF w a n f) (hs : Save (fun k => k = g) w w') (hg : ∀ b off, a = some ⟨b, off, none⟩ → b ≠ g) : IntsF w' a n f := by
  intro hn
  obtain ⟨b, off, rfl, hh⟩ := h hn
  refine ⟨b, off, rfl, fun i hi => ?_⟩
  have h1 := hh i hi
  have h2 := hs.block b (lt_of_cell h1) (hg b off rfl)
  unfold World.cell? at h1 ⊢
  rw [h2]
  exact h1
set_option maxHeartbeats 16000000 in
theorem emRound {p : EmP} {b : Ent} {w0 wr : World} {i : Nat} {base : Int} {ka : Option Addr} {kc : Nat} {sv : Value}
    (OK : Hid (EmOk p w0)) (HEOK : Hid (∀ i, EstOk b i (estAt b p.K p.n i))) (HOW : Hid (IntsF w0 ka p.n p.K)) (HOG : Hid (∀ bb off, ka = some ⟨bb, off, none⟩ → bb ≠ p.g)) (HBD : Hid (b = ⟨base, -1, false⟩)) (HBB : Hid (∀ i, i < p.n → p.K i = 10 → i + 1 = p.n))
    (HX0 : Hid (Em p b (prt (clE b p.K p.n) p.K i) (prt (lvE b p.K p.n) (fun _ => 0) i) (prtB (ouE p.K) (fun _ => false) i) w0 wr sv (estAt b p.K p.n i).st)) (hin : i < p.n) (hn : p.n ≤ 200) (hb : base = 0 ∨ base = 1)
    {s2 s3 s5 s6 s11 s12 s13 s14 s15 s16 s17 s18 s19 s20 s21 s22 s23 s24 s25 s26 s27 s28 s29 s30 s31 s32 s33 s34 s35 s36 s38 s39 s40 s41 s42 s43 s44 s45 s46 s47 s48 s49 s50 s51 s52 s53 s54 s55 s56 s57 s58 s59 s60 s61 s62 s63 s64 s65 s66 s67 s68 s69 s70 s71 s72 s73 s74 s75 s76 s77 s78 s79 s80 s81 s82 s83 s84 s85 s86 s87 s88 s89 s90 s91 s92 s93 s94 s95 s96 s97 s98 s99 s100 s101 s102 s103 s104 s105 s106 s107 s108 s109 s110 s111 s112 s113 s114 s115 s116 s117 s118 s119 s120 s121 s122 s123 s124 s125 s126 s127 s128 s129 s130 s131 s132 s133 s134 s135 s136 s137 s138 s139 s140 s141 s142 s143 s144 s145 s146 s147 s148 s149 s150 s151 s152 s153 s154 s155 s156 s157 s158 s159 s160 s161 s162 s163 s164 s165 s166 s167 s168 s169 s170 s171 s172 s173 s174 s175 s176 s177 s178 s179 s180 s181 s182 s183 s184 s185 s186 s187 s188 s189 s190 s191 s192 s193 s194 s195 s196 s197 s198 s199 s200 s201 s202 s203 s204 s205 s206 s207 s208 s209 s210 s211 s212 s213 s214 s215 s216 s217 s218 s219 s220 s221 s222 s223 s224 s225 s226 s227 s228 s229 s230 s231 s232 s233 : Value} {J K' : Act → World → Prop} {Q : Exit → Act → World → Prop}
    (HQ : Hid (∀ (c : List PanicEntry) (a a' : Act) (w : World), a.defers = a'.defers → Q (.panic c) a w → Q (.panic c) a' w))
    (hJ : ∀ (a' : Act) (w' : World), (∃ u8 u9 u10 u11 u12 u13 u14 u15 u16 u17 u18 u19 u39 u40 u41 u42 u43 u44 u45 u46 u47 u48 u49 u50 u51 u52 u53 u54 u55 u56 u57 u58 u59 u60 u61 u62 u63 u64 u65 u66 u67 u68 u69 u70 u71 u72 u73 u74 u75 u76 u77 u78 u79 u80 u81 u82 u83 u84 u85 u86 u87 u88 u89 u90 u91 u92 u93 u94 u95 u96 u97 u98 u99 u100 u101 u102 u103 u104 u105 u106 u107 u108 u109 u110 u111 u112 u113 u114 u115 u116 u117 u118 u119 u120 u121 u122 u123 u124 u125 u126 u127 u128 u129 u130 u131 u132 u133 u134 u135 u136 u137 u138 u139 u140 u141 u142 u143 u144 u145 u146 u147 u148 u149 u150 u151 u152 u153 u154 u155 u156 u157 u158 u159 u160 u161 u162 u163 u164 u165 u166 u167 u168 u169 u170 u171 u172 u173 u174 u175 u176 u177 u178 u179 u180 u181 u182 u183 u184 u185 u186 u187 u188 u189 u190 u191 u192 u193 u194 u195 u196 u197 u198 u199 u200 u201 u202 u203 u204 u205 u206 u207 u208 u209 u210 u211 u212 u213 u214 u215 u216 u217 u218 u219 u220 u221 u222 u223 u224 u225 u226 u227 u228 u229 u230 u231 u232 : Value, (u8 = .int .i64 (estAt b p.K p.n (i + 1)).oi ∧ u9 = .int .i64 (estAt b p.K p.n (i + 1)).oe ∧ u10 = .int .i64 (estAt b p.K p.n (i + 1)).va ∧ ∃ sv, Em p b (prt (clE b p.K p.n) p.K (i + 1)) (prt (lvE b p.K p.n) (fun _ => 0) (i + 1)) (prtB (ouE p.K) (fun _ => false) (i + 1)) w0 w' sv (estAt b p.K p.n (i + 1)).st) ∧ a' = ⟨#[.slice (some ⟨p.g, 0, none⟩) p.n p.cap, .int .i64 base, s2, s3, .slice ka p.n kc, s5, s6, .pointer (some ⟨p.sp, 0, none⟩), u8, u9, u10, u11, u12, u13, u14, u15, u16, u17, u18, u19, s20, s21, s22, s23, s24, s25, s26, s27, s28, s29, s30, s31, s32, s33, s34, s35, s36, .int .i64 i, s38, u39, u40, u41, u42, u43, u44, u45, u46, u47, u48, u49, u50, u51, u52, u53, u54, u55, u56, u57, u58, u59, u60, u61, u62, u63, u64, u65, u66, u67, u68, u69, u70, u71, u72, u73, u74, u75, u76, u77, u78, u79, u80, u81, u82, u83, u84, u85, u86, u87, u88, u89, u90, u91, u92, u93, u94, u95, u96, u97, u98, u99, u100, u101, u102, u103, u104, u105, u106, u107, u108, u109, u110, u111, u112, u113, u114, u115, u116, u117, u118, u119, u120, u121, u122, u123, u124, u125, u126, u127, u128, u129, u130, u131, u132, u133, u134, u135, u136, u137, u138, u139, u140, u141, u142, u143, u144, u145, u146, u147, u148, u149, u150, u151, u152, u153, u154, u155, u156, u157, u158, u159, u160, u161, u162, u163, u164, u165, u166, u167, u168, u169, u170, u171, u172, u173, u174, u175, u176, u177, u178, u179, u180, u181, u182, u183, u184, u185, u186, u187, u188, u189, u190, u191, u192, u193, u194, u195, u196, u197, u198, u199, u200, u201, u202, u203, u204, u205, u206, u207, u208, u209, u210, u211, u212, u213, u214, u215, u216, u217, u218, u219, u220, u221, u222, u223, u224, u225, u226, u227, u228, u229, u230, u231, u232, s233], []⟩) → J a' w')
    (hK : ∀ (a' : Act) (w' : World), Met J a' w' → K' a' w') :
    Code.wp Tryd.prog (theBlk Tryd.f25 3) (Exit.then K' Q) ⟨#[.slice (some ⟨p.g, 0, none⟩) p.n p.cap, .int .i64 base, s2, s3, .slice ka p.n kc, s5, s6, .pointer (some ⟨p.sp, 0, none⟩), .int .i64 (estAt b p.K p.n i).oi, .int .i64 (estAt b p.K p.n i).oe, .int .i64 (estAt b p.K p.n i).va, s11, s12, s13, s14, s15, s16, s17, s18, s19, s20, s21, s22, s23, s24, s25, s26, s27, s28, s29, s30, s31, s32, s33, s34, s35, s36, .int .i64 i, s38, s39, s40, s41, s42, s43, s44, s45, s46, s47, s48, s49, s50, s51, s52, s53, s54, s55, s56, s57, s58, s59, s60, s61, s62, s63, s64, s65, s66, s67, s68, s69, s70, s71, s72, s73, s74, s75, s76, s77, s78, s79, s80, s81, s82, s83, s84, s85, s86, s87, s88, s89, s90, s91, s92, s93, s94, s95, s96, s97, s98, s99, s100, s101, s102, s103, s104, s105, s106, s107, s108, s109, s110, s111, s112, s113, s114, s115, s116, s117, s118, s119, s120, s121, s122, s123, s124, s125, s126, s127, s128, s129, s130, s131, s132, s133, s134, s135, s136, s137, s138, s139, s140, s141, s142, s143, s144, s145, s146, s147, s148, s149, s150, s151, s152, s153, s154, s155, s156, s157, s158, s159, s160, s161, s162, s163, s164, s165, s166, s167, s168, s169, s170, s171, s172, s173, s174, s175, s176, s177, s178, s179, s180, s181, s182, s183, s184, s185, s186, s187, s188, s189, s190, s191, s192, s193, s194, s195, s196, s197, s198, s199, s200, s201, s202, s203, s204, s205, s206, s207, s208, s209, s210, s211, s212, s213, s214, s215, s216, s217, s218, s219, s220, s221, s222, s223, s224, s225, s226, s227, s228, s229, s230, s231, s232, s233], []⟩ wr := by
  have hq := HX0.out
  have HST := Lib.hid (show estAt b p.K p.n (i + 1) = estStep b p.K p.n i (estAt b p.K p.n i) by rw [estAt])
  have hek := HEOK.out i
  obtain ⟨e, he⟩ : ∃ e, e = estAt b p.K p.n i := ⟨_, rfl⟩
  rw [← he] at HST hek hq ⊢
  have HE := Lib.hid he
  clear he
  obtain ⟨oi, oe, va, hoi, hoe, hva⟩ : ∃ oi oe va : Nat, oi = e.oi ∧ oe = e.oe ∧ va = e.va := ⟨_, _, _, rfl, rfl, rfl⟩
  rw [← hoi, ← hoe, ← hva]
  obtain ⟨x, t, hxt⟩ : ∃ x t, e.st = x :: t := by
    obtain ⟨S, hS⟩ := hek.low
    cases S with
    | nil => exact ⟨b, [], hS⟩
    | cons y S => exact ⟨y, S ++ [b], hS⟩
  rw [hxt] at hq
  have hxm := hek.lev x (by rw [hxt]; simp)
  have hxo := hek.ovr x (by rw [hxt]; simp)
  have HEK := Lib.hid hek
  have HOI := Lib.hid hoi
  have HOE := Lib.hid hoe
  have HVA := Lib.hid hva
  have HXT := Lib.hid hxt
  obtain ⟨lv, ov, iso⟩ := x
  simp only at hxm hxo
  obtain ⟨gs, cs, hsv, hgs, hgl, hsc1, hsc2, hsf, _⟩ := RowV.at hq.st (by simp)
  subst hsv
  obtain ⟨m0, m1, m2⟩ := RowV.topR hq.st
  simp only at m0 m1 m2
  have hsl : (Ent.mk lv ov iso :: t).length = t.length + 1 := by simp
  rw [hsl] at hsc1 hq
  have s0 : wr.cell? ⟨p.sp, 0, none⟩ = _ := hq.sp.cell (i := 0) rfl
  obtain ⟨T, hT⟩ : ∃ T, T = t.length := ⟨_, rfl⟩
  rw [← hT] at hsc1 m0 m1 m2 s0 hq
  have HTL := Lib.hid hT
  have HX := Lib.hid hq
  have hTs : T + 1 ≤ i + 1 := by
    have := hek.len
    rw [hxt, hsl, ← hT] at this
    exact this
  have hoib : oi ≤ i := by have := hek.oi; omega
  have hoeb : oe ≤ i := by have := hek.oe; omega
  have hvab : va ≤ i := by have := hek.va; omega
  have hspl := hq.sp.lt
  have hgsl : gs < wr.heap.size := hgl
  clear hq hoi hoe hva hxt hsl hT hek hsf hgl
  obtain ⟨wz, hwz⟩ : ∃ wz, wz = (wr.alloc (Obj.cells #[.pointer (some ⟨p.g, i * 5, none⟩)] 76)).alloc (Obj.cells #[.int .i64 lv, .int .i64 ov, .bool iso] 74) := ⟨_, rfl⟩
  have e1 : (T : Int) + 1 - 1 = (T : Int) := by omega
  have hw9 := IntWalk.i64_in (T : Int) (by omega)
  conv => arg 2; whnf
  go_upto_region 12 with fail
  obtain ⟨wy, hwy⟩ : ∃ wy, wy = wr.alloc (Obj.cells #[.pointer (some ⟨p.g, i * 5, none⟩)] 76) := ⟨_, rfl⟩
  have hby : Below wr.heap.size wr wy := by rw [hwy]; exact (Below.refl _ _).alloc (Nat.le_refl _) _
  have s0' := (hby.cell (lt_of_cell s0)).trans s0
  have m0' := (hby.cell (lt_of_cell m0)).trans m0
  have m1' := (hby.cell (lt_of_cell m1)).trans m1
  have m2' := (hby.cell (lt_of_cell m2)).trans m2
  obtain ⟨cb, hcb⟩ : ∃ c, c = wr.heap.size := ⟨_, rfl⟩
  have hbc : Blk wy cb #[.pointer (some ⟨p.g, i * 5, none⟩)] 76 := by rw [hwy, hcb]; exact Blk.new _ _ _
  have HY := Lib.hid (show Em p b (prt (clE b p.K p.n) p.K i) (prt (lvE b p.K p.n) (fun _ => 0) i) (prtB (ouE p.K) (fun _ => false) i) w0 wy (.slice (some ⟨gs, 0, none⟩) (T + 1) cs) (⟨lv, ov, iso⟩ :: t) by rw [hwy]; exact HX.out.alloc _)
  have hcw : w0.heap.size ≤ cb := by rw [hcb]; exact HX.out.sv.size
  rw [← hwy] at hwz ⊢
  rw [← hcb]
  clear s0 m0 m1 m2 hwy hby HX hspl hgsl hcb
  go_upto_region 13 with fail
  obtain ⟨tb, htb⟩ : ∃ c, c = wy.heap.size := ⟨_, rfl⟩
  have HCB := Lib.hid (show Blk wz cb #[.pointer (some ⟨p.g, i * 5, none⟩)] 76 by rw [hwz]; exact hbc.alloc _)
  have HTB := Lib.hid (show Blk wz tb #[.int .i64 lv, .int .i64 ov, .bool iso] 74 by rw [hwz, htb]; exact Blk.new _ _ _)
  have HZ := Lib.hid (show Em p b (prt (clE b p.K p.n) p.K i) (prt (lvE b p.K p.n) (fun _ => 0) i) (prtB (ouE p.K) (fun _ => false) i) w0 wz (.slice (some ⟨gs, 0, none⟩) (T + 1) cs) (⟨lv, ov, iso⟩ :: t) by rw [hwz]; exact HY.out.alloc _)
  have htw : w0.heap.size ≤ tb := by rw [htb]; exact HY.out.sv.size
  rw [← hwz, ← htb]
  clear hwz htb hbc s0' m0' m1' m2' HY e1 hw9
  have c0 : wz.cell? ⟨cb, 0, none⟩ = _ := HCB.out.cell (i := 0) rfl
  have t0 : wz.cell? ⟨tb, 0, none⟩ = some (.int .i64 lv) := HTB.out.cell (i := 0) rfl
  obtain ⟨_, d0, _⟩ := HZ.out.ch.cells hin
  obtain ⟨k, hk⟩ : ∃ k, k = p.K i := ⟨_, rfl⟩
  rw [← hk] at d0
  have HK := Lib.hid hk
  obtain ⟨od, hod⟩ : ∃ od, od = oddB p.K p.n i := ⟨_, rfl⟩
  have HOD := Lib.hid hod
  have HOWZ := Lib.hid (IntsF.save HOW.out HZ.out.sv HOG.out)
  clear hk hod
  obtain ⟨o1, ho1⟩ : ∃ o1, o1 = decide (k = 15 ∨ k = 17 ∨ k = 20) := ⟨_, rfl⟩
  have HO1 := Lib.hid ho1
  clear ho1
  go_cut [14] from 49 to 67 (fun v wx => v = .bool o1 ∧ wx = wz)
  case first =>
    by_cases k15 : k = 15
    · have HO := Lib.hid (show o1 = true by rw [HO1.out]; simp [k15])
      subst k15
      go_wp2_with fail
      go_meet
      exact ⟨by rw [HO.out], rfl⟩
    have f15 : (k == 15) = false := by simpa using k15
    by_cases k17 : k = 17
    · have HO := Lib.hid (show o1 = true by rw [HO1.out]; simp [k17])
      subst k17
      go_wp2_with fail
      go_meet
      exact ⟨by rw [HO.out], rfl⟩
    have f17 : (k == 17) = false := by simpa using k17
    by_cases k20 : k = 20
    · have HO := Lib.hid (show o1 = true by rw [HO1.out]; simp [k20])
      subst k20
      go_wp2_with fail
      go_meet
      exact ⟨by rw [HO.out], rfl⟩
    have f20 : (k == 20) = false := by simpa using k20
    have HO := Lib.hid (show o1 = false by rw [HO1.out]; simp [k15, k17, k20])
    clear k15 k17 k20
    go_wp2_with fail
    go_meet
    exact ⟨by rw [HO.out], rfl⟩
  case rest =>
  obtain ⟨rfl, hw⟩ := hcut
  obtain rfl : wz = wc := hw.symm
  clear hw
  go_upto_if 72 with fail
  go_cut [14] from 73 to 80 (fun v wx => v = .bool od ∧ wx = wz)
  case first =>
    by_cases k21 : k = 21
    · have hpr := partner_range (K := p.K) hin
      have HPT := Lib.hid (partner_any p.n p.K ka kc i wz HOWZ.out (by omega) hin)
      have HFL := Lib.hid (firstLetter_any p.n p.K ka kc (i + 1) (partner p.K p.n i) wz HOWZ.out (by omega) hpr.2 (by omega))
      obtain ⟨F, hF⟩ : ∃ F, F = flt p.K p.n (i + 1) (partner p.K p.n i) := ⟨_, rfl⟩
      have HO := Lib.hid (show od = (F == 1) by
        rw [HOD.out, oddB_21 (by rw [← HK.out]; exact k21), hF, Bool.eq_iff_iff]
        simp only [beq_iff_eq]
        exact first_inner HBB.out _ (i + 1) rfl)
      rw [← hF] at HFL
      obtain ⟨q, hq2⟩ : ∃ q, q = partner p.K p.n i := ⟨_, rfl⟩
      rw [← hq2] at HFL HPT
      rw [show ((i + 1 : Nat) : Int) = (i : Int) + 1 from rfl] at HFL
      have hw8 := IntWalk.i64_in ((i : Int) + 1) (by omega)
      subst k21
      clear hpr hF hq2
      go_wp2_with fail
      refine HPT.out.mono ?_
      rintro e9 w9 ⟨rfl, rfl⟩
      dsimp only
      go_wp2_with fail
      refine HFL.out.mono ?_
      rintro e9 w9 ⟨rfl, rfl⟩
      dsimp only
      go_wp2_with fail
      go_meet
      exact ⟨by rw [HO.out], rfl⟩
    · have HO := Lib.hid (show od = o1 by
        rw [HOD.out, HO1.out]
        by_cases h : k = 15 ∨ k = 17 ∨ k = 20
        · rw [oddB_yes (by rw [← HK.out]; exact h), decide_eq_true h]
        · rw [oddB_no (by rw [← HK.out]; exact h) (by rw [← HK.out]; exact k21), decide_eq_false h])
      have f21 : (k == 21) = false := by simpa using k21
      clear k21
      go_wp2_with fail
      go_meet
      exact ⟨by rw [HO.out], rfl⟩
  case rest =>
  obtain ⟨rfl, hw⟩ := hcut
  obtain rfl : wz = wc := hw.symm
  clear hw HOWZ HO1
  obtain ⟨nx, hnx⟩ : ∃ nx, nx = upB lv od := ⟨_, rfl⟩
  have hur := upB_range (lev := lv) (odd := od)
  rw [← hnx] at hur
  have HNXD := Lib.hid hnx
  clear hnx
  have e2 : (lv + 1).tmod 2 = (lv + 1) % 2 := Int.tmod_eq_emod_of_nonneg (by omega)
  have hwl := IntWalk.i64_in (lv + 1) (by omega)
  obtain ⟨bt, hbt⟩ : ∃ bt, ((lv + 1) % 2 == 1) = bt := ⟨_, rfl⟩
  have HN := Lib.hid (show nx = if bt = od then lv + 1 else lv + 1 + 1 by
    rw [HNXD.out]
    unfold upB
    have hr1 := Int.emod_nonneg (lv + 1) (show (2 : Int) ≠ 0 by decide)
    have hr2 := Int.emod_lt_of_pos (lv + 1) (show (0 : Int) < 2 by decide)
    have h : (bt = true ↔ (lv + 1) % 2 = 1) := by rw [← hbt]; simp
    cases bt with
    | true =>
      have h2 := h.1 rfl
      cases od with
      | true => rw [if_pos (by rw [h2]; rfl), if_pos rfl]
      | false => rw [if_neg (by rw [h2]; decide), if_neg (by decide)]; omega
    | false =>
      have h2 : (lv + 1) % 2 = 0 := by
        rcases (show (lv + 1) % 2 = 0 ∨ (lv + 1) % 2 = 1 by omega) with h2 | h2
        · exact h2
        · exact absurd (h.2 h2) (by decide)
      cases od with
      | true => rw [if_neg (by rw [h2]; decide), if_neg (by decide)]; omega
      | false => rw [if_pos (by rw [h2]; rfl), if_pos rfl])
  go_upto_if 88 with fail
  clear hbt e2
  go_cut [15] from 89 to 90 (fun v wx => v = .int .i64 nx ∧ wx = wz)
  case first =>
    have hwl2 := IntWalk.i64_in (lv + 1 + 1) (by omega)
    cases bt with
    | true =>
      cases od with
      | true => (go_wp2_with fail; go_meet; exact ⟨by rw [HN.out]; rfl, rfl⟩)
      | false => (go_wp2_with fail; go_meet; exact ⟨by rw [HN.out]; rfl, rfl⟩)
    | false =>
      cases od with
      | true => (go_wp2_with fail; go_meet; exact ⟨by rw [HN.out]; rfl, rfl⟩)
      | false => (go_wp2_with fail; go_meet; exact ⟨by rw [HN.out]; rfl, rfl⟩)
  case rest =>
  obtain ⟨rfl, hw⟩ := hcut
  obtain rfl : wz = wc := hw.symm
  clear hw HN hwl
  obtain ⟨ft, hft⟩ : ∃ ft, ft = decide (nx ≤ 125 ∧ oi = 0 ∧ oe = 0) := ⟨_, rfl⟩
  have HNX := Lib.hid (show nextB b p.K p.n i e = nx by unfold nextB; rw [HXT.out, HNXD.out, HOD.out]; rfl)
  have HFT := Lib.hid (show ft = true ↔ fitsB b p.K p.n i e by rw [hft, decide_eq_true_iff]; unfold fitsB; rw [HNX.out, ← HOI.out, ← HOE.out])
  have HFD := Lib.hid hft
  clear hft
  go_upto_region 19 with fail
  go_cut [16] from 91 to 100 (fun v wx => v = .bool ft ∧ wx = wz)
  case first =>
    by_cases q1 : nx ≤ 125
    · by_cases q2 : oi = 0
      · have g2 : ((oi : Int) == 0) = true := by simp [q2]
        have HO := Lib.hid (show ft = ((oe : Int) == 0) by rw [HFD.out]; rw [Bool.eq_iff_iff]; simp [q1, q2])
        clear q2
        go_wp2_with fail
        go_meet
        exact ⟨by rw [HO.out], rfl⟩
      · have g2 : ((oi : Int) == 0) = false := by simp [q2]
        have HO := Lib.hid (show ft = false by rw [HFD.out]; simp [q2])
        clear q2
        go_wp2_with fail
        go_meet
        exact ⟨by rw [HO.out], rfl⟩
    · have HO := Lib.hid (show ft = false by rw [HFD.out]; simp [q1])
      go_wp2_with fail
      go_meet
      exact ⟨by rw [HO.out], rfl⟩
  case rest =>
  obtain ⟨rfl, hw⟩ := hcut
  obtain rfl : wz = wc := hw.symm
  clear hw
  have HEK2 := Lib.hid (HEOK.out (i + 1))
  have hnxb : 0 ≤ nx ∧ nx ≤ 1000 := by omega
  go_upto_block 4 with fail
  clear HFD HNXD HOD HOG HOW HBB HEOK
  by_cases k1 : k = 14
  · refine emE14 OK HEK HEK2 HXT HOI HOE HVA HNX HFT HK HE HST HTL HBD HZ HCB HTB hcw htw hin hn hTs hoib hoeb hvab hxm hxo hsc1 hsc2 hnxb hb k1 (Lib.hid fun _ _ _ _ hd h => HQ.out _ _ _ _ hd h) ?_ (fun a' w' h => hK a' w' (Met.intro h)) (fun a' w' h => hK a' w' (Met.intro h))
    intro a' w' h
    iterate 132 (obtain ⟨_, h⟩ := h)
    obtain ⟨hrel, rfl⟩ := h
    refine hJ _ _ ?_
    (repeat apply Exists.intro)
    exact ⟨hrel, rfl⟩
  by_cases k2 : k = 15
  · refine emE15 OK HEK HEK2 HXT HOI HOE HVA HNX HFT HK HE HST HTL HBD HZ HCB HTB hcw htw hin hn hTs hoib hoeb hvab hxm hxo hsc1 hsc2 hnxb hb k2 (Lib.hid fun _ _ _ _ hd h => HQ.out _ _ _ _ hd h) ?_ (fun a' w' h => hK a' w' (Met.intro h)) (fun a' w' h => hK a' w' (Met.intro h))
    intro a' w' h
    iterate 132 (obtain ⟨_, h⟩ := h)
    obtain ⟨hrel, rfl⟩ := h
    refine hJ _ _ ?_
    (repeat apply Exists.intro)
    exact ⟨hrel, rfl⟩
  by_cases k3 : k = 16
  · refine emE16 OK HEK HEK2 HXT HOI HOE HVA HNX HFT HK HE HST HTL HBD HZ HCB HTB hcw htw hin hn hTs hoib hoeb hvab hxm hxo hsc1 hsc2 hnxb hb k3 (Lib.hid fun _ _ _ _ hd h => HQ.out _ _ _ _ hd h) ?_ (fun a' w' h => hK a' w' (Met.intro h)) (fun a' w' h => hK a' w' (Met.intro h))
    intro a' w' h
    iterate 132 (obtain ⟨_, h⟩ := h)
    obtain ⟨hrel, rfl⟩ := h
    refine hJ _ _ ?_
    (repeat apply Exists.intro)
    exact ⟨hrel, rfl⟩
  by_cases k4 : k = 17
  · refine emE17 OK HEK HEK2 HXT HOI HOE HVA HNX HFT HK HE HST HTL HBD HZ HCB HTB hcw htw hin hn hTs hoib hoeb hvab hxm hxo hsc1 hsc2 hnxb hb k4 (Lib.hid fun _ _ _ _ hd h => HQ.out _ _ _ _ hd h) ?_ (fun a' w' h => hK a' w' (Met.intro h)) (fun a' w' h => hK a' w' (Met.intro h))
    intro a' w' h
    iterate 132 (obtain ⟨_, h⟩ := h)
    obtain ⟨hrel, rfl⟩ := h
    refine hJ _ _ ?_
    (repeat apply Exists.intro)
    exact ⟨hrel, rfl⟩
  by_cases k5 : k = 18
  · refine emPdf OK HEK HEK2 HXT HOI HOE HVA HNX HFT HK HE HST HTL HBD HZ HCB HTB hcw htw hin hn hTs hoib hoeb hvab hxm hxo hsc1 hsc2 hnxb hb k5 (Lib.hid fun _ _ _ _ hd h => HQ.out _ _ _ _ hd h) ?_ (fun a' w' h => hK a' w' (Met.intro h)) (fun a' w' h => hK a' w' (Met.intro h))
    intro a' w' h
    iterate 132 (obtain ⟨_, h⟩ := h)
    obtain ⟨hrel, rfl⟩ := h
    refine hJ _ _ ?_
    (repeat apply Exists.intro)
    exact ⟨hrel, rfl⟩
  by_cases k6 : k = 19
  · refine emIso19 OK HEK HEK2 HXT HOI HOE HVA HNX HFT HK HE HST HTL HBD HZ HCB HTB hcw htw hin hn hTs hoib hoeb hvab hxm hxo hsc1 hsc2 hnxb hb k6 (Lib.hid fun _ _ _ _ hd h => HQ.out _ _ _ _ hd h) ?_ (fun a' w' h => hK a' w' (Met.intro h)) (fun a' w' h => hK a' w' (Met.intro h))
    intro a' w' h
    iterate 132 (obtain ⟨_, h⟩ := h)
    obtain ⟨hrel, rfl⟩ := h
    refine hJ _ _ ?_
    (repeat apply Exists.intro)
    exact ⟨hrel, rfl⟩
  by_cases k7 : k = 20
  · refine emIso20 OK HEK HEK2 HXT HOI HOE HVA HNX HFT HK HE HST HTL HBD HZ HCB HTB hcw htw hin hn hTs hoib hoeb hvab hxm hxo hsc1 hsc2 hnxb hb k7 (Lib.hid fun _ _ _ _ hd h => HQ.out _ _ _ _ hd h) ?_ (fun a' w' h => hK a' w' (Met.intro h)) (fun a' w' h => hK a' w' (Met.intro h))
    intro a' w' h
    iterate 132 (obtain ⟨_, h⟩ := h)
    obtain ⟨hrel, rfl⟩ := h
    refine hJ _ _ ?_
    (repeat apply Exists.intro)
    exact ⟨hrel, rfl⟩
  by_cases k8 : k = 21
  · refine emIso21 OK HEK HEK2 HXT HOI HOE HVA HNX HFT HK HE HST HTL HBD HZ HCB HTB hcw htw hin hn hTs hoib hoeb hvab hxm hxo hsc1 hsc2 hnxb hb k8 (Lib.hid fun _ _ _ _ hd h => HQ.out _ _ _ _ hd h) ?_ (fun a' w' h => hK a' w' (Met.intro h)) (fun a' w' h => hK a' w' (Met.intro h))
    intro a' w' h
    iterate 132 (obtain ⟨_, h⟩ := h)
    obtain ⟨hrel, rfl⟩ := h
    refine hJ _ _ ?_
    (repeat apply Exists.intro)
    exact ⟨hrel, rfl⟩
  by_cases k9 : k = 22
  · refine emPdi OK HEK HEK2 HXT HOI HOE HVA HNX HFT HK HE HST HTL HBD HZ HCB HTB hcw htw hin hn hTs hoib hoeb hvab hxm hxo hsc1 hsc2 hnxb hb k9 (Lib.hid fun _ _ _ _ hd h => HQ.out _ _ _ _ hd h) ?_ (fun a' w' h => hK a' w' (Met.intro h)) (fun a' w' h => hK a' w' (Met.intro h))
    intro a' w' h
    iterate 132 (obtain ⟨_, h⟩ := h)
    obtain ⟨hrel, rfl⟩ := h
    refine hJ _ _ ?_
    (repeat apply Exists.intro)
    exact ⟨hrel, rfl⟩
  by_cases ka : k = 9
  · refine emBN9 OK HEK HEK2 HXT HOI HOE HVA HNX HFT HK HE HST HTL HBD HZ HCB HTB hcw htw hin hn hTs hoib hoeb hvab hxm hxo hsc1 hsc2 hnxb hb ka (Lib.hid fun _ _ _ _ hd h => HQ.out _ _ _ _ hd h) ?_ (fun a' w' h => hK a' w' (Met.intro h)) (fun a' w' h => hK a' w' (Met.intro h))
    intro a' w' h
    iterate 132 (obtain ⟨_, h⟩ := h)
    obtain ⟨hrel, rfl⟩ := h
    refine hJ _ _ ?_
    (repeat apply Exists.intro)
    exact ⟨hrel, rfl⟩
  by_cases kb : k = 10
  · refine emB10 OK HEK HEK2 HXT HOI HOE HVA HNX HFT HK HE HST HTL HBD HZ HCB HTB hcw htw hin hn hTs hoib hoeb hvab hxm hxo hsc1 hsc2 hnxb hb kb (Lib.hid fun _ _ _ _ hd h => HQ.out _ _ _ _ hd h) ?_ (fun a' w' h => hK a' w' (Met.intro h)) (fun a' w' h => hK a' w' (Met.intro h))
    intro a' w' h
    iterate 132 (obtain ⟨_, h⟩ := h)
    obtain ⟨hrel, rfl⟩ := h
    refine hJ _ _ ?_
    (repeat apply Exists.intro)
    exact ⟨hrel, rfl⟩
  · refine emOther OK HEK HEK2 HXT HOI HOE HVA HNX HFT HK HE HST HTL HBD HZ HCB HTB hcw htw hin hn hTs hoib hoeb hvab hxm hxo hsc1 hsc2 hnxb hb (by omega) (Lib.hid fun _ _ _ _ hd h => HQ.out _ _ _ _ hd h) ?_ (fun a' w' h => hK a' w' (Met.intro h)) (fun a' w' h => hK a' w' (Met.intro h))
    intro a' w' h
    iterate 132 (obtain ⟨_, h⟩ := h)
    obtain ⟨hrel, rfl⟩ := h
    refine hJ _ _ ?_
    (repeat apply Exists.intro)
    exact ⟨hrel, rfl⟩
end Go.Proofs.YtojbicdmcodgdaaDoor.BD
