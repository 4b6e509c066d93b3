/-
  BdREmL, BdREmU, BdREmV.
-/
import Derived.Test.YtojbicdmcodgdaaDoorBdM23
import Derived.Test.YtojbicdmcodgdaaDoorBdM07
import Derived.Test.YtojbicdmcodgdaaDoorBdM06
namespace Go.Law.Bd
open Go Go.Law Go.RowKit
set_option linter.unusedVariables false
theorem Blk.ne {w : World} {a b : Nat} {cs ds : Array Value} {e f : TypeId} (h : Blk w a cs e) (h2 : Blk w b ds f) (hne : e ≠ f) : a ≠ b := by
  rintro rfl
  unfold Blk at h h2
  rw [h] at h2
  injection h2 with h3
  injection h3 with _ h4
  exact hne h4
/-- the box of the stack stays when the stack grows -/
theorem Em.spAfter {p : EmP} {b : Ent} {C V : Nat → Int} {O : Nat → Bool} {w0 wr w1 : World} {sv : Value} {S : List Ent} {o : Obj} (ok : EmOk p w0) (h : Em p b C V O w0 wr sv S) (hg : (wr.alloc o).grownBy w1 sv.ownBlock) : Blk w1 p.sp #[sv] 75 := by
  have ha := h.alloc o
  exact ha.sp.block (hg.block _ ha.sp.lt (fun e => (ha.row ok).2 e.symm))
def lenC : Option Value → Nat
  | some v => lenV3 v
  | none => 0
end Go.Law.Bd
namespace Go.Proofs.YtojbicdmcodgdaaDoor.BD
open Go.RowKit Go.Law Go.Law.Bd
set_option linter.unusedVariables false
set_option linter.unusedSimpArgs false
set_option maxRecDepth 100000
set_option maxHeartbeats 8000000 in
theorem emIso19 {p : EmP} {b : Ent} {w0 wz : World} {i oi oe va T gs cs cb tb : Nat} {e : Est} {t : List Ent} {lv ov nx k base : Int} {iso ft : Bool}
    (OK : Hid (EmOk p w0)) (HEK : Hid (EstOk b i e)) (HEK2 : Hid (EstOk b (i + 1) (estAt b p.K p.n (i + 1)))) (HXT : Hid (e.st = ⟨lv, ov, iso⟩ :: t)) (HOI : Hid (oi = e.oi)) (HOE : Hid (oe = e.oe)) (HVA : Hid (va = e.va)) (HNX : Hid (nextB b p.K p.n i e = nx)) (HFT : Hid (ft = true ↔ fitsB b p.K p.n i e))
    (HK : Hid (k = p.K i)) (HE : Hid (e = estAt b p.K p.n i)) (HST : Hid (estAt b p.K p.n (i + 1) = estStep b p.K p.n i e)) (HTL : Hid (T = t.length)) (HBD : Hid (b = ⟨base, -1, false⟩))
    (HZ : Hid (Em p b (prt (clE b p.K p.n) p.K i) (prt (lvE b p.K p.n) (fun _ => 0) i) (prtB (ouE p.K) (fun _ => false) i) w0 wz (.slice (some ⟨gs, 0, none⟩) (T + 1) cs) (⟨lv, ov, iso⟩ :: t)))
    (HCB : Hid (Blk wz cb #[.pointer (some ⟨p.g, i * 5, none⟩)] 76)) (HTB : Hid (Blk wz tb #[.int .i64 lv, .int .i64 ov, .bool iso] 74)) (hcw : w0.heap.size ≤ cb) (htw : w0.heap.size ≤ tb)
    (hin : i < p.n) (hn2 : p.n ≤ 200) (hTs : T + 1 ≤ i + 1) (hoib : oi ≤ i) (hoeb : oe ≤ i) (hvab : va ≤ i) (hxm : 0 ≤ lv ∧ lv ≤ 125) (hxo : -1 ≤ ov ∧ ov ≤ 1) (hsc1 : T + 1 ≤ cs) (hsc2 : cs ≤ maxLen) (hnxb : 0 ≤ nx ∧ nx ≤ 1000) (hbase : base = 0 ∨ base = 1) (hk : k = 19)
    {s0 s2 s3 s4 s5 s6 s11 s14 s18 s19 s20 s21 s22 s23 s24 s25 s26 s27 s28 s29 s30 s31 s32 s33 s34 s35 s36 s37 s38 s39 s40 s41 s42 s43 s44 s45 s46 s47 s48 s49 s50 s51 s52 s53 s54 s55 s56 s57 s58 s59 s60 s61 s62 s63 s64 s65 s66 s67 s68 s69 s70 s71 s72 s73 s74 s75 s76 s77 s78 s79 s80 s81 s82 s83 s84 s85 s86 s87 s88 s89 s90 s91 s92 s93 s94 s95 s96 s97 s98 s99 s100 s101 s102 s103 s104 s106 s107 s108 s109 s110 s111 s112 s113 s114 s115 s116 s117 s118 s119 s120 s121 s122 s123 s124 s125 s126 s127 s128 s129 s130 s131 s132 s133 s134 s135 s136 s137 s138 s139 s140 s141 s142 s143 s144 s145 s146 s147 s148 s149 s150 s151 s152 s153 s154 s155 s156 s157 s158 s159 s160 s161 s162 s163 s164 s165 s166 s167 s168 s169 s170 s171 s172 s173 s174 s175 s176 s177 s178 s179 s180 s181 s182 s183 s184 s185 s186 s187 s188 s189 s190 s191 s192 s193 s194 s195 s196 s197 s198 s199 s200 s201 s202 s203 s204 s205 s206 s207 s208 s209 s210 s211 s212 s213 s214 s215 s216 s217 s218 s219 s220 s221 s222 s223 s224 s225 s226 s227 s228 s229 s230 s231 s232 s233 : Value} {J : Act → World → Prop} {Q : Exit → Act → World → Prop}
    (HQ : Hid (∀ (c : List PanicEntry) (a a' : Act) (w : World), a.defers = a'.defers → Q (.panic c) a w → Q (.panic c) a' w))
    (hJ : ∀ (a' : Act) (w' : World), (∃ u8 u9 u10 u18 u19 u106 u107 u108 u109 u110 u111 u112 u113 u114 u115 u116 u117 u118 u119 u120 u121 u122 u123 u124 u125 u126 u127 u128 u129 u130 u131 u132 u133 u134 u135 u136 u137 u138 u139 u140 u141 u142 u143 u144 u145 u146 u147 u148 u149 u150 u151 u152 u153 u154 u155 u156 u157 u158 u159 u160 u161 u162 u163 u164 u165 u166 u167 u168 u169 u170 u171 u172 u173 u174 u175 u176 u177 u178 u179 u180 u181 u182 u183 u184 u185 u186 u187 u188 u189 u190 u191 u192 u193 u194 u195 u196 u197 u198 u199 u200 u201 u202 u203 u204 u205 u206 u207 u208 u209 u210 u211 u212 u213 u214 u215 u216 u217 u218 u219 u220 u221 u222 u223 u224 u225 u226 u227 u228 u229 u230 u231 u232 : Value, (u8 = .int .i64 (estAt b p.K p.n (i + 1)).oi ∧ u9 = .int .i64 (estAt b p.K p.n (i + 1)).oe ∧ u10 = .int .i64 (estAt b p.K p.n (i + 1)).va ∧ ∃ sv, Em p b (prt (clE b p.K p.n) p.K (i + 1)) (prt (lvE b p.K p.n) (fun _ => 0) (i + 1)) (prtB (ouE p.K) (fun _ => false) (i + 1)) w0 w' sv (estAt b p.K p.n (i + 1)).st) ∧ a' = ⟨#[s0, .int .i64 base, s2, s3, s4, s5, s6, .pointer (some ⟨p.sp, 0, none⟩), u8, u9, u10, s11, .pointer (some ⟨cb, 0, none⟩), .pointer (some ⟨tb, 0, none⟩), s14, .int .i64 nx, .bool ft, .func (.func 46) #[] #[.pointer (some ⟨p.sp, 0, none⟩), .pointer (some ⟨cb, 0, none⟩)], u18, u19, s20, s21, s22, s23, s24, s25, s26, s27, s28, s29, s30, s31, s32, s33, s34, s35, s36, s37, s38, s39, s40, s41, s42, s43, s44, s45, s46, s47, s48, s49, s50, s51, s52, s53, s54, s55, s56, s57, s58, s59, s60, s61, s62, s63, s64, s65, s66, s67, s68, s69, s70, s71, s72, s73, s74, s75, s76, s77, s78, s79, s80, s81, s82, s83, s84, s85, s86, s87, s88, s89, s90, s91, s92, s93, s94, s95, s96, s97, s98, s99, s100, s101, s102, s103, s104, .int .i64 k, u106, u107, u108, u109, u110, u111, u112, u113, u114, u115, u116, u117, u118, u119, u120, u121, u122, u123, u124, u125, u126, u127, u128, u129, u130, u131, u132, u133, u134, u135, u136, u137, u138, u139, u140, u141, u142, u143, u144, u145, u146, u147, u148, u149, u150, u151, u152, u153, u154, u155, u156, u157, u158, u159, u160, u161, u162, u163, u164, u165, u166, u167, u168, u169, u170, u171, u172, u173, u174, u175, u176, u177, u178, u179, u180, u181, u182, u183, u184, u185, u186, u187, u188, u189, u190, u191, u192, u193, u194, u195, u196, u197, u198, u199, u200, u201, u202, u203, u204, u205, u206, u207, u208, u209, u210, u211, u212, u213, u214, u215, u216, u217, u218, u219, u220, u221, u222, u223, u224, u225, u226, u227, u228, u229, u230, u231, u232, s233], []⟩) → J a' w')
    (hN : ∀ (a' : Act) (w' : World), J a' w' → Q .normal a' w') (hX : ∀ (a' : Act) (w' : World), J a' w' → Q (.exit 3) a' w') :
    Code.wp Tryd.prog (theBlk Tryd.f25 4) Q ⟨#[s0, .int .i64 base, s2, s3, s4, s5, s6, .pointer (some ⟨p.sp, 0, none⟩), .int .i64 oi, .int .i64 oe, .int .i64 va, s11, .pointer (some ⟨cb, 0, none⟩), .pointer (some ⟨tb, 0, none⟩), s14, .int .i64 nx, .bool ft, .func (.func 46) #[] #[.pointer (some ⟨p.sp, 0, none⟩), .pointer (some ⟨cb, 0, none⟩)], s18, s19, s20, s21, s22, s23, s24, s25, s26, s27, s28, s29, s30, s31, s32, s33, s34, s35, s36, s37, s38, s39, s40, s41, s42, s43, s44, s45, s46, s47, s48, s49, s50, s51, s52, s53, s54, s55, s56, s57, s58, s59, s60, s61, s62, s63, s64, s65, s66, s67, s68, s69, s70, s71, s72, s73, s74, s75, s76, s77, s78, s79, s80, s81, s82, s83, s84, s85, s86, s87, s88, s89, s90, s91, s92, s93, s94, s95, s96, s97, s98, s99, s100, s101, s102, s103, s104, .int .i64 k, s106, s107, s108, s109, s110, s111, s112, s113, s114, s115, s116, s117, s118, s119, s120, s121, s122, s123, s124, s125, s126, s127, s128, s129, s130, s131, s132, s133, s134, s135, s136, s137, s138, s139, s140, s141, s142, s143, s144, s145, s146, s147, s148, s149, s150, s151, s152, s153, s154, s155, s156, s157, s158, s159, s160, s161, s162, s163, s164, s165, s166, s167, s168, s169, s170, s171, s172, s173, s174, s175, s176, s177, s178, s179, s180, s181, s182, s183, s184, s185, s186, s187, s188, s189, s190, s191, s192, s193, s194, s195, s196, s197, s198, s199, s200, s201, s202, s203, s204, s205, s206, s207, s208, s209, s210, s211, s212, s213, s214, s215, s216, s217, s218, s219, s220, s221, s222, s223, s224, s225, s226, s227, s228, s229, s230, s231, s232, s233], []⟩ wz := by
  have h1 : ¬ isEmb (p.K i) := by have hk2 := HK.out; unfold isEmb; omega
  have h2 : isoB (p.K i) = true := by have hk2 := HK.out; unfold isoB; rw [decide_eq_true_eq]; omega
  have HES := Lib.hid (show estAt b p.K p.n (i + 1) = if fitsB b p.K p.n i e then { e with st := ⟨nx, -1, true⟩ :: e.st, va := e.va + 1 } else { e with oi := e.oi + 1 } by
    rw [HST.out]; unfold estStep
    rw [if_neg h1, if_pos h2, HNX.out])
  clear h1
  have HDC := Lib.hid (show decB b p.K p.n i = ⟨lv, ov, iso⟩ by
    have hk2 := HK.out
    unfold decB; rw [if_neg (by omega), ← HE.out, HXT.out]; rfl)
  have HOU := Lib.hid (show ouE p.K i = false by have hk2 := HK.out; unfold ouE; rw [decide_eq_false_iff_not]; omega)
  have HCL := Lib.hid (show clE b p.K p.n i = if 0 ≤ ov then ov else p.K i by
    have hk2 := HK.out
    unfold clE; rw [HOU.out, HDC.out, if_neg (by intro h; rcases h with h | h; exact absurd h (by decide); omega)])
  have HLV := Lib.hid (show lvE b p.K p.n i = lv by have hk2 := HK.out; unfold lvE; rw [if_neg (by omega), HDC.out])
  have HPL := Lib.hid (plain_any OK.out HZ.out HCB.out hin (by omega) (by have := HTL.out; omega))
  clear h2
  subst hk
  conv => arg 2; whnf
  go_wp2_with fail
  refine HPL.out.mono ?_
  rintro e9 w7 ⟨rfl, hem, hsv⟩
  have HX7 := Lib.hid (show Em p b (prt (clE b p.K p.n) p.K (i + 1)) (prt (lvE b p.K p.n) (fun _ => 0) (i + 1)) (prtB (ouE p.K) (fun _ => false) (i + 1)) w0 w7 (.slice (some ⟨gs, 0, none⟩) (T + 1) cs) (⟨lv, ov, iso⟩ :: t) from
    hem.congr (fun j _ => by unfold ovC; exact cl_set rfl HCL.out j) (fun j _ => prt_set _ _ i HLV.out j) (fun j _ => prtB_same HOU.out j))
  clear hem hsv HPL HZ
  cases ft with
  | true =>
    have HN := Lib.hid (HES.out.trans (if_pos (HFT.out.1 rfl)))
    go_upto_region 44 with fail
    obtain ⟨xs, hown0, hxl, hxs⟩ := HX7.out.st.own
    have HX := Lib.hid hown0
    have HXL := Lib.hid hxl
    have HXS := Lib.hid hxs
    obtain ⟨ii, hii, hz0, hz1, hz2⟩ := info_parts (show (Tryd.prog.info? 74).map (fun i => (i.zero, i.size, i.bytes)) = some (some (.agg #[.int .i64 0, .int .i64 0, .bool false]), 3, 24) by kernel_rfl)
    have hsl3 : (Ent.mk lv ov iso :: t).length = T + 1 := by rw [HTL.out]; rfl
    rw [hsl3] at HX HXL HXS
    have hlowz := HX7.out.sv.size
    have s0 : w7.cell? ⟨p.sp, 0, none⟩ = some (.slice (some ⟨gs, 0, none⟩) (T + 1) cs) := HX7.out.sp.cell (i := 0) rfl
    have hspl := HX7.out.sp.lt
    clear hown0 hxl hxs
    go_wp2_with (at_builtin; go_loud (refine wpList_append_own _ rfl _ _ 75 rfl (w0.heap.size) 74 ii _ 3 24 Tryd.underlying75 hii hz0 hz1 hz2 rfl (by decide) _ _ _ rfl (RowL.alloc HX.out _) ⟨w7.heap.size, 0, none⟩ 1 1 [.int .i64 nx, .int .i64 (-1), .bool true] rfl rfl ?k1a ?k2a ?k3a ?k4a ?k5a ?_))
    try (case k1a =>
      intro j u hj
      have e : Addr.add ⟨w7.heap.size, 0, none⟩ j = ⟨w7.heap.size, j, none⟩ := by simp [Addr.add] <;> omega
      rw [e]
      exact cellNew3 (by simpa using hj))
    try (case k2a => first | exact ⟨rfl, rfl, rfl⟩ | (intro u hu; simp at hu; rcases hu with rfl | rfl | rfl <;> rfl))
    try (case k3a => unfold maxLen; (try simp); (try omega))
    try (case k4a => (try simp); (try omega))
    try (case k5a => (try simp); (try omega))
    intro v5 w5 hown hgrow _
    have hsp5 := Em.spAfter OK.out HX7.out hgrow
    have s5 : w5.cell? ⟨p.sp, 0, none⟩ = some (.slice (some ⟨gs, 0, none⟩) (T + 1) cs) := hsp5.cell (i := 0) rfl
    have z5 := hsp5.frozen 0
    have HX5 := Lib.hid (Em.push (y := ⟨nx, -1, true⟩) OK.out HX7.out hgrow (by rw [hsl3]; exact hown) (by rw [hsl3]; exact HXL.out) (by rw [hsl3]; exact HXS.out))
    obtain ⟨a5, c5, hv5, _, _⟩ := RowL.slice hown
    subst hv5
    clear hown hgrow hii hz0 hz1 hz2 HX HXS HXL hsl3 s0 hsp5 hspl
    go_wp2_with fail
    refine hN _ _ (hJ _ _ ?_)
    (repeat apply Exists.intro)
    refine ⟨?rel, rfl⟩
    case rel => exact ⟨by rw [HN.out, HOI.out], by rw [HN.out, HOE.out], by rw [HN.out, HVA.out]; rfl, _, by rw [HN.out]; show Em p b _ _ _ w0 _ _ (⟨nx, -1, true⟩ :: e.st); rw [HXT.out]; exact HX5.out⟩
  | false =>
    have HN := Lib.hid (HES.out.trans (if_neg (fun h => absurd (HFT.out.2 h) (by decide))))
    go_wp2_with fail
    (try refine hJ _ _ ?_)
    (repeat apply Exists.intro)
    refine ⟨?rel, rfl⟩
    case rel => exact ⟨by rw [HN.out, HOI.out]; rfl, by rw [HN.out, HOE.out], by rw [HN.out, HVA.out], _, by rw [HN.out]; show Em p b _ _ _ w0 w7 _ e.st; rw [HXT.out]; exact HX7.out⟩
set_option maxHeartbeats 8000000 in
theorem emIso20 {p : EmP} {b : Ent} {w0 wz : World} {i oi oe va T gs cs cb tb : Nat} {e : Est} {t : List Ent} {lv ov nx k base : Int} {iso ft : Bool}
    (OK : Hid (EmOk p w0)) (HEK : Hid (EstOk b i e)) (HEK2 : Hid (EstOk b (i + 1) (estAt b p.K p.n (i + 1)))) (HXT : Hid (e.st = ⟨lv, ov, iso⟩ :: t)) (HOI : Hid (oi = e.oi)) (HOE : Hid (oe = e.oe)) (HVA : Hid (va = e.va)) (HNX : Hid (nextB b p.K p.n i e = nx)) (HFT : Hid (ft = true ↔ fitsB b p.K p.n i e))
    (HK : Hid (k = p.K i)) (HE : Hid (e = estAt b p.K p.n i)) (HST : Hid (estAt b p.K p.n (i + 1) = estStep b p.K p.n i e)) (HTL : Hid (T = t.length)) (HBD : Hid (b = ⟨base, -1, false⟩))
    (HZ : Hid (Em p b (prt (clE b p.K p.n) p.K i) (prt (lvE b p.K p.n) (fun _ => 0) i) (prtB (ouE p.K) (fun _ => false) i) w0 wz (.slice (some ⟨gs, 0, none⟩) (T + 1) cs) (⟨lv, ov, iso⟩ :: t)))
    (HCB : Hid (Blk wz cb #[.pointer (some ⟨p.g, i * 5, none⟩)] 76)) (HTB : Hid (Blk wz tb #[.int .i64 lv, .int .i64 ov, .bool iso] 74)) (hcw : w0.heap.size ≤ cb) (htw : w0.heap.size ≤ tb)
    (hin : i < p.n) (hn2 : p.n ≤ 200) (hTs : T + 1 ≤ i + 1) (hoib : oi ≤ i) (hoeb : oe ≤ i) (hvab : va ≤ i) (hxm : 0 ≤ lv ∧ lv ≤ 125) (hxo : -1 ≤ ov ∧ ov ≤ 1) (hsc1 : T + 1 ≤ cs) (hsc2 : cs ≤ maxLen) (hnxb : 0 ≤ nx ∧ nx ≤ 1000) (hbase : base = 0 ∨ base = 1) (hk : k = 20)
    {s0 s2 s3 s4 s5 s6 s11 s14 s18 s19 s20 s21 s22 s23 s24 s25 s26 s27 s28 s29 s30 s31 s32 s33 s34 s35 s36 s37 s38 s39 s40 s41 s42 s43 s44 s45 s46 s47 s48 s49 s50 s51 s52 s53 s54 s55 s56 s57 s58 s59 s60 s61 s62 s63 s64 s65 s66 s67 s68 s69 s70 s71 s72 s73 s74 s75 s76 s77 s78 s79 s80 s81 s82 s83 s84 s85 s86 s87 s88 s89 s90 s91 s92 s93 s94 s95 s96 s97 s98 s99 s100 s101 s102 s103 s104 s106 s107 s108 s109 s110 s111 s112 s113 s114 s115 s116 s117 s118 s119 s120 s121 s122 s123 s124 s125 s126 s127 s128 s129 s130 s131 s132 s133 s134 s135 s136 s137 s138 s139 s140 s141 s142 s143 s144 s145 s146 s147 s148 s149 s150 s151 s152 s153 s154 s155 s156 s157 s158 s159 s160 s161 s162 s163 s164 s165 s166 s167 s168 s169 s170 s171 s172 s173 s174 s175 s176 s177 s178 s179 s180 s181 s182 s183 s184 s185 s186 s187 s188 s189 s190 s191 s192 s193 s194 s195 s196 s197 s198 s199 s200 s201 s202 s203 s204 s205 s206 s207 s208 s209 s210 s211 s212 s213 s214 s215 s216 s217 s218 s219 s220 s221 s222 s223 s224 s225 s226 s227 s228 s229 s230 s231 s232 s233 : Value} {J : Act → World → Prop} {Q : Exit → Act → World → Prop}
    (HQ : Hid (∀ (c : List PanicEntry) (a a' : Act) (w : World), a.defers = a'.defers → Q (.panic c) a w → Q (.panic c) a' w))
    (hJ : ∀ (a' : Act) (w' : World), (∃ u8 u9 u10 u18 u19 u106 u107 u108 u109 u110 u111 u112 u113 u114 u115 u116 u117 u118 u119 u120 u121 u122 u123 u124 u125 u126 u127 u128 u129 u130 u131 u132 u133 u134 u135 u136 u137 u138 u139 u140 u141 u142 u143 u144 u145 u146 u147 u148 u149 u150 u151 u152 u153 u154 u155 u156 u157 u158 u159 u160 u161 u162 u163 u164 u165 u166 u167 u168 u169 u170 u171 u172 u173 u174 u175 u176 u177 u178 u179 u180 u181 u182 u183 u184 u185 u186 u187 u188 u189 u190 u191 u192 u193 u194 u195 u196 u197 u198 u199 u200 u201 u202 u203 u204 u205 u206 u207 u208 u209 u210 u211 u212 u213 u214 u215 u216 u217 u218 u219 u220 u221 u222 u223 u224 u225 u226 u227 u228 u229 u230 u231 u232 : Value, (u8 = .int .i64 (estAt b p.K p.n (i + 1)).oi ∧ u9 = .int .i64 (estAt b p.K p.n (i + 1)).oe ∧ u10 = .int .i64 (estAt b p.K p.n (i + 1)).va ∧ ∃ sv, Em p b (prt (clE b p.K p.n) p.K (i + 1)) (prt (lvE b p.K p.n) (fun _ => 0) (i + 1)) (prtB (ouE p.K) (fun _ => false) (i + 1)) w0 w' sv (estAt b p.K p.n (i + 1)).st) ∧ a' = ⟨#[s0, .int .i64 base, s2, s3, s4, s5, s6, .pointer (some ⟨p.sp, 0, none⟩), u8, u9, u10, s11, .pointer (some ⟨cb, 0, none⟩), .pointer (some ⟨tb, 0, none⟩), s14, .int .i64 nx, .bool ft, .func (.func 46) #[] #[.pointer (some ⟨p.sp, 0, none⟩), .pointer (some ⟨cb, 0, none⟩)], u18, u19, s20, s21, s22, s23, s24, s25, s26, s27, s28, s29, s30, s31, s32, s33, s34, s35, s36, s37, s38, s39, s40, s41, s42, s43, s44, s45, s46, s47, s48, s49, s50, s51, s52, s53, s54, s55, s56, s57, s58, s59, s60, s61, s62, s63, s64, s65, s66, s67, s68, s69, s70, s71, s72, s73, s74, s75, s76, s77, s78, s79, s80, s81, s82, s83, s84, s85, s86, s87, s88, s89, s90, s91, s92, s93, s94, s95, s96, s97, s98, s99, s100, s101, s102, s103, s104, .int .i64 k, u106, u107, u108, u109, u110, u111, u112, u113, u114, u115, u116, u117, u118, u119, u120, u121, u122, u123, u124, u125, u126, u127, u128, u129, u130, u131, u132, u133, u134, u135, u136, u137, u138, u139, u140, u141, u142, u143, u144, u145, u146, u147, u148, u149, u150, u151, u152, u153, u154, u155, u156, u157, u158, u159, u160, u161, u162, u163, u164, u165, u166, u167, u168, u169, u170, u171, u172, u173, u174, u175, u176, u177, u178, u179, u180, u181, u182, u183, u184, u185, u186, u187, u188, u189, u190, u191, u192, u193, u194, u195, u196, u197, u198, u199, u200, u201, u202, u203, u204, u205, u206, u207, u208, u209, u210, u211, u212, u213, u214, u215, u216, u217, u218, u219, u220, u221, u222, u223, u224, u225, u226, u227, u228, u229, u230, u231, u232, s233], []⟩) → J a' w')
    (hN : ∀ (a' : Act) (w' : World), J a' w' → Q .normal a' w') (hX : ∀ (a' : Act) (w' : World), J a' w' → Q (.exit 3) a' w') :
    Code.wp Tryd.prog (theBlk Tryd.f25 4) Q ⟨#[s0, .int .i64 base, s2, s3, s4, s5, s6, .pointer (some ⟨p.sp, 0, none⟩), .int .i64 oi, .int .i64 oe, .int .i64 va, s11, .pointer (some ⟨cb, 0, none⟩), .pointer (some ⟨tb, 0, none⟩), s14, .int .i64 nx, .bool ft, .func (.func 46) #[] #[.pointer (some ⟨p.sp, 0, none⟩), .pointer (some ⟨cb, 0, none⟩)], s18, s19, s20, s21, s22, s23, s24, s25, s26, s27, s28, s29, s30, s31, s32, s33, s34, s35, s36, s37, s38, s39, s40, s41, s42, s43, s44, s45, s46, s47, s48, s49, s50, s51, s52, s53, s54, s55, s56, s57, s58, s59, s60, s61, s62, s63, s64, s65, s66, s67, s68, s69, s70, s71, s72, s73, s74, s75, s76, s77, s78, s79, s80, s81, s82, s83, s84, s85, s86, s87, s88, s89, s90, s91, s92, s93, s94, s95, s96, s97, s98, s99, s100, s101, s102, s103, s104, .int .i64 k, s106, s107, s108, s109, s110, s111, s112, s113, s114, s115, s116, s117, s118, s119, s120, s121, s122, s123, s124, s125, s126, s127, s128, s129, s130, s131, s132, s133, s134, s135, s136, s137, s138, s139, s140, s141, s142, s143, s144, s145, s146, s147, s148, s149, s150, s151, s152, s153, s154, s155, s156, s157, s158, s159, s160, s161, s162, s163, s164, s165, s166, s167, s168, s169, s170, s171, s172, s173, s174, s175, s176, s177, s178, s179, s180, s181, s182, s183, s184, s185, s186, s187, s188, s189, s190, s191, s192, s193, s194, s195, s196, s197, s198, s199, s200, s201, s202, s203, s204, s205, s206, s207, s208, s209, s210, s211, s212, s213, s214, s215, s216, s217, s218, s219, s220, s221, s222, s223, s224, s225, s226, s227, s228, s229, s230, s231, s232, s233], []⟩ wz := by
  have h1 : ¬ isEmb (p.K i) := by have hk2 := HK.out; unfold isEmb; omega
  have h2 : isoB (p.K i) = true := by have hk2 := HK.out; unfold isoB; rw [decide_eq_true_eq]; omega
  have HES := Lib.hid (show estAt b p.K p.n (i + 1) = if fitsB b p.K p.n i e then { e with st := ⟨nx, -1, true⟩ :: e.st, va := e.va + 1 } else { e with oi := e.oi + 1 } by
    rw [HST.out]; unfold estStep
    rw [if_neg h1, if_pos h2, HNX.out])
  clear h1
  have HDC := Lib.hid (show decB b p.K p.n i = ⟨lv, ov, iso⟩ by
    have hk2 := HK.out
    unfold decB; rw [if_neg (by omega), ← HE.out, HXT.out]; rfl)
  have HOU := Lib.hid (show ouE p.K i = false by have hk2 := HK.out; unfold ouE; rw [decide_eq_false_iff_not]; omega)
  have HCL := Lib.hid (show clE b p.K p.n i = if 0 ≤ ov then ov else p.K i by
    have hk2 := HK.out
    unfold clE; rw [HOU.out, HDC.out, if_neg (by intro h; rcases h with h | h; exact absurd h (by decide); omega)])
  have HLV := Lib.hid (show lvE b p.K p.n i = lv by have hk2 := HK.out; unfold lvE; rw [if_neg (by omega), HDC.out])
  have HPL := Lib.hid (plain_any OK.out HZ.out HCB.out hin (by omega) (by have := HTL.out; omega))
  clear h2
  subst hk
  conv => arg 2; whnf
  go_wp2_with fail
  refine HPL.out.mono ?_
  rintro e9 w7 ⟨rfl, hem, hsv⟩
  have HX7 := Lib.hid (show Em p b (prt (clE b p.K p.n) p.K (i + 1)) (prt (lvE b p.K p.n) (fun _ => 0) (i + 1)) (prtB (ouE p.K) (fun _ => false) (i + 1)) w0 w7 (.slice (some ⟨gs, 0, none⟩) (T + 1) cs) (⟨lv, ov, iso⟩ :: t) from
    hem.congr (fun j _ => by unfold ovC; exact cl_set rfl HCL.out j) (fun j _ => prt_set _ _ i HLV.out j) (fun j _ => prtB_same HOU.out j))
  clear hem hsv HPL HZ
  cases ft with
  | true =>
    have HN := Lib.hid (HES.out.trans (if_pos (HFT.out.1 rfl)))
    go_upto_region 44 with fail
    obtain ⟨xs, hown0, hxl, hxs⟩ := HX7.out.st.own
    have HX := Lib.hid hown0
    have HXL := Lib.hid hxl
    have HXS := Lib.hid hxs
    obtain ⟨ii, hii, hz0, hz1, hz2⟩ := info_parts (show (Tryd.prog.info? 74).map (fun i => (i.zero, i.size, i.bytes)) = some (some (.agg #[.int .i64 0, .int .i64 0, .bool false]), 3, 24) by kernel_rfl)
    have hsl3 : (Ent.mk lv ov iso :: t).length = T + 1 := by rw [HTL.out]; rfl
    rw [hsl3] at HX HXL HXS
    have hlowz := HX7.out.sv.size
    have s0 : w7.cell? ⟨p.sp, 0, none⟩ = some (.slice (some ⟨gs, 0, none⟩) (T + 1) cs) := HX7.out.sp.cell (i := 0) rfl
    have hspl := HX7.out.sp.lt
    clear hown0 hxl hxs
    go_wp2_with (at_builtin; go_loud (refine wpList_append_own _ rfl _ _ 75 rfl (w0.heap.size) 74 ii _ 3 24 Tryd.underlying75 hii hz0 hz1 hz2 rfl (by decide) _ _ _ rfl (RowL.alloc HX.out _) ⟨w7.heap.size, 0, none⟩ 1 1 [.int .i64 nx, .int .i64 (-1), .bool true] rfl rfl ?k1a ?k2a ?k3a ?k4a ?k5a ?_))
    try (case k1a =>
      intro j u hj
      have e : Addr.add ⟨w7.heap.size, 0, none⟩ j = ⟨w7.heap.size, j, none⟩ := by simp [Addr.add] <;> omega
      rw [e]
      exact cellNew3 (by simpa using hj))
    try (case k2a => first | exact ⟨rfl, rfl, rfl⟩ | (intro u hu; simp at hu; rcases hu with rfl | rfl | rfl <;> rfl))
    try (case k3a => unfold maxLen; (try simp); (try omega))
    try (case k4a => (try simp); (try omega))
    try (case k5a => (try simp); (try omega))
    intro v5 w5 hown hgrow _
    have hsp5 := Em.spAfter OK.out HX7.out hgrow
    have s5 : w5.cell? ⟨p.sp, 0, none⟩ = some (.slice (some ⟨gs, 0, none⟩) (T + 1) cs) := hsp5.cell (i := 0) rfl
    have z5 := hsp5.frozen 0
    have HX5 := Lib.hid (Em.push (y := ⟨nx, -1, true⟩) OK.out HX7.out hgrow (by rw [hsl3]; exact hown) (by rw [hsl3]; exact HXL.out) (by rw [hsl3]; exact HXS.out))
    obtain ⟨a5, c5, hv5, _, _⟩ := RowL.slice hown
    subst hv5
    clear hown hgrow hii hz0 hz1 hz2 HX HXS HXL hsl3 s0 hsp5 hspl
    go_wp2_with fail
    refine hN _ _ (hJ _ _ ?_)
    (repeat apply Exists.intro)
    refine ⟨?rel, rfl⟩
    case rel => exact ⟨by rw [HN.out, HOI.out], by rw [HN.out, HOE.out], by rw [HN.out, HVA.out]; rfl, _, by rw [HN.out]; show Em p b _ _ _ w0 _ _ (⟨nx, -1, true⟩ :: e.st); rw [HXT.out]; exact HX5.out⟩
  | false =>
    have HN := Lib.hid (HES.out.trans (if_neg (fun h => absurd (HFT.out.2 h) (by decide))))
    go_wp2_with fail
    (try refine hJ _ _ ?_)
    (repeat apply Exists.intro)
    refine ⟨?rel, rfl⟩
    case rel => exact ⟨by rw [HN.out, HOI.out]; rfl, by rw [HN.out, HOE.out], by rw [HN.out, HVA.out], _, by rw [HN.out]; show Em p b _ _ _ w0 w7 _ e.st; rw [HXT.out]; exact HX7.out⟩
set_option maxHeartbeats 8000000 in
theorem emIso21 {p : EmP} {b : Ent} {w0 wz : World} {i oi oe va T gs cs cb tb : Nat} {e : Est} {t : List Ent} {lv ov nx k base : Int} {iso ft : Bool}
    (OK : Hid (EmOk p w0)) (HEK : Hid (EstOk b i e)) (HEK2 : Hid (EstOk b (i + 1) (estAt b p.K p.n (i + 1)))) (HXT : Hid (e.st = ⟨lv, ov, iso⟩ :: t)) (HOI : Hid (oi = e.oi)) (HOE : Hid (oe = e.oe)) (HVA : Hid (va = e.va)) (HNX : Hid (nextB b p.K p.n i e = nx)) (HFT : Hid (ft = true ↔ fitsB b p.K p.n i e))
    (HK : Hid (k = p.K i)) (HE : Hid (e = estAt b p.K p.n i)) (HST : Hid (estAt b p.K p.n (i + 1) = estStep b p.K p.n i e)) (HTL : Hid (T = t.length)) (HBD : Hid (b = ⟨base, -1, false⟩))
    (HZ : Hid (Em p b (prt (clE b p.K p.n) p.K i) (prt (lvE b p.K p.n) (fun _ => 0) i) (prtB (ouE p.K) (fun _ => false) i) w0 wz (.slice (some ⟨gs, 0, none⟩) (T + 1) cs) (⟨lv, ov, iso⟩ :: t)))
    (HCB : Hid (Blk wz cb #[.pointer (some ⟨p.g, i * 5, none⟩)] 76)) (HTB : Hid (Blk wz tb #[.int .i64 lv, .int .i64 ov, .bool iso] 74)) (hcw : w0.heap.size ≤ cb) (htw : w0.heap.size ≤ tb)
    (hin : i < p.n) (hn2 : p.n ≤ 200) (hTs : T + 1 ≤ i + 1) (hoib : oi ≤ i) (hoeb : oe ≤ i) (hvab : va ≤ i) (hxm : 0 ≤ lv ∧ lv ≤ 125) (hxo : -1 ≤ ov ∧ ov ≤ 1) (hsc1 : T + 1 ≤ cs) (hsc2 : cs ≤ maxLen) (hnxb : 0 ≤ nx ∧ nx ≤ 1000) (hbase : base = 0 ∨ base = 1) (hk : k = 21)
    {s0 s2 s3 s4 s5 s6 s11 s14 s18 s19 s20 s21 s22 s23 s24 s25 s26 s27 s28 s29 s30 s31 s32 s33 s34 s35 s36 s37 s38 s39 s40 s41 s42 s43 s44 s45 s46 s47 s48 s49 s50 s51 s52 s53 s54 s55 s56 s57 s58 s59 s60 s61 s62 s63 s64 s65 s66 s67 s68 s69 s70 s71 s72 s73 s74 s75 s76 s77 s78 s79 s80 s81 s82 s83 s84 s85 s86 s87 s88 s89 s90 s91 s92 s93 s94 s95 s96 s97 s98 s99 s100 s101 s102 s103 s104 s106 s107 s108 s109 s110 s111 s112 s113 s114 s115 s116 s117 s118 s119 s120 s121 s122 s123 s124 s125 s126 s127 s128 s129 s130 s131 s132 s133 s134 s135 s136 s137 s138 s139 s140 s141 s142 s143 s144 s145 s146 s147 s148 s149 s150 s151 s152 s153 s154 s155 s156 s157 s158 s159 s160 s161 s162 s163 s164 s165 s166 s167 s168 s169 s170 s171 s172 s173 s174 s175 s176 s177 s178 s179 s180 s181 s182 s183 s184 s185 s186 s187 s188 s189 s190 s191 s192 s193 s194 s195 s196 s197 s198 s199 s200 s201 s202 s203 s204 s205 s206 s207 s208 s209 s210 s211 s212 s213 s214 s215 s216 s217 s218 s219 s220 s221 s222 s223 s224 s225 s226 s227 s228 s229 s230 s231 s232 s233 : Value} {J : Act → World → Prop} {Q : Exit → Act → World → Prop}
    (HQ : Hid (∀ (c : List PanicEntry) (a a' : Act) (w : World), a.defers = a'.defers → Q (.panic c) a w → Q (.panic c) a' w))
    (hJ : ∀ (a' : Act) (w' : World), (∃ u8 u9 u10 u18 u19 u106 u107 u108 u109 u110 u111 u112 u113 u114 u115 u116 u117 u118 u119 u120 u121 u122 u123 u124 u125 u126 u127 u128 u129 u130 u131 u132 u133 u134 u135 u136 u137 u138 u139 u140 u141 u142 u143 u144 u145 u146 u147 u148 u149 u150 u151 u152 u153 u154 u155 u156 u157 u158 u159 u160 u161 u162 u163 u164 u165 u166 u167 u168 u169 u170 u171 u172 u173 u174 u175 u176 u177 u178 u179 u180 u181 u182 u183 u184 u185 u186 u187 u188 u189 u190 u191 u192 u193 u194 u195 u196 u197 u198 u199 u200 u201 u202 u203 u204 u205 u206 u207 u208 u209 u210 u211 u212 u213 u214 u215 u216 u217 u218 u219 u220 u221 u222 u223 u224 u225 u226 u227 u228 u229 u230 u231 u232 : Value, (u8 = .int .i64 (estAt b p.K p.n (i + 1)).oi ∧ u9 = .int .i64 (estAt b p.K p.n (i + 1)).oe ∧ u10 = .int .i64 (estAt b p.K p.n (i + 1)).va ∧ ∃ sv, Em p b (prt (clE b p.K p.n) p.K (i + 1)) (prt (lvE b p.K p.n) (fun _ => 0) (i + 1)) (prtB (ouE p.K) (fun _ => false) (i + 1)) w0 w' sv (estAt b p.K p.n (i + 1)).st) ∧ a' = ⟨#[s0, .int .i64 base, s2, s3, s4, s5, s6, .pointer (some ⟨p.sp, 0, none⟩), u8, u9, u10, s11, .pointer (some ⟨cb, 0, none⟩), .pointer (some ⟨tb, 0, none⟩), s14, .int .i64 nx, .bool ft, .func (.func 46) #[] #[.pointer (some ⟨p.sp, 0, none⟩), .pointer (some ⟨cb, 0, none⟩)], u18, u19, s20, s21, s22, s23, s24, s25, s26, s27, s28, s29, s30, s31, s32, s33, s34, s35, s36, s37, s38, s39, s40, s41, s42, s43, s44, s45, s46, s47, s48, s49, s50, s51, s52, s53, s54, s55, s56, s57, s58, s59, s60, s61, s62, s63, s64, s65, s66, s67, s68, s69, s70, s71, s72, s73, s74, s75, s76, s77, s78, s79, s80, s81, s82, s83, s84, s85, s86, s87, s88, s89, s90, s91, s92, s93, s94, s95, s96, s97, s98, s99, s100, s101, s102, s103, s104, .int .i64 k, u106, u107, u108, u109, u110, u111, u112, u113, u114, u115, u116, u117, u118, u119, u120, u121, u122, u123, u124, u125, u126, u127, u128, u129, u130, u131, u132, u133, u134, u135, u136, u137, u138, u139, u140, u141, u142, u143, u144, u145, u146, u147, u148, u149, u150, u151, u152, u153, u154, u155, u156, u157, u158, u159, u160, u161, u162, u163, u164, u165, u166, u167, u168, u169, u170, u171, u172, u173, u174, u175, u176, u177, u178, u179, u180, u181, u182, u183, u184, u185, u186, u187, u188, u189, u190, u191, u192, u193, u194, u195, u196, u197, u198, u199, u200, u201, u202, u203, u204, u205, u206, u207, u208, u209, u210, u211, u212, u213, u214, u215, u216, u217, u218, u219, u220, u221, u222, u223, u224, u225, u226, u227, u228, u229, u230, u231, u232, s233], []⟩) → J a' w')
    (hN : ∀ (a' : Act) (w' : World), J a' w' → Q .normal a' w') (hX : ∀ (a' : Act) (w' : World), J a' w' → Q (.exit 3) a' w') :
    Code.wp Tryd.prog (theBlk Tryd.f25 4) Q ⟨#[s0, .int .i64 base, s2, s3, s4, s5, s6, .pointer (some ⟨p.sp, 0, none⟩), .int .i64 oi, .int .i64 oe, .int .i64 va, s11, .pointer (some ⟨cb, 0, none⟩), .pointer (some ⟨tb, 0, none⟩), s14, .int .i64 nx, .bool ft, .func (.func 46) #[] #[.pointer (some ⟨p.sp, 0, none⟩), .pointer (some ⟨cb, 0, none⟩)], s18, s19, s20, s21, s22, s23, s24, s25, s26, s27, s28, s29, s30, s31, s32, s33, s34, s35, s36, s37, s38, s39, s40, s41, s42, s43, s44, s45, s46, s47, s48, s49, s50, s51, s52, s53, s54, s55, s56, s57, s58, s59, s60, s61, s62, s63, s64, s65, s66, s67, s68, s69, s70, s71, s72, s73, s74, s75, s76, s77, s78, s79, s80, s81, s82, s83, s84, s85, s86, s87, s88, s89, s90, s91, s92, s93, s94, s95, s96, s97, s98, s99, s100, s101, s102, s103, s104, .int .i64 k, s106, s107, s108, s109, s110, s111, s112, s113, s114, s115, s116, s117, s118, s119, s120, s121, s122, s123, s124, s125, s126, s127, s128, s129, s130, s131, s132, s133, s134, s135, s136, s137, s138, s139, s140, s141, s142, s143, s144, s145, s146, s147, s148, s149, s150, s151, s152, s153, s154, s155, s156, s157, s158, s159, s160, s161, s162, s163, s164, s165, s166, s167, s168, s169, s170, s171, s172, s173, s174, s175, s176, s177, s178, s179, s180, s181, s182, s183, s184, s185, s186, s187, s188, s189, s190, s191, s192, s193, s194, s195, s196, s197, s198, s199, s200, s201, s202, s203, s204, s205, s206, s207, s208, s209, s210, s211, s212, s213, s214, s215, s216, s217, s218, s219, s220, s221, s222, s223, s224, s225, s226, s227, s228, s229, s230, s231, s232, s233], []⟩ wz := by
  have h1 : ¬ isEmb (p.K i) := by have hk2 := HK.out; unfold isEmb; omega
  have h2 : isoB (p.K i) = true := by have hk2 := HK.out; unfold isoB; rw [decide_eq_true_eq]; omega
  have HES := Lib.hid (show estAt b p.K p.n (i + 1) = if fitsB b p.K p.n i e then { e with st := ⟨nx, -1, true⟩ :: e.st, va := e.va + 1 } else { e with oi := e.oi + 1 } by
    rw [HST.out]; unfold estStep
    rw [if_neg h1, if_pos h2, HNX.out])
  clear h1
  have HDC := Lib.hid (show decB b p.K p.n i = ⟨lv, ov, iso⟩ by
    have hk2 := HK.out
    unfold decB; rw [if_neg (by omega), ← HE.out, HXT.out]; rfl)
  have HOU := Lib.hid (show ouE p.K i = false by have hk2 := HK.out; unfold ouE; rw [decide_eq_false_iff_not]; omega)
  have HCL := Lib.hid (show clE b p.K p.n i = if 0 ≤ ov then ov else p.K i by
    have hk2 := HK.out
    unfold clE; rw [HOU.out, HDC.out, if_neg (by intro h; rcases h with h | h; exact absurd h (by decide); omega)])
  have HLV := Lib.hid (show lvE b p.K p.n i = lv by have hk2 := HK.out; unfold lvE; rw [if_neg (by omega), HDC.out])
  have HPL := Lib.hid (plain_any OK.out HZ.out HCB.out hin (by omega) (by have := HTL.out; omega))
  clear h2
  subst hk
  conv => arg 2; whnf
  go_wp2_with fail
  refine HPL.out.mono ?_
  rintro e9 w7 ⟨rfl, hem, hsv⟩
  have HX7 := Lib.hid (show Em p b (prt (clE b p.K p.n) p.K (i + 1)) (prt (lvE b p.K p.n) (fun _ => 0) (i + 1)) (prtB (ouE p.K) (fun _ => false) (i + 1)) w0 w7 (.slice (some ⟨gs, 0, none⟩) (T + 1) cs) (⟨lv, ov, iso⟩ :: t) from
    hem.congr (fun j _ => by unfold ovC; exact cl_set rfl HCL.out j) (fun j _ => prt_set _ _ i HLV.out j) (fun j _ => prtB_same HOU.out j))
  clear hem hsv HPL HZ
  cases ft with
  | true =>
    have HN := Lib.hid (HES.out.trans (if_pos (HFT.out.1 rfl)))
    go_upto_region 44 with fail
    obtain ⟨xs, hown0, hxl, hxs⟩ := HX7.out.st.own
    have HX := Lib.hid hown0
    have HXL := Lib.hid hxl
    have HXS := Lib.hid hxs
    obtain ⟨ii, hii, hz0, hz1, hz2⟩ := info_parts (show (Tryd.prog.info? 74).map (fun i => (i.zero, i.size, i.bytes)) = some (some (.agg #[.int .i64 0, .int .i64 0, .bool false]), 3, 24) by kernel_rfl)
    have hsl3 : (Ent.mk lv ov iso :: t).length = T + 1 := by rw [HTL.out]; rfl
    rw [hsl3] at HX HXL HXS
    have hlowz := HX7.out.sv.size
    have s0 : w7.cell? ⟨p.sp, 0, none⟩ = some (.slice (some ⟨gs, 0, none⟩) (T + 1) cs) := HX7.out.sp.cell (i := 0) rfl
    have hspl := HX7.out.sp.lt
    clear hown0 hxl hxs
    go_wp2_with (at_builtin; go_loud (refine wpList_append_own _ rfl _ _ 75 rfl (w0.heap.size) 74 ii _ 3 24 Tryd.underlying75 hii hz0 hz1 hz2 rfl (by decide) _ _ _ rfl (RowL.alloc HX.out _) ⟨w7.heap.size, 0, none⟩ 1 1 [.int .i64 nx, .int .i64 (-1), .bool true] rfl rfl ?k1a ?k2a ?k3a ?k4a ?k5a ?_))
    try (case k1a =>
      intro j u hj
      have e : Addr.add ⟨w7.heap.size, 0, none⟩ j = ⟨w7.heap.size, j, none⟩ := by simp [Addr.add] <;> omega
      rw [e]
      exact cellNew3 (by simpa using hj))
    try (case k2a => first | exact ⟨rfl, rfl, rfl⟩ | (intro u hu; simp at hu; rcases hu with rfl | rfl | rfl <;> rfl))
    try (case k3a => unfold maxLen; (try simp); (try omega))
    try (case k4a => (try simp); (try omega))
    try (case k5a => (try simp); (try omega))
    intro v5 w5 hown hgrow _
    have hsp5 := Em.spAfter OK.out HX7.out hgrow
    have s5 : w5.cell? ⟨p.sp, 0, none⟩ = some (.slice (some ⟨gs, 0, none⟩) (T + 1) cs) := hsp5.cell (i := 0) rfl
    have z5 := hsp5.frozen 0
    have HX5 := Lib.hid (Em.push (y := ⟨nx, -1, true⟩) OK.out HX7.out hgrow (by rw [hsl3]; exact hown) (by rw [hsl3]; exact HXL.out) (by rw [hsl3]; exact HXS.out))
    obtain ⟨a5, c5, hv5, _, _⟩ := RowL.slice hown
    subst hv5
    clear hown hgrow hii hz0 hz1 hz2 HX HXS HXL hsl3 s0 hsp5 hspl
    go_wp2_with fail
    refine hN _ _ (hJ _ _ ?_)
    (repeat apply Exists.intro)
    refine ⟨?rel, rfl⟩
    case rel => exact ⟨by rw [HN.out, HOI.out], by rw [HN.out, HOE.out], by rw [HN.out, HVA.out]; rfl, _, by rw [HN.out]; show Em p b _ _ _ w0 _ _ (⟨nx, -1, true⟩ :: e.st); rw [HXT.out]; exact HX5.out⟩
  | false =>
    have HN := Lib.hid (HES.out.trans (if_neg (fun h => absurd (HFT.out.2 h) (by decide))))
    go_wp2_with fail
    (try refine hJ _ _ ?_)
    (repeat apply Exists.intro)
    refine ⟨?rel, rfl⟩
    case rel => exact ⟨by rw [HN.out, HOI.out]; rfl, by rw [HN.out, HOE.out], by rw [HN.out, HVA.out], _, by rw [HN.out]; show Em p b _ _ _ w0 w7 _ e.st; rw [HXT.out]; exact HX7.out⟩
set_option maxHeartbeats 8000000 in
theorem emPdi {p : EmP} {b : Ent} {w0 wz : World} {i oi oe va T gs cs cb tb : Nat} {e : Est} {t : List Ent} {lv ov nx k base : Int} {iso ft : Bool}
    (OK : Hid (EmOk p w0)) (HEK : Hid (EstOk b i e)) (HEK2 : Hid (EstOk b (i + 1) (estAt b p.K p.n (i + 1)))) (HXT : Hid (e.st = ⟨lv, ov, iso⟩ :: t)) (HOI : Hid (oi = e.oi)) (HOE : Hid (oe = e.oe)) (HVA : Hid (va = e.va)) (HNX : Hid (nextB b p.K p.n i e = nx)) (HFT : Hid (ft = true ↔ fitsB b p.K p.n i e))
    (HK : Hid (k = p.K i)) (HE : Hid (e = estAt b p.K p.n i)) (HST : Hid (estAt b p.K p.n (i + 1) = estStep b p.K p.n i e)) (HTL : Hid (T = t.length)) (HBD : Hid (b = ⟨base, -1, false⟩))
    (HZ : Hid (Em p b (prt (clE b p.K p.n) p.K i) (prt (lvE b p.K p.n) (fun _ => 0) i) (prtB (ouE p.K) (fun _ => false) i) w0 wz (.slice (some ⟨gs, 0, none⟩) (T + 1) cs) (⟨lv, ov, iso⟩ :: t)))
    (HCB : Hid (Blk wz cb #[.pointer (some ⟨p.g, i * 5, none⟩)] 76)) (HTB : Hid (Blk wz tb #[.int .i64 lv, .int .i64 ov, .bool iso] 74)) (hcw : w0.heap.size ≤ cb) (htw : w0.heap.size ≤ tb)
    (hin : i < p.n) (hn2 : p.n ≤ 200) (hTs : T + 1 ≤ i + 1) (hoib : oi ≤ i) (hoeb : oe ≤ i) (hvab : va ≤ i) (hxm : 0 ≤ lv ∧ lv ≤ 125) (hxo : -1 ≤ ov ∧ ov ≤ 1) (hsc1 : T + 1 ≤ cs) (hsc2 : cs ≤ maxLen) (hnxb : 0 ≤ nx ∧ nx ≤ 1000) (hbase : base = 0 ∨ base = 1) (hk : k = 22)
    {s0 s2 s3 s4 s5 s6 s11 s14 s18 s19 s20 s21 s22 s23 s24 s25 s26 s27 s28 s29 s30 s31 s32 s33 s34 s35 s36 s37 s38 s39 s40 s41 s42 s43 s44 s45 s46 s47 s48 s49 s50 s51 s52 s53 s54 s55 s56 s57 s58 s59 s60 s61 s62 s63 s64 s65 s66 s67 s68 s69 s70 s71 s72 s73 s74 s75 s76 s77 s78 s79 s80 s81 s82 s83 s84 s85 s86 s87 s88 s89 s90 s91 s92 s93 s94 s95 s96 s97 s98 s99 s100 s101 s102 s103 s104 s106 s107 s108 s109 s110 s111 s112 s113 s114 s115 s116 s117 s118 s119 s120 s121 s122 s123 s124 s125 s126 s127 s128 s129 s130 s131 s132 s133 s134 s135 s136 s137 s138 s139 s140 s141 s142 s143 s144 s145 s146 s147 s148 s149 s150 s151 s152 s153 s154 s155 s156 s157 s158 s159 s160 s161 s162 s163 s164 s165 s166 s167 s168 s169 s170 s171 s172 s173 s174 s175 s176 s177 s178 s179 s180 s181 s182 s183 s184 s185 s186 s187 s188 s189 s190 s191 s192 s193 s194 s195 s196 s197 s198 s199 s200 s201 s202 s203 s204 s205 s206 s207 s208 s209 s210 s211 s212 s213 s214 s215 s216 s217 s218 s219 s220 s221 s222 s223 s224 s225 s226 s227 s228 s229 s230 s231 s232 s233 : Value} {J : Act → World → Prop} {Q : Exit → Act → World → Prop}
    (HQ : Hid (∀ (c : List PanicEntry) (a a' : Act) (w : World), a.defers = a'.defers → Q (.panic c) a w → Q (.panic c) a' w))
    (hJ : ∀ (a' : Act) (w' : World), (∃ u8 u9 u10 u18 u19 u106 u107 u108 u109 u110 u111 u112 u113 u114 u115 u116 u117 u118 u119 u120 u121 u122 u123 u124 u125 u126 u127 u128 u129 u130 u131 u132 u133 u134 u135 u136 u137 u138 u139 u140 u141 u142 u143 u144 u145 u146 u147 u148 u149 u150 u151 u152 u153 u154 u155 u156 u157 u158 u159 u160 u161 u162 u163 u164 u165 u166 u167 u168 u169 u170 u171 u172 u173 u174 u175 u176 u177 u178 u179 u180 u181 u182 u183 u184 u185 u186 u187 u188 u189 u190 u191 u192 u193 u194 u195 u196 u197 u198 u199 u200 u201 u202 u203 u204 u205 u206 u207 u208 u209 u210 u211 u212 u213 u214 u215 u216 u217 u218 u219 u220 u221 u222 u223 u224 u225 u226 u227 u228 u229 u230 u231 u232 : Value, (u8 = .int .i64 (estAt b p.K p.n (i + 1)).oi ∧ u9 = .int .i64 (estAt b p.K p.n (i + 1)).oe ∧ u10 = .int .i64 (estAt b p.K p.n (i + 1)).va ∧ ∃ sv, Em p b (prt (clE b p.K p.n) p.K (i + 1)) (prt (lvE b p.K p.n) (fun _ => 0) (i + 1)) (prtB (ouE p.K) (fun _ => false) (i + 1)) w0 w' sv (estAt b p.K p.n (i + 1)).st) ∧ a' = ⟨#[s0, .int .i64 base, s2, s3, s4, s5, s6, .pointer (some ⟨p.sp, 0, none⟩), u8, u9, u10, s11, .pointer (some ⟨cb, 0, none⟩), .pointer (some ⟨tb, 0, none⟩), s14, .int .i64 nx, .bool ft, .func (.func 46) #[] #[.pointer (some ⟨p.sp, 0, none⟩), .pointer (some ⟨cb, 0, none⟩)], u18, u19, s20, s21, s22, s23, s24, s25, s26, s27, s28, s29, s30, s31, s32, s33, s34, s35, s36, s37, s38, s39, s40, s41, s42, s43, s44, s45, s46, s47, s48, s49, s50, s51, s52, s53, s54, s55, s56, s57, s58, s59, s60, s61, s62, s63, s64, s65, s66, s67, s68, s69, s70, s71, s72, s73, s74, s75, s76, s77, s78, s79, s80, s81, s82, s83, s84, s85, s86, s87, s88, s89, s90, s91, s92, s93, s94, s95, s96, s97, s98, s99, s100, s101, s102, s103, s104, .int .i64 k, u106, u107, u108, u109, u110, u111, u112, u113, u114, u115, u116, u117, u118, u119, u120, u121, u122, u123, u124, u125, u126, u127, u128, u129, u130, u131, u132, u133, u134, u135, u136, u137, u138, u139, u140, u141, u142, u143, u144, u145, u146, u147, u148, u149, u150, u151, u152, u153, u154, u155, u156, u157, u158, u159, u160, u161, u162, u163, u164, u165, u166, u167, u168, u169, u170, u171, u172, u173, u174, u175, u176, u177, u178, u179, u180, u181, u182, u183, u184, u185, u186, u187, u188, u189, u190, u191, u192, u193, u194, u195, u196, u197, u198, u199, u200, u201, u202, u203, u204, u205, u206, u207, u208, u209, u210, u211, u212, u213, u214, u215, u216, u217, u218, u219, u220, u221, u222, u223, u224, u225, u226, u227, u228, u229, u230, u231, u232, s233], []⟩) → J a' w')
    (hN : ∀ (a' : Act) (w' : World), J a' w' → Q .normal a' w') (hX : ∀ (a' : Act) (w' : World), J a' w' → Q (.exit 3) a' w') :
    Code.wp Tryd.prog (theBlk Tryd.f25 4) Q ⟨#[s0, .int .i64 base, s2, s3, s4, s5, s6, .pointer (some ⟨p.sp, 0, none⟩), .int .i64 oi, .int .i64 oe, .int .i64 va, s11, .pointer (some ⟨cb, 0, none⟩), .pointer (some ⟨tb, 0, none⟩), s14, .int .i64 nx, .bool ft, .func (.func 46) #[] #[.pointer (some ⟨p.sp, 0, none⟩), .pointer (some ⟨cb, 0, none⟩)], s18, s19, s20, s21, s22, s23, s24, s25, s26, s27, s28, s29, s30, s31, s32, s33, s34, s35, s36, s37, s38, s39, s40, s41, s42, s43, s44, s45, s46, s47, s48, s49, s50, s51, s52, s53, s54, s55, s56, s57, s58, s59, s60, s61, s62, s63, s64, s65, s66, s67, s68, s69, s70, s71, s72, s73, s74, s75, s76, s77, s78, s79, s80, s81, s82, s83, s84, s85, s86, s87, s88, s89, s90, s91, s92, s93, s94, s95, s96, s97, s98, s99, s100, s101, s102, s103, s104, .int .i64 k, s106, s107, s108, s109, s110, s111, s112, s113, s114, s115, s116, s117, s118, s119, s120, s121, s122, s123, s124, s125, s126, s127, s128, s129, s130, s131, s132, s133, s134, s135, s136, s137, s138, s139, s140, s141, s142, s143, s144, s145, s146, s147, s148, s149, s150, s151, s152, s153, s154, s155, s156, s157, s158, s159, s160, s161, s162, s163, s164, s165, s166, s167, s168, s169, s170, s171, s172, s173, s174, s175, s176, s177, s178, s179, s180, s181, s182, s183, s184, s185, s186, s187, s188, s189, s190, s191, s192, s193, s194, s195, s196, s197, s198, s199, s200, s201, s202, s203, s204, s205, s206, s207, s208, s209, s210, s211, s212, s213, s214, s215, s216, s217, s218, s219, s220, s221, s222, s223, s224, s225, s226, s227, s228, s229, s230, s231, s232, s233], []⟩ wz := by
  subst hk
  have h1 : ¬ isEmb (p.K i) := by have hk2 := HK.out; unfold isEmb; omega
  have h2 : ¬ isoB (p.K i) = true := by have hk2 := HK.out; unfold isoB; rw [decide_eq_true_eq]; omega
  have HES := Lib.hid (show estAt b p.K p.n (i + 1) = if 0 < e.oi then { e with oi := e.oi - 1 } else if 0 < e.va then { e with st := popI e.st, oe := 0, va := e.va - 1 } else e by
    rw [HST.out]; unfold estStep
    rw [if_neg h1, if_neg h2, if_pos HK.out.symm])
  clear h1 h2
  obtain ⟨e2, he2⟩ : ∃ e2, e2 = estAt b p.K p.n (i + 1) := ⟨_, rfl⟩
  rw [← he2] at HES HEK2 hJ
  have HDC := Lib.hid (show decB b p.K p.n i = topB b e2.st by unfold decB; rw [if_pos HK.out.symm, he2])
  have HOU := Lib.hid (show ouE p.K i = false by have hk2 := HK.out; unfold ouE; rw [decide_eq_false_iff_not]; omega)
  have HCL := Lib.hid (show clE b p.K p.n i = if 0 ≤ (topB b e2.st).ovr then (topB b e2.st).ovr else p.K i by
    have hk2 := HK.out
    unfold clE; rw [HOU.out, HDC.out, if_neg (by intro h; rcases h with h | h; exact absurd h (by decide); omega)])
  have HLV := Lib.hid (show lvE b p.K p.n i = (topB b e2.st).lev by have hk2 := HK.out; unfold lvE; rw [if_neg (by omega), HDC.out])
  clear he2
  have hel : e.st.length = T + 1 := by rw [HXT.out, HTL.out]; rfl
  have HZ1 := Lib.hid (show Em p b (prt (clE b p.K p.n) p.K i) (prt (lvE b p.K p.n) (fun _ => 0) i) (prtB (ouE p.K) (fun _ => false) i) w0 wz (.slice (some ⟨gs, 0, none⟩) (T + 1) cs) e.st by rw [HXT.out]; exact HZ.out)
  clear HZ
  obtain ⟨bo, hbo⟩ : ∃ bo, decide (0 < oi) = bo := ⟨_, rfl⟩
  conv => arg 2; whnf
  go_upto_if 165 with fail
  have HBO := Lib.hid hbo
  clear hbo
  go_cut [8, 9, 10, 19] from 166 to 185 (fun o oe v _ wx => o = .int .i64 e2.oi ∧ oe = .int .i64 e2.oe ∧ v = .int .i64 e2.va ∧ Blk wx cb #[.pointer (some ⟨p.g, i * 5, none⟩)] 76 ∧ ∃ T2 : Nat, T2 = e2.st.length ∧ T2 ≤ T + 1 ∧ Em p b (prt (clE b p.K p.n) p.K i) (prt (lvE b p.K p.n) (fun _ => 0) i) (prtB (ouE p.K) (fun _ => false) i) w0 wx (.slice (some ⟨gs, 0, none⟩) T2 cs) e2.st)
  case first =>
    cases bo with
    | true =>
      have hoi0 : 0 < oi := by have := HBO.out; simp at this; exact this
      have HN := Lib.hid (HES.out.trans (if_pos (by rw [← HOI.out]; exact hoi0)))
      go_wp2_with fail
      go_meet
      refine ⟨by rw [HN.out]; show _ = Value.int .i64 ((e.oi - 1 : Nat) : Int); rw [← HOI.out]; exact congrArg (Value.int .i64) (by omega), by rw [HN.out, HOE.out], by rw [HN.out, HVA.out], HCB.out, T + 1, ?_, Nat.le_refl _, ?_⟩
      · rw [HN.out]; exact hel.symm
      · rw [HN.out]; exact HZ1.out
    | false =>
      have hoi0 : ¬ 0 < oi := by have := HBO.out; simp at this; omega
      have HN1 := Lib.hid (HES.out.trans (if_neg (by rw [← HOI.out]; exact hoi0)))
      by_cases hva0 : 0 < va
      · have HN := Lib.hid (HN1.out.trans (if_pos (by rw [← HVA.out]; exact hva0)))
        have hva1 : (0 : Int) < (va : Int) := by omega
        have HCT := Lib.hid (show 0 < (e.st.filter (·.iso)).length by rw [← HEK.out.cnt, ← HVA.out]; exact hva0)
        go_wp2_with fail
        go_loopw [19] (fun gv wx => Blk wx cb #[.pointer (some ⟨p.g, i * 5, none⟩)] 76 ∧ ((gv = .bool false ∧ ∃ l1 l2 : List Ent, e.st = l1 ++ l2 ∧ (∀ y, y ∈ l1 → y.iso = false) ∧ Em p b (prt (clE b p.K p.n) p.K i) (prt (lvE b p.K p.n) (fun _ => 0) i) (prtB (ouE p.K) (fun _ => false) i) w0 wx (.slice (some ⟨gs, 0, none⟩) l2.length cs) l2) ∨ (gv = .bool true ∧ ∃ T2 : Nat, T2 = (popI e.st).length ∧ T2 ≤ T + 1 ∧ Em p b (prt (clE b p.K p.n) p.K i) (prt (lvE b p.K p.n) (fun _ => 0) i) (prtB (ouE p.K) (fun _ => false) i) w0 wx (.slice (some ⟨gs, 0, none⟩) T2 cs) (popI e.st)))) (fun _ wx => lenC (wx.cell? ⟨p.sp, 0, none⟩))
        case atStart => exact ⟨HCB.out, .inl ⟨rfl, [], e.st, rfl, by simp, by rw [hel]; exact HZ1.out⟩⟩
        case round =>
          obtain ⟨hcb, ⟨rfl, l1, l2, hl, hno, hem⟩ | ⟨rfl, T2, hT2, hT2T, hem⟩⟩ := hrel
          · cases l2 with
            | nil =>
              exfalso
              have h3 := HCT.out
              rw [hl, List.append_nil, List.filter_eq_nil_iff.2 (fun y hy => by rw [hno y hy]; decide)] at h3
              simp at h3
            | cons y t2 =>
              have hll : l1.length + (t2.length + 1) = T + 1 := by rw [← hel, hl]; simp
              obtain ⟨yl, yo, yi⟩ := y
              have e1 : (Ent.mk yl yo yi :: t2).length = t2.length + 1 := by simp
              obtain ⟨_, _, m2⟩ := RowV.topR hem.st
              simp only at m2
              have hc2 := Em.cut (l1 := [⟨yl, yo, yi⟩]) (l := t2) OK.out hem (by simp; omega)
              rw [e1] at hem
              have s0 : wr.cell? ⟨p.sp, 0, none⟩ = some (.slice (some ⟨gs, 0, none⟩) (t2.length + 1) cs) := hem.sp.cell (i := 0) rfl
              have z0 := hem.sp.frozen 0
              have hcp : cb ≠ p.sp := Blk.ne hcb hem.sp (by decide)
              obtain ⟨T2, hT2⟩ : ∃ T2, T2 = t2.length := ⟨_, rfl⟩
              rw [← hT2] at m2 hll s0 hc2
              have e3 : (T2 : Int) + 1 - 1 = (T2 : Int) := by omega
              have hw9 := IntWalk.i64_in (T2 : Int) (by omega)
              have hTc : (T2 : Int) ≤ (cs : Int) := by omega
              have hTz : (0 : Int) ≤ (T2 : Int) := by omega
              have HLE := Lib.hid hl
              have HNO := Lib.hid hno
              have HT2 := Lib.hid hT2
              have HC2 := Lib.hid hc2
              have HCB2 := Lib.hid (hcb.other hcp (a := ⟨p.sp, 0, none⟩) (.slice (some ⟨gs, 0, none⟩) T2 cs))
              have HM := Lib.hid s0
              clear hl hno e1 hT2 hc2 hem hcb hcp
              cases yi with
              | false =>
                have HNO2 := Lib.hid (show ∀ y, y ∈ l1 ++ [⟨yl, yo, false⟩] → y.iso = false from fun y hy => by
                  rcases List.mem_append.1 hy with h | h
                  · exact HNO.out y h
                  · simp at h; subst h; rfl)
                go_wp2_with fail
                go_roundw
                case rel => exact ⟨HCB2.out, .inl ⟨rfl, l1 ++ [⟨yl, yo, false⟩], t2, by rw [HLE.out]; simp, HNO2.out, by rw [← HT2.out]; exact HC2.out⟩⟩
                case measure => rw [HM.out, (HC2.out.sp.cell (i := 0) rfl)]; simp [lenC, lenV3]
              | true =>
                have HP := Lib.hid (show popI e.st = t2 by rw [HLE.out, popI_app HNO.out, popI, if_pos rfl])
                go_wp2_with fail
                go_roundw
                case rel => exact ⟨HCB2.out, .inr ⟨rfl, T2, by rw [HP.out]; exact HT2.out, by omega, by rw [HP.out]; exact HC2.out⟩⟩
                case measure => rw [HM.out, (HC2.out.sp.cell (i := 0) rfl)]; simp [lenC, lenV3]
          · have HEM := Lib.hid hem
            have HCB2 := Lib.hid hcb
            clear hem hcb
            go_wp2_with fail
            go_meet
            refine ⟨by rw [HN.out, HOI.out], by rw [HN.out]; rfl, by rw [HN.out]; show _ = Value.int .i64 ((e.va - 1 : Nat) : Int); rw [← HVA.out]; congr 1; omega, HCB2.out, T2, ?_, by omega, ?_⟩
            · rw [HN.out]; exact hT2
            · rw [HN.out]; exact HEM.out
      · have HN := Lib.hid (HN1.out.trans (if_neg (by rw [← HVA.out]; exact hva0)))
        have hva1 : ¬ (0 : Int) < (va : Int) := by omega
        go_wp2_with fail
        go_meet
        refine ⟨by rw [HN.out, HOI.out], by rw [HN.out, HOE.out], by rw [HN.out, HVA.out], HCB.out, T + 1, ?_, Nat.le_refl _, ?_⟩
        · rw [HN.out]; exact hel.symm
        · rw [HN.out]; exact HZ1.out
  case rest =>
  obtain ⟨rfl, rfl, rfl, hcb, T2, hT2, hT2T, hem⟩ := hcut
  obtain ⟨wd, rfl⟩ : ∃ x : World, x = wc := ⟨_, rfl⟩
  clear HCB HZ1 hel
  obtain ⟨y, t', hyt⟩ : ∃ y t', e2.st = y :: t' := by
    obtain ⟨S, hS⟩ := HEK2.out.low
    cases S with
    | nil => exact ⟨b, [], hS⟩
    | cons y S => exact ⟨y, S ++ [b], hS⟩
  have htop : topB b e2.st = y := by rw [hyt]; rfl
  rw [htop] at HCL HLV
  rw [hyt] at hem hT2
  have hT3 : t'.length ≤ 1000 := by simp at hT2; omega
  have HPL := Lib.hid (plain_any OK.out hem hcb hin (by omega) hT3)
  have HYT := Lib.hid hyt
  have HEM := Lib.hid hem
  clear hem hyt htop hT2 hT3 hcb
  go_wp2_with fail
  refine HPL.out.mono ?_
  rintro e9 w7 ⟨rfl, hem, hsv⟩
  have HX7 := Lib.hid (show Em p b (prt (clE b p.K p.n) p.K (i + 1)) (prt (lvE b p.K p.n) (fun _ => 0) (i + 1)) (prtB (ouE p.K) (fun _ => false) (i + 1)) w0 w7 (.slice (some ⟨gs, 0, none⟩) T2 cs) e2.st by
    rw [HYT.out]
    exact hem.congr (fun j _ => by unfold ovC; exact cl_set rfl HCL.out j) (fun j _ => prt_set _ _ i HLV.out j) (fun j _ => prtB_same HOU.out j))
  clear hem hsv HPL
  go_wp2_with fail
  refine hN _ _ (hJ _ _ ?_)
  (repeat apply Exists.intro)
  refine ⟨?rel, rfl⟩
  case rel => exact ⟨rfl, rfl, rfl, _, HX7.out⟩
end Go.Proofs.YtojbicdmcodgdaaDoor.BD
