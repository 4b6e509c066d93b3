/-
  BdExpU.
-/
import Derived.Test.YtojbicdmcodgdaaDoorBdM05
namespace Go.Law.Bd
open Go Go.Law Go.RowKit
/-- an entry more, behind all else of a character -/
theorem Xq.push {p : PaP} {b y : Ent} {K L0 : Nat → Int} {w0 wr w1 : World} {sv v' : Value} {i : Nat} {S : List Ent} {o : Obj} {xs : List Value} (h : Xq p b K L0 w0 wr sv i S) (hl2 : p.pz < w0.heap.size ∧ p.gc < w0.heap.size ∧ p.gl < w0.heap.size ∧ p.go < w0.heap.size)
    (hg : (wr.alloc o).grownBy w1 sv.ownBlock) (hown : w1.ownsRow w0.heap.size 60 3 v' (S.length + 1) (xs ++ [.int .i64 y.lev, .int .i64 y.ovr, .bool y.iso])) (hl : xs.length = S.length * 3) (hx : ∀ i, i < S.length → ∀ j, j < 3 → xs[i * 3 + j]? = some (stV b S i j)) :
    Xq p b K L0 w0 w1 v' i (y :: S) := by
  have hst := h.st.below ((Below.refl wr.heap.size wr).alloc (Nat.le_refl _) o) (Nat.le_refl _)
  refine ⟨(h.pa.alloc o).grown hg (fun q hq => ?_), RowV.push hown hl hx (fun j hj => ?_) (fun i hi j _ => stV_push b S y hi j), (h.sv.alloc o).grown hg (fun q hq => hst.ge q hq)⟩
  · have := hst.ge q hq; omega
  · match j, hj with
    | 0, _ => show _ = some (stV _ _ _ _); unfold stV; rw [stV_last]; rfl
    | 1, _ => show _ = some (stV _ _ _ _); unfold stV; rw [stV_last]; rfl
    | 2, _ => show _ = some (stV _ _ _ _); unfold stV; rw [stV_last]; rfl
theorem cellNew3 {w : World} {cs : List Value} {e : TypeId} {j : Nat} {u : Value} (h : cs[j]? = some u) : (w.alloc (Obj.cells cs.toArray e)).cell? ⟨w.heap.size, j, none⟩ = some u := by
  rw [World.cell?_alloc_new]; simpa using h
end Go.Law.Bd
namespace Go.Proofs.YtojbicdmcodgdaaDoor.BD
open Go.RowKit Go.Law Go.Law.Bd
set_option linter.unusedVariables false
set_option linter.unusedSimpArgs false
set_option maxRecDepth 100000
set_option maxHeartbeats 8000000 in
theorem exIso {p : PaP} {b : Ent} {K L0 : Nat → Int} {w w6 : World} {i oi oe va T gs cs g8 : Nat} {e : Est} {t : List Ent} {lv ov nx k : Int} {iso ft : Bool}
    (OK : Hid (PaOk p)) (HEK : Hid (EstOk b i e)) (HEK2 : Hid (EstOk b (i + 1) (estAt b K p.n (i + 1)))) (HXT : Hid (e.st = ⟨lv, ov, iso⟩ :: t)) (HOI : Hid (oi = e.oi)) (HOE : Hid (oe = e.oe)) (HVA : Hid (va = e.va)) (HNX : Hid (nextB b K p.n i e = nx)) (HFT : Hid (ft = true ↔ fitsB b K p.n i e))
    (HK : Hid (k = K i)) (HE : Hid (e = estAt b K p.n i)) (HST : Hid (estAt b K p.n (i + 1) = estStep b K p.n i e)) (HTL : Hid (T = t.length)) (HBD : Hid (b = ⟨p.base, -1, false⟩)) (HXO : Hid (XOk p w g8 (.slice (some ⟨gs, 0, none⟩) (T + 1) cs)))
    (HY6 : Hid (Yq p b (prt (clE b K p.n) K i) (upd (prt (lvE b K p.n) L0 i) i lv) (prtB (ouE K) (fun _ => false) i) w w6 (.slice (some ⟨gs, 0, none⟩) (T + 1) cs) (⟨lv, ov, iso⟩ :: t) g8 ⟨lv, ov, iso⟩))
    (hin : i < p.n) (hn2 : p.n ≤ 200) (hTs : T + 1 ≤ i + 1) (hoib : oi ≤ i) (hoeb : oe ≤ i) (hvab : va ≤ i) (hxm : 0 ≤ lv ∧ lv ≤ 125) (hxo : -1 ≤ ov ∧ ov ≤ 1) (hsc1 : T + 1 ≤ cs) (hsc2 : cs ≤ maxLen) (hnxb : 0 ≤ nx ∧ nx ≤ 1000) (hbase : p.base = 0 ∨ p.base = 1) (hk : 19 ≤ k ∧ k ≤ 21)
    {s1 s9 s12 s13 s14 s15 s16 s17 s18 s19 s20 s21 s22 s23 s24 s25 s26 s27 s28 s29 s30 s31 s32 s33 s34 s35 s36 s37 s38 s39 s40 s41 s42 s43 s44 s45 s46 s47 s48 s49 s50 s51 s52 s53 s54 s55 s56 s57 s58 s59 s60 s61 s62 s63 s64 s65 s66 s67 s68 s69 s70 s71 s72 s73 s74 s75 s76 s77 s78 s79 s80 s81 s82 s83 s84 s85 s86 s87 s88 s89 s90 s91 s92 s93 s94 s95 s96 s97 s98 s99 s100 s101 s102 s103 s104 s105 s106 s107 s108 s109 s110 s111 s112 s113 s114 s115 s116 s117 s118 s119 s120 s121 s122 s123 s124 s125 s126 s127 s128 s129 s130 s131 s132 s133 s134 s135 s136 s137 s138 s139 s140 s141 s142 s143 s144 s145 s146 s147 s148 s149 s150 s151 s152 s153 s154 s155 s156 s157 s158 s159 s160 s161 s162 s163 s164 s165 s166 s167 s168 s169 s170 s171 s172 s173 s174 s175 s176 s177 s178 s179 s180 s181 s182 s183 s184 s185 s186 s187 s188 s189 s190 s191 s192 s193 s194 s195 s196 s197 s198 s199 s200 s201 s202 s203 s204 s205 s206 s207 s208 s209 s210 s211 s212 s213 s214 s215 s216 s217 s218 s219 s220 s221 s222 s223 s224 s225 s226 s227 s228 s229 s230 s231 s232 s233 s234 s235 s236 s237 s238 s239 s240 s241 s242 : Value} {J K' : Act → World → Prop} {Q : Exit → Act → World → Prop}
    (HPQ : Hid (∀ (c : List PanicEntry) (a a' : Act) (w : World), a.defers = a'.defers → Q (.panic c) a w → Q (.panic c) a' w))
    (hJ : ∀ (a' : Act) (w' : World), (∃ u2 u3 u4 u5 u12 u81 u82 u83 u84 u85 u86 u87 u88 u89 u90 u91 u92 u93 u94 u95 u96 u97 u98 u99 u100 u101 u102 u103 u104 u105 u106 u107 u108 u109 u110 u111 u112 u113 u114 u115 u116 u117 u118 u119 u120 u121 u122 u123 u124 u125 u126 u127 u128 u129 u130 u131 u132 u133 u134 u135 u136 u137 u138 u139 u140 u141 u142 u143 u144 u145 u146 u147 u148 u149 u150 u151 u152 u153 u154 u155 u156 u157 u158 u159 u160 u161 u162 u163 u164 u165 u166 u167 u168 u169 u170 u171 u172 u173 u174 u175 u176 u177 u178 u179 u180 u181 u182 u183 u184 u185 u186 u187 u188 u189 u190 u191 u192 u193 u194 u195 u196 u197 u198 u199 u200 u201 u202 u203 u204 u205 u206 u207 u208 u209 u210 u211 u212 u213 u214 u215 u216 u217 u218 u219 u220 u221 u222 u223 u224 u225 u226 u227 u228 u229 u230 u231 u232 u233 u234 u235 u236 u237 u238 u239 u240 u241 : Value, (u3 = .int .i64 (estAt b K p.n (i + 1)).oi ∧ u4 = .int .i64 (estAt b K p.n (i + 1)).oe ∧ u5 = .int .i64 (estAt b K p.n (i + 1)).va ∧ Xq p b K L0 w w' u2 (i + 1) (estAt b K p.n (i + 1)).st) ∧ a' = ⟨#[.pointer (some ⟨p.pz, 0, none⟩), s1, u2, u3, u4, u5, .int .i64 i, .int .i64 k, .pointer (some ⟨g8, 0, none⟩), s9, .int .i64 nx, .bool ft, u12, s13, s14, s15, s16, s17, s18, s19, s20, s21, s22, s23, s24, s25, s26, s27, s28, s29, s30, s31, s32, s33, s34, s35, s36, s37, s38, s39, s40, s41, s42, s43, s44, s45, s46, s47, s48, s49, s50, s51, s52, s53, s54, s55, s56, s57, s58, s59, s60, s61, s62, s63, s64, s65, s66, s67, s68, s69, s70, s71, s72, s73, s74, s75, s76, s77, s78, s79, s80, u81, u82, u83, u84, u85, u86, u87, u88, u89, u90, u91, u92, u93, u94, u95, u96, u97, u98, u99, u100, u101, u102, u103, u104, u105, u106, u107, u108, u109, u110, u111, u112, u113, u114, u115, u116, u117, u118, u119, u120, u121, u122, u123, u124, u125, u126, u127, u128, u129, u130, u131, u132, u133, u134, u135, u136, u137, u138, u139, u140, u141, u142, u143, u144, u145, u146, u147, u148, u149, u150, u151, u152, u153, u154, u155, u156, u157, u158, u159, u160, u161, u162, u163, u164, u165, u166, u167, u168, u169, u170, u171, u172, u173, u174, u175, u176, u177, u178, u179, u180, u181, u182, u183, u184, u185, u186, u187, u188, u189, u190, u191, u192, u193, u194, u195, u196, u197, u198, u199, u200, u201, u202, u203, u204, u205, u206, u207, u208, u209, u210, u211, u212, u213, u214, u215, u216, u217, u218, u219, u220, u221, u222, u223, u224, u225, u226, u227, u228, u229, u230, u231, u232, u233, u234, u235, u236, u237, u238, u239, u240, u241, s242], []⟩) → J a' w')
    (hK : ∀ (a' : Act) (w' : World), Met J a' w' → K' a' w') :
    Code.wp Tryd.prog (theBlk Tryd.f14 2) (Exit.then K' Q) ⟨#[.pointer (some ⟨p.pz, 0, none⟩), s1, .slice (some ⟨gs, 0, none⟩) (T + 1) cs, .int .i64 oi, .int .i64 oe, .int .i64 va, .int .i64 i, .int .i64 k, .pointer (some ⟨g8, 0, none⟩), s9, .int .i64 nx, .bool ft, s12, s13, s14, s15, s16, s17, s18, s19, s20, s21, s22, s23, s24, s25, s26, s27, s28, s29, s30, s31, s32, s33, s34, s35, s36, s37, s38, s39, s40, s41, s42, s43, s44, s45, s46, s47, s48, s49, s50, s51, s52, s53, s54, s55, s56, s57, s58, s59, s60, s61, s62, s63, s64, s65, s66, s67, s68, s69, s70, s71, s72, s73, s74, s75, s76, s77, s78, s79, s80, s81, s82, s83, s84, s85, s86, s87, s88, s89, s90, s91, s92, s93, s94, s95, s96, s97, s98, s99, s100, s101, s102, s103, s104, s105, s106, s107, s108, s109, s110, s111, s112, s113, s114, s115, s116, s117, s118, s119, s120, s121, s122, s123, s124, s125, s126, s127, s128, s129, s130, s131, s132, s133, s134, s135, s136, s137, s138, s139, s140, s141, s142, s143, s144, s145, s146, s147, s148, s149, s150, s151, s152, s153, s154, s155, s156, s157, s158, s159, s160, s161, s162, s163, s164, s165, s166, s167, s168, s169, s170, s171, s172, s173, s174, s175, s176, s177, s178, s179, s180, s181, s182, s183, s184, s185, s186, s187, s188, s189, s190, s191, s192, s193, s194, s195, s196, s197, s198, s199, s200, s201, s202, s203, s204, s205, s206, s207, s208, s209, s210, s211, s212, s213, s214, s215, s216, s217, s218, s219, s220, s221, s222, s223, s224, s225, s226, s227, s228, s229, s230, s231, s232, s233, s234, s235, s236, s237, s238, s239, s240, s241, s242], []⟩ w6 := by
  have h1 : ¬ isEmb (K i) := by have hk2 := HK.out; unfold isEmb; omega
  have h2 : isoB (K i) = true := by have hk2 := HK.out; unfold isoB; rw [decide_eq_true_eq]; omega
  have HES := Lib.hid (show estAt b K p.n (i + 1) = if fitsB b K p.n i e then { e with st := ⟨nx, -1, true⟩ :: e.st, va := e.va + 1 } else { e with oi := e.oi + 1 } by
    rw [HST.out]; unfold estStep
    rw [if_neg h1, if_pos h2, HNX.out])
  clear h1
  have HDC := Lib.hid (show decB b K p.n i = ⟨lv, ov, iso⟩ by
    have hk2 := HK.out
    unfold decB; rw [if_neg (by omega), ← HE.out, HXT.out]; rfl)
  have HOU := Lib.hid (show ouE K i = false by have hk2 := HK.out; unfold ouE; rw [decide_eq_false_iff_not]; omega)
  have HCL := Lib.hid (show clE b K p.n i = if 0 ≤ ov then ov else K i by
    have hk2 := HK.out
    unfold clE; rw [HOU.out, HDC.out, if_neg (by intro h; rcases h with h | h; exact absurd h (by decide); omega)])
  have HLV := Lib.hid (show lvE b K p.n i = lv by have hk2 := HK.out; unfold lvE; rw [if_neg (by omega), HDC.out])
  have HIS := Lib.hid (show isoB k = true by rw [HK.out]; exact h2)
  have f14 : (k == 14) = false := by simp; omega
  have f15 : (k == 15) = false := by simp; omega
  have f16 : (k == 16) = false := by simp; omega
  have f17 : (k == 17) = false := by simp; omega
  have y0 : w6.cell? ⟨g8, 0, none⟩ = some (.int .i64 lv) := HY6.out.tb.cell (i := 0) rfl
  have y1 : w6.cell? ⟨g8, 1, none⟩ = some (.int .i64 ov) := HY6.out.tb.cell (i := 1) rfl
  have y2 : w6.cell? ⟨g8, 2, none⟩ = some (.bool iso) := HY6.out.tb.cell (i := 2) rfl
  clear hk h2
  conv => arg 2; whnf
  go_wp2_with fail
  refine (isolate_is HIS.out _).mono ?_
  rintro e9 w9 ⟨rfl, rfl⟩
  go_wp2_with fail
  refine (override_any OK.out HY6.out.pa (Save.refl _ _) i hin lv ov iso).mono ?_
  rintro e9 w7 ⟨rfl, hpa, hsv⟩
  have HX7 := Lib.hid (show Xq p b K L0 w w7 (.slice (some ⟨gs, 0, none⟩) (T + 1) cs) (i + 1) (⟨lv, ov, iso⟩ :: t) from exAfter HXO.out HY6.out HTL.out hpa hsv HCL.out HLV.out HOU.out)
  clear hpa hsv y0 y1 y2 HY6 f14 f15 f16 f17
  cases ft with
  | true =>
    have HN := Lib.hid (HES.out.trans (if_pos (HFT.out.1 rfl)))
    obtain ⟨xs, hown0, hxl, hxs⟩ := HX7.out.st.own
    have HX := Lib.hid hown0
    have HXL := Lib.hid hxl
    have HXS := Lib.hid hxs
    obtain ⟨ii, hii, hz0, hz1, hz2⟩ := info_parts (show (Tryd.prog.info? 60).map (fun i => (i.zero, i.size, i.bytes)) = some (some (.agg #[.int .i64 0, .int .i64 0, .bool false]), 3, 24) by kernel_rfl)
    have hsl3 : (Ent.mk lv ov iso :: t).length = T + 1 := by rw [HTL.out]; rfl
    rw [hsl3] at HX HXL HXS
    have hlowz := HX7.out.sv.size
    clear hown0 hxl hxs
    go_wp2_with (at_builtin; go_loud (refine wpList_append_own _ rfl _ _ 61 rfl (w.heap.size) 60 ii _ 3 24 Tryd.underlying61 hii hz0 hz1 hz2 rfl (by decide) _ _ _ rfl (RowL.alloc HX.out _) ⟨w7.heap.size, 0, none⟩ 1 1 [.int .i64 nx, .int .i64 (-1), .bool true] rfl rfl ?k1a ?k2a ?k3a ?k4a ?k5a ?_))
    try (case k1a =>
      intro j u hj
      have e : Addr.add ⟨w7.heap.size, 0, none⟩ j = ⟨w7.heap.size, j, none⟩ := by simp [Addr.add] <;> omega
      rw [e]
      exact cellNew3 (by simpa using hj))
    try (case k2a => first | exact ⟨rfl, rfl, rfl⟩ | (intro u hu; simp at hu; rcases hu with rfl | rfl | rfl <;> rfl))
    try (case k3a => unfold maxLen; (try simp); (try omega))
    try (case k4a => (try simp); (try omega))
    try (case k5a => (try simp); (try omega))
    intro v5 w5 hown hgrow _
    have HX5 := Lib.hid (Xq.push (y := ⟨nx, -1, true⟩) HX7.out HXO.out.low hgrow (by rw [hsl3]; exact hown) (by rw [hsl3]; exact HXL.out) (by rw [hsl3]; exact HXS.out))
    clear hown hgrow hii hz0 hz1 hz2 HX HXS HXL hsl3
    go_wp2_with fail
    go_meet
    exact ⟨by rw [HN.out, HOI.out], by rw [HN.out, HOE.out], by rw [HN.out, HVA.out]; rfl, by rw [HN.out]; show Xq p b K L0 w w5 _ (i + 1) (⟨nx, -1, true⟩ :: e.st); rw [HXT.out]; exact HX5.out⟩
  | false =>
    have HN := Lib.hid (HES.out.trans (if_neg (fun h => absurd (HFT.out.2 h) (by decide))))
    go_wp2_with fail
    go_meet
    exact ⟨by rw [HN.out, HOI.out]; rfl, by rw [HN.out, HOE.out], by rw [HN.out, HVA.out], by rw [HN.out]; show Xq p b K L0 w w7 _ (i + 1) e.st; rw [HXT.out]; exact HX7.out⟩
set_option maxHeartbeats 8000000 in
theorem exE14 {p : PaP} {b : Ent} {K L0 : Nat → Int} {w w6 : World} {i oi oe va T gs cs g8 : Nat} {e : Est} {t : List Ent} {lv ov nx k : Int} {iso ft : Bool}
    (OK : Hid (PaOk p)) (HEK : Hid (EstOk b i e)) (HEK2 : Hid (EstOk b (i + 1) (estAt b K p.n (i + 1)))) (HXT : Hid (e.st = ⟨lv, ov, iso⟩ :: t)) (HOI : Hid (oi = e.oi)) (HOE : Hid (oe = e.oe)) (HVA : Hid (va = e.va)) (HNX : Hid (nextB b K p.n i e = nx)) (HFT : Hid (ft = true ↔ fitsB b K p.n i e))
    (HK : Hid (k = K i)) (HE : Hid (e = estAt b K p.n i)) (HST : Hid (estAt b K p.n (i + 1) = estStep b K p.n i e)) (HTL : Hid (T = t.length)) (HBD : Hid (b = ⟨p.base, -1, false⟩)) (HXO : Hid (XOk p w g8 (.slice (some ⟨gs, 0, none⟩) (T + 1) cs)))
    (HY6 : Hid (Yq p b (prt (clE b K p.n) K i) (upd (prt (lvE b K p.n) L0 i) i lv) (prtB (ouE K) (fun _ => false) i) w w6 (.slice (some ⟨gs, 0, none⟩) (T + 1) cs) (⟨lv, ov, iso⟩ :: t) g8 ⟨lv, ov, iso⟩))
    (hin : i < p.n) (hn2 : p.n ≤ 200) (hTs : T + 1 ≤ i + 1) (hoib : oi ≤ i) (hoeb : oe ≤ i) (hvab : va ≤ i) (hxm : 0 ≤ lv ∧ lv ≤ 125) (hxo : -1 ≤ ov ∧ ov ≤ 1) (hsc1 : T + 1 ≤ cs) (hsc2 : cs ≤ maxLen) (hnxb : 0 ≤ nx ∧ nx ≤ 1000) (hbase : p.base = 0 ∨ p.base = 1) (hk : k = 14)
    {s1 s9 s12 s13 s14 s15 s16 s17 s18 s19 s20 s21 s22 s23 s24 s25 s26 s27 s28 s29 s30 s31 s32 s33 s34 s35 s36 s37 s38 s39 s40 s41 s42 s43 s44 s45 s46 s47 s48 s49 s50 s51 s52 s53 s54 s55 s56 s57 s58 s59 s60 s61 s62 s63 s64 s65 s66 s67 s68 s69 s70 s71 s72 s73 s74 s75 s76 s77 s78 s79 s80 s81 s82 s83 s84 s85 s86 s87 s88 s89 s90 s91 s92 s93 s94 s95 s96 s97 s98 s99 s100 s101 s102 s103 s104 s105 s106 s107 s108 s109 s110 s111 s112 s113 s114 s115 s116 s117 s118 s119 s120 s121 s122 s123 s124 s125 s126 s127 s128 s129 s130 s131 s132 s133 s134 s135 s136 s137 s138 s139 s140 s141 s142 s143 s144 s145 s146 s147 s148 s149 s150 s151 s152 s153 s154 s155 s156 s157 s158 s159 s160 s161 s162 s163 s164 s165 s166 s167 s168 s169 s170 s171 s172 s173 s174 s175 s176 s177 s178 s179 s180 s181 s182 s183 s184 s185 s186 s187 s188 s189 s190 s191 s192 s193 s194 s195 s196 s197 s198 s199 s200 s201 s202 s203 s204 s205 s206 s207 s208 s209 s210 s211 s212 s213 s214 s215 s216 s217 s218 s219 s220 s221 s222 s223 s224 s225 s226 s227 s228 s229 s230 s231 s232 s233 s234 s235 s236 s237 s238 s239 s240 s241 s242 : Value} {J K' : Act → World → Prop} {Q : Exit → Act → World → Prop}
    (HPQ : Hid (∀ (c : List PanicEntry) (a a' : Act) (w : World), a.defers = a'.defers → Q (.panic c) a w → Q (.panic c) a' w))
    (hJ : ∀ (a' : Act) (w' : World), (∃ u2 u3 u4 u5 u12 u81 u82 u83 u84 u85 u86 u87 u88 u89 u90 u91 u92 u93 u94 u95 u96 u97 u98 u99 u100 u101 u102 u103 u104 u105 u106 u107 u108 u109 u110 u111 u112 u113 u114 u115 u116 u117 u118 u119 u120 u121 u122 u123 u124 u125 u126 u127 u128 u129 u130 u131 u132 u133 u134 u135 u136 u137 u138 u139 u140 u141 u142 u143 u144 u145 u146 u147 u148 u149 u150 u151 u152 u153 u154 u155 u156 u157 u158 u159 u160 u161 u162 u163 u164 u165 u166 u167 u168 u169 u170 u171 u172 u173 u174 u175 u176 u177 u178 u179 u180 u181 u182 u183 u184 u185 u186 u187 u188 u189 u190 u191 u192 u193 u194 u195 u196 u197 u198 u199 u200 u201 u202 u203 u204 u205 u206 u207 u208 u209 u210 u211 u212 u213 u214 u215 u216 u217 u218 u219 u220 u221 u222 u223 u224 u225 u226 u227 u228 u229 u230 u231 u232 u233 u234 u235 u236 u237 u238 u239 u240 u241 : Value, (u3 = .int .i64 (estAt b K p.n (i + 1)).oi ∧ u4 = .int .i64 (estAt b K p.n (i + 1)).oe ∧ u5 = .int .i64 (estAt b K p.n (i + 1)).va ∧ Xq p b K L0 w w' u2 (i + 1) (estAt b K p.n (i + 1)).st) ∧ a' = ⟨#[.pointer (some ⟨p.pz, 0, none⟩), s1, u2, u3, u4, u5, .int .i64 i, .int .i64 k, .pointer (some ⟨g8, 0, none⟩), s9, .int .i64 nx, .bool ft, u12, s13, s14, s15, s16, s17, s18, s19, s20, s21, s22, s23, s24, s25, s26, s27, s28, s29, s30, s31, s32, s33, s34, s35, s36, s37, s38, s39, s40, s41, s42, s43, s44, s45, s46, s47, s48, s49, s50, s51, s52, s53, s54, s55, s56, s57, s58, s59, s60, s61, s62, s63, s64, s65, s66, s67, s68, s69, s70, s71, s72, s73, s74, s75, s76, s77, s78, s79, s80, u81, u82, u83, u84, u85, u86, u87, u88, u89, u90, u91, u92, u93, u94, u95, u96, u97, u98, u99, u100, u101, u102, u103, u104, u105, u106, u107, u108, u109, u110, u111, u112, u113, u114, u115, u116, u117, u118, u119, u120, u121, u122, u123, u124, u125, u126, u127, u128, u129, u130, u131, u132, u133, u134, u135, u136, u137, u138, u139, u140, u141, u142, u143, u144, u145, u146, u147, u148, u149, u150, u151, u152, u153, u154, u155, u156, u157, u158, u159, u160, u161, u162, u163, u164, u165, u166, u167, u168, u169, u170, u171, u172, u173, u174, u175, u176, u177, u178, u179, u180, u181, u182, u183, u184, u185, u186, u187, u188, u189, u190, u191, u192, u193, u194, u195, u196, u197, u198, u199, u200, u201, u202, u203, u204, u205, u206, u207, u208, u209, u210, u211, u212, u213, u214, u215, u216, u217, u218, u219, u220, u221, u222, u223, u224, u225, u226, u227, u228, u229, u230, u231, u232, u233, u234, u235, u236, u237, u238, u239, u240, u241, s242], []⟩) → J a' w')
    (hK : ∀ (a' : Act) (w' : World), Met J a' w' → K' a' w') :
    Code.wp Tryd.prog (theBlk Tryd.f14 2) (Exit.then K' Q) ⟨#[.pointer (some ⟨p.pz, 0, none⟩), s1, .slice (some ⟨gs, 0, none⟩) (T + 1) cs, .int .i64 oi, .int .i64 oe, .int .i64 va, .int .i64 i, .int .i64 k, .pointer (some ⟨g8, 0, none⟩), s9, .int .i64 nx, .bool ft, s12, s13, s14, s15, s16, s17, s18, s19, s20, s21, s22, s23, s24, s25, s26, s27, s28, s29, s30, s31, s32, s33, s34, s35, s36, s37, s38, s39, s40, s41, s42, s43, s44, s45, s46, s47, s48, s49, s50, s51, s52, s53, s54, s55, s56, s57, s58, s59, s60, s61, s62, s63, s64, s65, s66, s67, s68, s69, s70, s71, s72, s73, s74, s75, s76, s77, s78, s79, s80, s81, s82, s83, s84, s85, s86, s87, s88, s89, s90, s91, s92, s93, s94, s95, s96, s97, s98, s99, s100, s101, s102, s103, s104, s105, s106, s107, s108, s109, s110, s111, s112, s113, s114, s115, s116, s117, s118, s119, s120, s121, s122, s123, s124, s125, s126, s127, s128, s129, s130, s131, s132, s133, s134, s135, s136, s137, s138, s139, s140, s141, s142, s143, s144, s145, s146, s147, s148, s149, s150, s151, s152, s153, s154, s155, s156, s157, s158, s159, s160, s161, s162, s163, s164, s165, s166, s167, s168, s169, s170, s171, s172, s173, s174, s175, s176, s177, s178, s179, s180, s181, s182, s183, s184, s185, s186, s187, s188, s189, s190, s191, s192, s193, s194, s195, s196, s197, s198, s199, s200, s201, s202, s203, s204, s205, s206, s207, s208, s209, s210, s211, s212, s213, s214, s215, s216, s217, s218, s219, s220, s221, s222, s223, s224, s225, s226, s227, s228, s229, s230, s231, s232, s233, s234, s235, s236, s237, s238, s239, s240, s241, s242], []⟩ w6 := by
  subst hk
  have h1 : isEmb (K i) := by have hk2 := HK.out; unfold isEmb; omega
  have HES := Lib.hid (show estAt b K p.n (i + 1) = if fitsB b K p.n i e then { e with st := ⟨nx, -1, false⟩ :: e.st } else if e.oi = 0 then { e with oe := e.oe + 1 } else e by
    rw [HST.out]; unfold estStep
    rw [if_pos h1, HNX.out, show ovrOf (K i) = -1 by rw [← HK.out]; decide])
  clear h1
  have HDC := Lib.hid (show decB b K p.n i = ⟨lv, ov, iso⟩ by
    have hk2 := HK.out
    unfold decB; rw [if_neg (by omega), ← HE.out, HXT.out]; rfl)
  have HOU := Lib.hid (show ouE K i = true by have hk2 := HK.out; unfold ouE; rw [decide_eq_true_eq]; omega)
  have HCL := Lib.hid (show clE b K p.n i = K i by unfold clE; rw [if_pos (.inl HOU.out)])
  have HLV := Lib.hid (show lvE b K p.n i = lv by have hk2 := HK.out; unfold lvE; rw [if_neg (by omega), HDC.out])
  have c4 : w6.cell? ⟨p.pz, 4, none⟩ = _ := HY6.out.pa.par.cell (i := 4) rfl
  have z1 := HY6.out.pa.out.frozen i
  have z2 := HY6.out.pa.out.cell hin
  have h8 := HY6.out.setO (i := i) OK.out HXO.out true
  obtain ⟨w7, hw7⟩ : ∃ w7, w7 = w6.setCell ⟨p.go, i, none⟩ (.bool true) := ⟨_, rfl⟩
  rw [← hw7] at h8
  have HX7 := Lib.hid (show Xq p b K L0 w w7 (.slice (some ⟨gs, 0, none⟩) (T + 1) cs) (i + 1) (⟨lv, ov, iso⟩ :: t) from
    ⟨h8.pa.congr (fun j _ => prt_same HCL.out j) (fun j _ => prt_set _ _ i HLV.out j) (fun j _ => prtB_set _ _ i HOU.out j), h8.st, h8.sv⟩)
  clear h8
  conv => arg 2; whnf
  go_upto_region 15 with fail
  rw [← hw7]
  clear hw7 z1 z2 c4 HY6
  obtain ⟨wz, hwz⟩ : ∃ wz, wz = w7.alloc (Obj.cells #[.int .i64 nx, .int .i64 (-1), .bool false] 60) := ⟨_, rfl⟩
  have HXZ := Lib.hid (show Xq p b K L0 w wz (.slice (some ⟨gs, 0, none⟩) (T + 1) cs) (i + 1) (⟨lv, ov, iso⟩ :: t) by
    rw [hwz]; exact ⟨HX7.out.pa.alloc _, HX7.out.st.below ((Below.refl _ _).alloc (Nat.le_refl _) _) (Nat.le_refl _), HX7.out.sv.alloc _⟩)
  have qz : Blk wz w7.heap.size #[.int .i64 nx, .int .i64 (-1), .bool false] 60 := by rw [hwz]; exact Blk.new _ _ _
  go_upto_region 20 with fail
  rw [← hwz]
  have q0 : wz.cell? ⟨w7.heap.size, 0, none⟩ = some (.int .i64 nx) := qz.cell (i := 0) rfl
  have q1 : wz.cell? ⟨w7.heap.size, 1, none⟩ = some (.int .i64 (-1)) := qz.cell (i := 1) rfl
  have q2 : wz.cell? ⟨w7.heap.size, 2, none⟩ = some (.bool false) := qz.cell (i := 2) rfl
  have qlt := qz.lt
  clear qz hwz HX7
  cases ft with
  | true =>
    have HN := Lib.hid (HES.out.trans (if_pos (HFT.out.1 rfl)))
    obtain ⟨xs, hown0, hxl, hxs⟩ := HXZ.out.st.own
    have HX := Lib.hid hown0
    have HXL := Lib.hid hxl
    have HXS := Lib.hid hxs
    obtain ⟨ii, hii, hz0, hz1, hz2⟩ := info_parts (show (Tryd.prog.info? 60).map (fun i => (i.zero, i.size, i.bytes)) = some (some (.agg #[.int .i64 0, .int .i64 0, .bool false]), 3, 24) by kernel_rfl)
    have hsl3 : (Ent.mk lv ov iso :: t).length = T + 1 := by rw [HTL.out]; rfl
    rw [hsl3] at HX HXL HXS
    have hlowz := HXZ.out.sv.size
    clear hown0 hxl hxs
    go_wp2_with (at_builtin; go_loud (refine wpList_append_own _ rfl _ _ 61 rfl (w.heap.size) 60 ii _ 3 24 Tryd.underlying61 hii hz0 hz1 hz2 rfl (by decide) _ _ _ rfl (RowL.alloc HX.out _) ⟨wz.heap.size, 0, none⟩ 1 1 [.int .i64 nx, .int .i64 (-1), .bool false] rfl rfl ?k1a ?k2a ?k3a ?k4a ?k5a ?_))
    try (case k1a =>
      intro j u hj
      have e : Addr.add ⟨wz.heap.size, 0, none⟩ j = ⟨wz.heap.size, j, none⟩ := by simp [Addr.add] <;> omega
      rw [e]
      exact cellNew3 (by simpa using hj))
    try (case k2a => first | exact ⟨rfl, rfl, rfl⟩ | (intro u hu; simp at hu; rcases hu with rfl | rfl | rfl <;> rfl))
    try (case k3a => unfold maxLen; (try simp); (try omega))
    try (case k4a => (try simp); (try omega))
    try (case k5a => (try simp); (try omega))
    intro v5 w5 hown hgrow _
    have HX5 := Lib.hid (Xq.push (y := ⟨nx, -1, false⟩) HXZ.out HXO.out.low hgrow (by rw [hsl3]; exact hown) (by rw [hsl3]; exact HXL.out) (by rw [hsl3]; exact HXS.out))
    clear hown hgrow hii hz0 hz1 hz2 HX HXS HXL hsl3
    go_wp2_with fail
    go_meet
    exact ⟨by rw [HN.out, HOI.out], by rw [HN.out, HOE.out], by rw [HN.out, HVA.out], by rw [HN.out]; show Xq p b K L0 w w5 _ (i + 1) (⟨nx, -1, false⟩ :: e.st); rw [HXT.out]; exact HX5.out⟩
  | false =>
    have HN1 := Lib.hid (HES.out.trans (if_neg (fun h => absurd (HFT.out.2 h) (by decide))))
    by_cases hoi0 : oi = 0
    · have HN := Lib.hid (HN1.out.trans (if_pos (by rw [← HOI.out]; exact hoi0)))
      have hoi1 : ((oi : Int) == 0) = true := by simp [hoi0]
      have HZ := Lib.hid hoi0
      clear hoi0
      go_wp2_with fail
      go_meet
      exact ⟨by rw [HN.out, HOI.out], by rw [HN.out, HOE.out]; rfl, by rw [HN.out, HVA.out], by rw [HN.out]; show Xq p b K L0 w wz _ (i + 1) e.st; rw [HXT.out]; exact HXZ.out⟩
    · have HN := Lib.hid (HN1.out.trans (if_neg (by rw [← HOI.out]; exact hoi0)))
      have hoi1 : ((oi : Int) == 0) = false := by simp [hoi0]
      clear hoi0
      go_wp2_with fail
      go_meet
      exact ⟨by rw [HN.out, HOI.out], by rw [HN.out, HOE.out], by rw [HN.out, HVA.out], by rw [HN.out]; show Xq p b K L0 w wz _ (i + 1) e.st; rw [HXT.out]; exact HXZ.out⟩
set_option maxHeartbeats 8000000 in
theorem exE15 {p : PaP} {b : Ent} {K L0 : Nat → Int} {w w6 : World} {i oi oe va T gs cs g8 : Nat} {e : Est} {t : List Ent} {lv ov nx k : Int} {iso ft : Bool}
    (OK : Hid (PaOk p)) (HEK : Hid (EstOk b i e)) (HEK2 : Hid (EstOk b (i + 1) (estAt b K p.n (i + 1)))) (HXT : Hid (e.st = ⟨lv, ov, iso⟩ :: t)) (HOI : Hid (oi = e.oi)) (HOE : Hid (oe = e.oe)) (HVA : Hid (va = e.va)) (HNX : Hid (nextB b K p.n i e = nx)) (HFT : Hid (ft = true ↔ fitsB b K p.n i e))
    (HK : Hid (k = K i)) (HE : Hid (e = estAt b K p.n i)) (HST : Hid (estAt b K p.n (i + 1) = estStep b K p.n i e)) (HTL : Hid (T = t.length)) (HBD : Hid (b = ⟨p.base, -1, false⟩)) (HXO : Hid (XOk p w g8 (.slice (some ⟨gs, 0, none⟩) (T + 1) cs)))
    (HY6 : Hid (Yq p b (prt (clE b K p.n) K i) (upd (prt (lvE b K p.n) L0 i) i lv) (prtB (ouE K) (fun _ => false) i) w w6 (.slice (some ⟨gs, 0, none⟩) (T + 1) cs) (⟨lv, ov, iso⟩ :: t) g8 ⟨lv, ov, iso⟩))
    (hin : i < p.n) (hn2 : p.n ≤ 200) (hTs : T + 1 ≤ i + 1) (hoib : oi ≤ i) (hoeb : oe ≤ i) (hvab : va ≤ i) (hxm : 0 ≤ lv ∧ lv ≤ 125) (hxo : -1 ≤ ov ∧ ov ≤ 1) (hsc1 : T + 1 ≤ cs) (hsc2 : cs ≤ maxLen) (hnxb : 0 ≤ nx ∧ nx ≤ 1000) (hbase : p.base = 0 ∨ p.base = 1) (hk : k = 15)
    {s1 s9 s12 s13 s14 s15 s16 s17 s18 s19 s20 s21 s22 s23 s24 s25 s26 s27 s28 s29 s30 s31 s32 s33 s34 s35 s36 s37 s38 s39 s40 s41 s42 s43 s44 s45 s46 s47 s48 s49 s50 s51 s52 s53 s54 s55 s56 s57 s58 s59 s60 s61 s62 s63 s64 s65 s66 s67 s68 s69 s70 s71 s72 s73 s74 s75 s76 s77 s78 s79 s80 s81 s82 s83 s84 s85 s86 s87 s88 s89 s90 s91 s92 s93 s94 s95 s96 s97 s98 s99 s100 s101 s102 s103 s104 s105 s106 s107 s108 s109 s110 s111 s112 s113 s114 s115 s116 s117 s118 s119 s120 s121 s122 s123 s124 s125 s126 s127 s128 s129 s130 s131 s132 s133 s134 s135 s136 s137 s138 s139 s140 s141 s142 s143 s144 s145 s146 s147 s148 s149 s150 s151 s152 s153 s154 s155 s156 s157 s158 s159 s160 s161 s162 s163 s164 s165 s166 s167 s168 s169 s170 s171 s172 s173 s174 s175 s176 s177 s178 s179 s180 s181 s182 s183 s184 s185 s186 s187 s188 s189 s190 s191 s192 s193 s194 s195 s196 s197 s198 s199 s200 s201 s202 s203 s204 s205 s206 s207 s208 s209 s210 s211 s212 s213 s214 s215 s216 s217 s218 s219 s220 s221 s222 s223 s224 s225 s226 s227 s228 s229 s230 s231 s232 s233 s234 s235 s236 s237 s238 s239 s240 s241 s242 : Value} {J K' : Act → World → Prop} {Q : Exit → Act → World → Prop}
    (HPQ : Hid (∀ (c : List PanicEntry) (a a' : Act) (w : World), a.defers = a'.defers → Q (.panic c) a w → Q (.panic c) a' w))
    (hJ : ∀ (a' : Act) (w' : World), (∃ u2 u3 u4 u5 u12 u81 u82 u83 u84 u85 u86 u87 u88 u89 u90 u91 u92 u93 u94 u95 u96 u97 u98 u99 u100 u101 u102 u103 u104 u105 u106 u107 u108 u109 u110 u111 u112 u113 u114 u115 u116 u117 u118 u119 u120 u121 u122 u123 u124 u125 u126 u127 u128 u129 u130 u131 u132 u133 u134 u135 u136 u137 u138 u139 u140 u141 u142 u143 u144 u145 u146 u147 u148 u149 u150 u151 u152 u153 u154 u155 u156 u157 u158 u159 u160 u161 u162 u163 u164 u165 u166 u167 u168 u169 u170 u171 u172 u173 u174 u175 u176 u177 u178 u179 u180 u181 u182 u183 u184 u185 u186 u187 u188 u189 u190 u191 u192 u193 u194 u195 u196 u197 u198 u199 u200 u201 u202 u203 u204 u205 u206 u207 u208 u209 u210 u211 u212 u213 u214 u215 u216 u217 u218 u219 u220 u221 u222 u223 u224 u225 u226 u227 u228 u229 u230 u231 u232 u233 u234 u235 u236 u237 u238 u239 u240 u241 : Value, (u3 = .int .i64 (estAt b K p.n (i + 1)).oi ∧ u4 = .int .i64 (estAt b K p.n (i + 1)).oe ∧ u5 = .int .i64 (estAt b K p.n (i + 1)).va ∧ Xq p b K L0 w w' u2 (i + 1) (estAt b K p.n (i + 1)).st) ∧ a' = ⟨#[.pointer (some ⟨p.pz, 0, none⟩), s1, u2, u3, u4, u5, .int .i64 i, .int .i64 k, .pointer (some ⟨g8, 0, none⟩), s9, .int .i64 nx, .bool ft, u12, s13, s14, s15, s16, s17, s18, s19, s20, s21, s22, s23, s24, s25, s26, s27, s28, s29, s30, s31, s32, s33, s34, s35, s36, s37, s38, s39, s40, s41, s42, s43, s44, s45, s46, s47, s48, s49, s50, s51, s52, s53, s54, s55, s56, s57, s58, s59, s60, s61, s62, s63, s64, s65, s66, s67, s68, s69, s70, s71, s72, s73, s74, s75, s76, s77, s78, s79, s80, u81, u82, u83, u84, u85, u86, u87, u88, u89, u90, u91, u92, u93, u94, u95, u96, u97, u98, u99, u100, u101, u102, u103, u104, u105, u106, u107, u108, u109, u110, u111, u112, u113, u114, u115, u116, u117, u118, u119, u120, u121, u122, u123, u124, u125, u126, u127, u128, u129, u130, u131, u132, u133, u134, u135, u136, u137, u138, u139, u140, u141, u142, u143, u144, u145, u146, u147, u148, u149, u150, u151, u152, u153, u154, u155, u156, u157, u158, u159, u160, u161, u162, u163, u164, u165, u166, u167, u168, u169, u170, u171, u172, u173, u174, u175, u176, u177, u178, u179, u180, u181, u182, u183, u184, u185, u186, u187, u188, u189, u190, u191, u192, u193, u194, u195, u196, u197, u198, u199, u200, u201, u202, u203, u204, u205, u206, u207, u208, u209, u210, u211, u212, u213, u214, u215, u216, u217, u218, u219, u220, u221, u222, u223, u224, u225, u226, u227, u228, u229, u230, u231, u232, u233, u234, u235, u236, u237, u238, u239, u240, u241, s242], []⟩) → J a' w')
    (hK : ∀ (a' : Act) (w' : World), Met J a' w' → K' a' w') :
    Code.wp Tryd.prog (theBlk Tryd.f14 2) (Exit.then K' Q) ⟨#[.pointer (some ⟨p.pz, 0, none⟩), s1, .slice (some ⟨gs, 0, none⟩) (T + 1) cs, .int .i64 oi, .int .i64 oe, .int .i64 va, .int .i64 i, .int .i64 k, .pointer (some ⟨g8, 0, none⟩), s9, .int .i64 nx, .bool ft, s12, s13, s14, s15, s16, s17, s18, s19, s20, s21, s22, s23, s24, s25, s26, s27, s28, s29, s30, s31, s32, s33, s34, s35, s36, s37, s38, s39, s40, s41, s42, s43, s44, s45, s46, s47, s48, s49, s50, s51, s52, s53, s54, s55, s56, s57, s58, s59, s60, s61, s62, s63, s64, s65, s66, s67, s68, s69, s70, s71, s72, s73, s74, s75, s76, s77, s78, s79, s80, s81, s82, s83, s84, s85, s86, s87, s88, s89, s90, s91, s92, s93, s94, s95, s96, s97, s98, s99, s100, s101, s102, s103, s104, s105, s106, s107, s108, s109, s110, s111, s112, s113, s114, s115, s116, s117, s118, s119, s120, s121, s122, s123, s124, s125, s126, s127, s128, s129, s130, s131, s132, s133, s134, s135, s136, s137, s138, s139, s140, s141, s142, s143, s144, s145, s146, s147, s148, s149, s150, s151, s152, s153, s154, s155, s156, s157, s158, s159, s160, s161, s162, s163, s164, s165, s166, s167, s168, s169, s170, s171, s172, s173, s174, s175, s176, s177, s178, s179, s180, s181, s182, s183, s184, s185, s186, s187, s188, s189, s190, s191, s192, s193, s194, s195, s196, s197, s198, s199, s200, s201, s202, s203, s204, s205, s206, s207, s208, s209, s210, s211, s212, s213, s214, s215, s216, s217, s218, s219, s220, s221, s222, s223, s224, s225, s226, s227, s228, s229, s230, s231, s232, s233, s234, s235, s236, s237, s238, s239, s240, s241, s242], []⟩ w6 := by
  subst hk
  have h1 : isEmb (K i) := by have hk2 := HK.out; unfold isEmb; omega
  have HES := Lib.hid (show estAt b K p.n (i + 1) = if fitsB b K p.n i e then { e with st := ⟨nx, -1, false⟩ :: e.st } else if e.oi = 0 then { e with oe := e.oe + 1 } else e by
    rw [HST.out]; unfold estStep
    rw [if_pos h1, HNX.out, show ovrOf (K i) = -1 by rw [← HK.out]; decide])
  clear h1
  have HDC := Lib.hid (show decB b K p.n i = ⟨lv, ov, iso⟩ by
    have hk2 := HK.out
    unfold decB; rw [if_neg (by omega), ← HE.out, HXT.out]; rfl)
  have HOU := Lib.hid (show ouE K i = true by have hk2 := HK.out; unfold ouE; rw [decide_eq_true_eq]; omega)
  have HCL := Lib.hid (show clE b K p.n i = K i by unfold clE; rw [if_pos (.inl HOU.out)])
  have HLV := Lib.hid (show lvE b K p.n i = lv by have hk2 := HK.out; unfold lvE; rw [if_neg (by omega), HDC.out])
  have c4 : w6.cell? ⟨p.pz, 4, none⟩ = _ := HY6.out.pa.par.cell (i := 4) rfl
  have z1 := HY6.out.pa.out.frozen i
  have z2 := HY6.out.pa.out.cell hin
  have h8 := HY6.out.setO (i := i) OK.out HXO.out true
  obtain ⟨w7, hw7⟩ : ∃ w7, w7 = w6.setCell ⟨p.go, i, none⟩ (.bool true) := ⟨_, rfl⟩
  rw [← hw7] at h8
  have HX7 := Lib.hid (show Xq p b K L0 w w7 (.slice (some ⟨gs, 0, none⟩) (T + 1) cs) (i + 1) (⟨lv, ov, iso⟩ :: t) from
    ⟨h8.pa.congr (fun j _ => prt_same HCL.out j) (fun j _ => prt_set _ _ i HLV.out j) (fun j _ => prtB_set _ _ i HOU.out j), h8.st, h8.sv⟩)
  clear h8
  conv => arg 2; whnf
  go_upto_region 15 with fail
  rw [← hw7]
  clear hw7 z1 z2 c4 HY6
  obtain ⟨wz, hwz⟩ : ∃ wz, wz = w7.alloc (Obj.cells #[.int .i64 nx, .int .i64 (-1), .bool false] 60) := ⟨_, rfl⟩
  have HXZ := Lib.hid (show Xq p b K L0 w wz (.slice (some ⟨gs, 0, none⟩) (T + 1) cs) (i + 1) (⟨lv, ov, iso⟩ :: t) by
    rw [hwz]; exact ⟨HX7.out.pa.alloc _, HX7.out.st.below ((Below.refl _ _).alloc (Nat.le_refl _) _) (Nat.le_refl _), HX7.out.sv.alloc _⟩)
  have qz : Blk wz w7.heap.size #[.int .i64 nx, .int .i64 (-1), .bool false] 60 := by rw [hwz]; exact Blk.new _ _ _
  go_upto_region 20 with fail
  rw [← hwz]
  have q0 : wz.cell? ⟨w7.heap.size, 0, none⟩ = some (.int .i64 nx) := qz.cell (i := 0) rfl
  have q1 : wz.cell? ⟨w7.heap.size, 1, none⟩ = some (.int .i64 (-1)) := qz.cell (i := 1) rfl
  have q2 : wz.cell? ⟨w7.heap.size, 2, none⟩ = some (.bool false) := qz.cell (i := 2) rfl
  have qlt := qz.lt
  clear qz hwz HX7
  cases ft with
  | true =>
    have HN := Lib.hid (HES.out.trans (if_pos (HFT.out.1 rfl)))
    obtain ⟨xs, hown0, hxl, hxs⟩ := HXZ.out.st.own
    have HX := Lib.hid hown0
    have HXL := Lib.hid hxl
    have HXS := Lib.hid hxs
    obtain ⟨ii, hii, hz0, hz1, hz2⟩ := info_parts (show (Tryd.prog.info? 60).map (fun i => (i.zero, i.size, i.bytes)) = some (some (.agg #[.int .i64 0, .int .i64 0, .bool false]), 3, 24) by kernel_rfl)
    have hsl3 : (Ent.mk lv ov iso :: t).length = T + 1 := by rw [HTL.out]; rfl
    rw [hsl3] at HX HXL HXS
    have hlowz := HXZ.out.sv.size
    clear hown0 hxl hxs
    go_wp2_with (at_builtin; go_loud (refine wpList_append_own _ rfl _ _ 61 rfl (w.heap.size) 60 ii _ 3 24 Tryd.underlying61 hii hz0 hz1 hz2 rfl (by decide) _ _ _ rfl (RowL.alloc HX.out _) ⟨wz.heap.size, 0, none⟩ 1 1 [.int .i64 nx, .int .i64 (-1), .bool false] rfl rfl ?k1a ?k2a ?k3a ?k4a ?k5a ?_))
    try (case k1a =>
      intro j u hj
      have e : Addr.add ⟨wz.heap.size, 0, none⟩ j = ⟨wz.heap.size, j, none⟩ := by simp [Addr.add] <;> omega
      rw [e]
      exact cellNew3 (by simpa using hj))
    try (case k2a => first | exact ⟨rfl, rfl, rfl⟩ | (intro u hu; simp at hu; rcases hu with rfl | rfl | rfl <;> rfl))
    try (case k3a => unfold maxLen; (try simp); (try omega))
    try (case k4a => (try simp); (try omega))
    try (case k5a => (try simp); (try omega))
    intro v5 w5 hown hgrow _
    have HX5 := Lib.hid (Xq.push (y := ⟨nx, -1, false⟩) HXZ.out HXO.out.low hgrow (by rw [hsl3]; exact hown) (by rw [hsl3]; exact HXL.out) (by rw [hsl3]; exact HXS.out))
    clear hown hgrow hii hz0 hz1 hz2 HX HXS HXL hsl3
    go_wp2_with fail
    go_meet
    exact ⟨by rw [HN.out, HOI.out], by rw [HN.out, HOE.out], by rw [HN.out, HVA.out], by rw [HN.out]; show Xq p b K L0 w w5 _ (i + 1) (⟨nx, -1, false⟩ :: e.st); rw [HXT.out]; exact HX5.out⟩
  | false =>
    have HN1 := Lib.hid (HES.out.trans (if_neg (fun h => absurd (HFT.out.2 h) (by decide))))
    by_cases hoi0 : oi = 0
    · have HN := Lib.hid (HN1.out.trans (if_pos (by rw [← HOI.out]; exact hoi0)))
      have hoi1 : ((oi : Int) == 0) = true := by simp [hoi0]
      have HZ := Lib.hid hoi0
      clear hoi0
      go_wp2_with fail
      go_meet
      exact ⟨by rw [HN.out, HOI.out], by rw [HN.out, HOE.out]; rfl, by rw [HN.out, HVA.out], by rw [HN.out]; show Xq p b K L0 w wz _ (i + 1) e.st; rw [HXT.out]; exact HXZ.out⟩
    · have HN := Lib.hid (HN1.out.trans (if_neg (by rw [← HOI.out]; exact hoi0)))
      have hoi1 : ((oi : Int) == 0) = false := by simp [hoi0]
      clear hoi0
      go_wp2_with fail
      go_meet
      exact ⟨by rw [HN.out, HOI.out], by rw [HN.out, HOE.out], by rw [HN.out, HVA.out], by rw [HN.out]; show Xq p b K L0 w wz _ (i + 1) e.st; rw [HXT.out]; exact HXZ.out⟩
set_option maxHeartbeats 8000000 in
theorem exE16 {p : PaP} {b : Ent} {K L0 : Nat → Int} {w w6 : World} {i oi oe va T gs cs g8 : Nat} {e : Est} {t : List Ent} {lv ov nx k : Int} {iso ft : Bool}
    (OK : Hid (PaOk p)) (HEK : Hid (EstOk b i e)) (HEK2 : Hid (EstOk b (i + 1) (estAt b K p.n (i + 1)))) (HXT : Hid (e.st = ⟨lv, ov, iso⟩ :: t)) (HOI : Hid (oi = e.oi)) (HOE : Hid (oe = e.oe)) (HVA : Hid (va = e.va)) (HNX : Hid (nextB b K p.n i e = nx)) (HFT : Hid (ft = true ↔ fitsB b K p.n i e))
    (HK : Hid (k = K i)) (HE : Hid (e = estAt b K p.n i)) (HST : Hid (estAt b K p.n (i + 1) = estStep b K p.n i e)) (HTL : Hid (T = t.length)) (HBD : Hid (b = ⟨p.base, -1, false⟩)) (HXO : Hid (XOk p w g8 (.slice (some ⟨gs, 0, none⟩) (T + 1) cs)))
    (HY6 : Hid (Yq p b (prt (clE b K p.n) K i) (upd (prt (lvE b K p.n) L0 i) i lv) (prtB (ouE K) (fun _ => false) i) w w6 (.slice (some ⟨gs, 0, none⟩) (T + 1) cs) (⟨lv, ov, iso⟩ :: t) g8 ⟨lv, ov, iso⟩))
    (hin : i < p.n) (hn2 : p.n ≤ 200) (hTs : T + 1 ≤ i + 1) (hoib : oi ≤ i) (hoeb : oe ≤ i) (hvab : va ≤ i) (hxm : 0 ≤ lv ∧ lv ≤ 125) (hxo : -1 ≤ ov ∧ ov ≤ 1) (hsc1 : T + 1 ≤ cs) (hsc2 : cs ≤ maxLen) (hnxb : 0 ≤ nx ∧ nx ≤ 1000) (hbase : p.base = 0 ∨ p.base = 1) (hk : k = 16)
    {s1 s9 s12 s13 s14 s15 s16 s17 s18 s19 s20 s21 s22 s23 s24 s25 s26 s27 s28 s29 s30 s31 s32 s33 s34 s35 s36 s37 s38 s39 s40 s41 s42 s43 s44 s45 s46 s47 s48 s49 s50 s51 s52 s53 s54 s55 s56 s57 s58 s59 s60 s61 s62 s63 s64 s65 s66 s67 s68 s69 s70 s71 s72 s73 s74 s75 s76 s77 s78 s79 s80 s81 s82 s83 s84 s85 s86 s87 s88 s89 s90 s91 s92 s93 s94 s95 s96 s97 s98 s99 s100 s101 s102 s103 s104 s105 s106 s107 s108 s109 s110 s111 s112 s113 s114 s115 s116 s117 s118 s119 s120 s121 s122 s123 s124 s125 s126 s127 s128 s129 s130 s131 s132 s133 s134 s135 s136 s137 s138 s139 s140 s141 s142 s143 s144 s145 s146 s147 s148 s149 s150 s151 s152 s153 s154 s155 s156 s157 s158 s159 s160 s161 s162 s163 s164 s165 s166 s167 s168 s169 s170 s171 s172 s173 s174 s175 s176 s177 s178 s179 s180 s181 s182 s183 s184 s185 s186 s187 s188 s189 s190 s191 s192 s193 s194 s195 s196 s197 s198 s199 s200 s201 s202 s203 s204 s205 s206 s207 s208 s209 s210 s211 s212 s213 s214 s215 s216 s217 s218 s219 s220 s221 s222 s223 s224 s225 s226 s227 s228 s229 s230 s231 s232 s233 s234 s235 s236 s237 s238 s239 s240 s241 s242 : Value} {J K' : Act → World → Prop} {Q : Exit → Act → World → Prop}
    (HPQ : Hid (∀ (c : List PanicEntry) (a a' : Act) (w : World), a.defers = a'.defers → Q (.panic c) a w → Q (.panic c) a' w))
    (hJ : ∀ (a' : Act) (w' : World), (∃ u2 u3 u4 u5 u12 u81 u82 u83 u84 u85 u86 u87 u88 u89 u90 u91 u92 u93 u94 u95 u96 u97 u98 u99 u100 u101 u102 u103 u104 u105 u106 u107 u108 u109 u110 u111 u112 u113 u114 u115 u116 u117 u118 u119 u120 u121 u122 u123 u124 u125 u126 u127 u128 u129 u130 u131 u132 u133 u134 u135 u136 u137 u138 u139 u140 u141 u142 u143 u144 u145 u146 u147 u148 u149 u150 u151 u152 u153 u154 u155 u156 u157 u158 u159 u160 u161 u162 u163 u164 u165 u166 u167 u168 u169 u170 u171 u172 u173 u174 u175 u176 u177 u178 u179 u180 u181 u182 u183 u184 u185 u186 u187 u188 u189 u190 u191 u192 u193 u194 u195 u196 u197 u198 u199 u200 u201 u202 u203 u204 u205 u206 u207 u208 u209 u210 u211 u212 u213 u214 u215 u216 u217 u218 u219 u220 u221 u222 u223 u224 u225 u226 u227 u228 u229 u230 u231 u232 u233 u234 u235 u236 u237 u238 u239 u240 u241 : Value, (u3 = .int .i64 (estAt b K p.n (i + 1)).oi ∧ u4 = .int .i64 (estAt b K p.n (i + 1)).oe ∧ u5 = .int .i64 (estAt b K p.n (i + 1)).va ∧ Xq p b K L0 w w' u2 (i + 1) (estAt b K p.n (i + 1)).st) ∧ a' = ⟨#[.pointer (some ⟨p.pz, 0, none⟩), s1, u2, u3, u4, u5, .int .i64 i, .int .i64 k, .pointer (some ⟨g8, 0, none⟩), s9, .int .i64 nx, .bool ft, u12, s13, s14, s15, s16, s17, s18, s19, s20, s21, s22, s23, s24, s25, s26, s27, s28, s29, s30, s31, s32, s33, s34, s35, s36, s37, s38, s39, s40, s41, s42, s43, s44, s45, s46, s47, s48, s49, s50, s51, s52, s53, s54, s55, s56, s57, s58, s59, s60, s61, s62, s63, s64, s65, s66, s67, s68, s69, s70, s71, s72, s73, s74, s75, s76, s77, s78, s79, s80, u81, u82, u83, u84, u85, u86, u87, u88, u89, u90, u91, u92, u93, u94, u95, u96, u97, u98, u99, u100, u101, u102, u103, u104, u105, u106, u107, u108, u109, u110, u111, u112, u113, u114, u115, u116, u117, u118, u119, u120, u121, u122, u123, u124, u125, u126, u127, u128, u129, u130, u131, u132, u133, u134, u135, u136, u137, u138, u139, u140, u141, u142, u143, u144, u145, u146, u147, u148, u149, u150, u151, u152, u153, u154, u155, u156, u157, u158, u159, u160, u161, u162, u163, u164, u165, u166, u167, u168, u169, u170, u171, u172, u173, u174, u175, u176, u177, u178, u179, u180, u181, u182, u183, u184, u185, u186, u187, u188, u189, u190, u191, u192, u193, u194, u195, u196, u197, u198, u199, u200, u201, u202, u203, u204, u205, u206, u207, u208, u209, u210, u211, u212, u213, u214, u215, u216, u217, u218, u219, u220, u221, u222, u223, u224, u225, u226, u227, u228, u229, u230, u231, u232, u233, u234, u235, u236, u237, u238, u239, u240, u241, s242], []⟩) → J a' w')
    (hK : ∀ (a' : Act) (w' : World), Met J a' w' → K' a' w') :
    Code.wp Tryd.prog (theBlk Tryd.f14 2) (Exit.then K' Q) ⟨#[.pointer (some ⟨p.pz, 0, none⟩), s1, .slice (some ⟨gs, 0, none⟩) (T + 1) cs, .int .i64 oi, .int .i64 oe, .int .i64 va, .int .i64 i, .int .i64 k, .pointer (some ⟨g8, 0, none⟩), s9, .int .i64 nx, .bool ft, s12, s13, s14, s15, s16, s17, s18, s19, s20, s21, s22, s23, s24, s25, s26, s27, s28, s29, s30, s31, s32, s33, s34, s35, s36, s37, s38, s39, s40, s41, s42, s43, s44, s45, s46, s47, s48, s49, s50, s51, s52, s53, s54, s55, s56, s57, s58, s59, s60, s61, s62, s63, s64, s65, s66, s67, s68, s69, s70, s71, s72, s73, s74, s75, s76, s77, s78, s79, s80, s81, s82, s83, s84, s85, s86, s87, s88, s89, s90, s91, s92, s93, s94, s95, s96, s97, s98, s99, s100, s101, s102, s103, s104, s105, s106, s107, s108, s109, s110, s111, s112, s113, s114, s115, s116, s117, s118, s119, s120, s121, s122, s123, s124, s125, s126, s127, s128, s129, s130, s131, s132, s133, s134, s135, s136, s137, s138, s139, s140, s141, s142, s143, s144, s145, s146, s147, s148, s149, s150, s151, s152, s153, s154, s155, s156, s157, s158, s159, s160, s161, s162, s163, s164, s165, s166, s167, s168, s169, s170, s171, s172, s173, s174, s175, s176, s177, s178, s179, s180, s181, s182, s183, s184, s185, s186, s187, s188, s189, s190, s191, s192, s193, s194, s195, s196, s197, s198, s199, s200, s201, s202, s203, s204, s205, s206, s207, s208, s209, s210, s211, s212, s213, s214, s215, s216, s217, s218, s219, s220, s221, s222, s223, s224, s225, s226, s227, s228, s229, s230, s231, s232, s233, s234, s235, s236, s237, s238, s239, s240, s241, s242], []⟩ w6 := by
  subst hk
  have h1 : isEmb (K i) := by have hk2 := HK.out; unfold isEmb; omega
  have HES := Lib.hid (show estAt b K p.n (i + 1) = if fitsB b K p.n i e then { e with st := ⟨nx, 0, false⟩ :: e.st } else if e.oi = 0 then { e with oe := e.oe + 1 } else e by
    rw [HST.out]; unfold estStep
    rw [if_pos h1, HNX.out, show ovrOf (K i) = 0 by rw [← HK.out]; decide])
  clear h1
  have HDC := Lib.hid (show decB b K p.n i = ⟨lv, ov, iso⟩ by
    have hk2 := HK.out
    unfold decB; rw [if_neg (by omega), ← HE.out, HXT.out]; rfl)
  have HOU := Lib.hid (show ouE K i = true by have hk2 := HK.out; unfold ouE; rw [decide_eq_true_eq]; omega)
  have HCL := Lib.hid (show clE b K p.n i = K i by unfold clE; rw [if_pos (.inl HOU.out)])
  have HLV := Lib.hid (show lvE b K p.n i = lv by have hk2 := HK.out; unfold lvE; rw [if_neg (by omega), HDC.out])
  have c4 : w6.cell? ⟨p.pz, 4, none⟩ = _ := HY6.out.pa.par.cell (i := 4) rfl
  have z1 := HY6.out.pa.out.frozen i
  have z2 := HY6.out.pa.out.cell hin
  have h8 := HY6.out.setO (i := i) OK.out HXO.out true
  obtain ⟨w7, hw7⟩ : ∃ w7, w7 = w6.setCell ⟨p.go, i, none⟩ (.bool true) := ⟨_, rfl⟩
  rw [← hw7] at h8
  have HX7 := Lib.hid (show Xq p b K L0 w w7 (.slice (some ⟨gs, 0, none⟩) (T + 1) cs) (i + 1) (⟨lv, ov, iso⟩ :: t) from
    ⟨h8.pa.congr (fun j _ => prt_same HCL.out j) (fun j _ => prt_set _ _ i HLV.out j) (fun j _ => prtB_set _ _ i HOU.out j), h8.st, h8.sv⟩)
  clear h8
  conv => arg 2; whnf
  go_upto_region 15 with fail
  rw [← hw7]
  clear hw7 z1 z2 c4 HY6
  obtain ⟨wz, hwz⟩ : ∃ wz, wz = w7.alloc (Obj.cells #[.int .i64 nx, .int .i64 (0), .bool false] 60) := ⟨_, rfl⟩
  have HXZ := Lib.hid (show Xq p b K L0 w wz (.slice (some ⟨gs, 0, none⟩) (T + 1) cs) (i + 1) (⟨lv, ov, iso⟩ :: t) by
    rw [hwz]; exact ⟨HX7.out.pa.alloc _, HX7.out.st.below ((Below.refl _ _).alloc (Nat.le_refl _) _) (Nat.le_refl _), HX7.out.sv.alloc _⟩)
  have qz : Blk wz w7.heap.size #[.int .i64 nx, .int .i64 (0), .bool false] 60 := by rw [hwz]; exact Blk.new _ _ _
  go_upto_region 20 with fail
  rw [← hwz]
  have q0 : wz.cell? ⟨w7.heap.size, 0, none⟩ = some (.int .i64 nx) := qz.cell (i := 0) rfl
  have q1 : wz.cell? ⟨w7.heap.size, 1, none⟩ = some (.int .i64 (0)) := qz.cell (i := 1) rfl
  have q2 : wz.cell? ⟨w7.heap.size, 2, none⟩ = some (.bool false) := qz.cell (i := 2) rfl
  have qlt := qz.lt
  clear qz hwz HX7
  cases ft with
  | true =>
    have HN := Lib.hid (HES.out.trans (if_pos (HFT.out.1 rfl)))
    obtain ⟨xs, hown0, hxl, hxs⟩ := HXZ.out.st.own
    have HX := Lib.hid hown0
    have HXL := Lib.hid hxl
    have HXS := Lib.hid hxs
    obtain ⟨ii, hii, hz0, hz1, hz2⟩ := info_parts (show (Tryd.prog.info? 60).map (fun i => (i.zero, i.size, i.bytes)) = some (some (.agg #[.int .i64 0, .int .i64 0, .bool false]), 3, 24) by kernel_rfl)
    have hsl3 : (Ent.mk lv ov iso :: t).length = T + 1 := by rw [HTL.out]; rfl
    rw [hsl3] at HX HXL HXS
    have hlowz := HXZ.out.sv.size
    clear hown0 hxl hxs
    go_wp2_with (at_builtin; go_loud (refine wpList_append_own _ rfl _ _ 61 rfl (w.heap.size) 60 ii _ 3 24 Tryd.underlying61 hii hz0 hz1 hz2 rfl (by decide) _ _ _ rfl (RowL.alloc HX.out _) ⟨wz.heap.size, 0, none⟩ 1 1 [.int .i64 nx, .int .i64 (0), .bool false] rfl rfl ?k1a ?k2a ?k3a ?k4a ?k5a ?_))
    try (case k1a =>
      intro j u hj
      have e : Addr.add ⟨wz.heap.size, 0, none⟩ j = ⟨wz.heap.size, j, none⟩ := by simp [Addr.add] <;> omega
      rw [e]
      exact cellNew3 (by simpa using hj))
    try (case k2a => first | exact ⟨rfl, rfl, rfl⟩ | (intro u hu; simp at hu; rcases hu with rfl | rfl | rfl <;> rfl))
    try (case k3a => unfold maxLen; (try simp); (try omega))
    try (case k4a => (try simp); (try omega))
    try (case k5a => (try simp); (try omega))
    intro v5 w5 hown hgrow _
    have HX5 := Lib.hid (Xq.push (y := ⟨nx, 0, false⟩) HXZ.out HXO.out.low hgrow (by rw [hsl3]; exact hown) (by rw [hsl3]; exact HXL.out) (by rw [hsl3]; exact HXS.out))
    clear hown hgrow hii hz0 hz1 hz2 HX HXS HXL hsl3
    go_wp2_with fail
    go_meet
    exact ⟨by rw [HN.out, HOI.out], by rw [HN.out, HOE.out], by rw [HN.out, HVA.out], by rw [HN.out]; show Xq p b K L0 w w5 _ (i + 1) (⟨nx, 0, false⟩ :: e.st); rw [HXT.out]; exact HX5.out⟩
  | false =>
    have HN1 := Lib.hid (HES.out.trans (if_neg (fun h => absurd (HFT.out.2 h) (by decide))))
    by_cases hoi0 : oi = 0
    · have HN := Lib.hid (HN1.out.trans (if_pos (by rw [← HOI.out]; exact hoi0)))
      have hoi1 : ((oi : Int) == 0) = true := by simp [hoi0]
      have HZ := Lib.hid hoi0
      clear hoi0
      go_wp2_with fail
      go_meet
      exact ⟨by rw [HN.out, HOI.out], by rw [HN.out, HOE.out]; rfl, by rw [HN.out, HVA.out], by rw [HN.out]; show Xq p b K L0 w wz _ (i + 1) e.st; rw [HXT.out]; exact HXZ.out⟩
    · have HN := Lib.hid (HN1.out.trans (if_neg (by rw [← HOI.out]; exact hoi0)))
      have hoi1 : ((oi : Int) == 0) = false := by simp [hoi0]
      clear hoi0
      go_wp2_with fail
      go_meet
      exact ⟨by rw [HN.out, HOI.out], by rw [HN.out, HOE.out], by rw [HN.out, HVA.out], by rw [HN.out]; show Xq p b K L0 w wz _ (i + 1) e.st; rw [HXT.out]; exact HXZ.out⟩
set_option maxHeartbeats 8000000 in
theorem exE17 {p : PaP} {b : Ent} {K L0 : Nat → Int} {w w6 : World} {i oi oe va T gs cs g8 : Nat} {e : Est} {t : List Ent} {lv ov nx k : Int} {iso ft : Bool}
    (OK : Hid (PaOk p)) (HEK : Hid (EstOk b i e)) (HEK2 : Hid (EstOk b (i + 1) (estAt b K p.n (i + 1)))) (HXT : Hid (e.st = ⟨lv, ov, iso⟩ :: t)) (HOI : Hid (oi = e.oi)) (HOE : Hid (oe = e.oe)) (HVA : Hid (va = e.va)) (HNX : Hid (nextB b K p.n i e = nx)) (HFT : Hid (ft = true ↔ fitsB b K p.n i e))
    (HK : Hid (k = K i)) (HE : Hid (e = estAt b K p.n i)) (HST : Hid (estAt b K p.n (i + 1) = estStep b K p.n i e)) (HTL : Hid (T = t.length)) (HBD : Hid (b = ⟨p.base, -1, false⟩)) (HXO : Hid (XOk p w g8 (.slice (some ⟨gs, 0, none⟩) (T + 1) cs)))
    (HY6 : Hid (Yq p b (prt (clE b K p.n) K i) (upd (prt (lvE b K p.n) L0 i) i lv) (prtB (ouE K) (fun _ => false) i) w w6 (.slice (some ⟨gs, 0, none⟩) (T + 1) cs) (⟨lv, ov, iso⟩ :: t) g8 ⟨lv, ov, iso⟩))
    (hin : i < p.n) (hn2 : p.n ≤ 200) (hTs : T + 1 ≤ i + 1) (hoib : oi ≤ i) (hoeb : oe ≤ i) (hvab : va ≤ i) (hxm : 0 ≤ lv ∧ lv ≤ 125) (hxo : -1 ≤ ov ∧ ov ≤ 1) (hsc1 : T + 1 ≤ cs) (hsc2 : cs ≤ maxLen) (hnxb : 0 ≤ nx ∧ nx ≤ 1000) (hbase : p.base = 0 ∨ p.base = 1) (hk : k = 17)
    {s1 s9 s12 s13 s14 s15 s16 s17 s18 s19 s20 s21 s22 s23 s24 s25 s26 s27 s28 s29 s30 s31 s32 s33 s34 s35 s36 s37 s38 s39 s40 s41 s42 s43 s44 s45 s46 s47 s48 s49 s50 s51 s52 s53 s54 s55 s56 s57 s58 s59 s60 s61 s62 s63 s64 s65 s66 s67 s68 s69 s70 s71 s72 s73 s74 s75 s76 s77 s78 s79 s80 s81 s82 s83 s84 s85 s86 s87 s88 s89 s90 s91 s92 s93 s94 s95 s96 s97 s98 s99 s100 s101 s102 s103 s104 s105 s106 s107 s108 s109 s110 s111 s112 s113 s114 s115 s116 s117 s118 s119 s120 s121 s122 s123 s124 s125 s126 s127 s128 s129 s130 s131 s132 s133 s134 s135 s136 s137 s138 s139 s140 s141 s142 s143 s144 s145 s146 s147 s148 s149 s150 s151 s152 s153 s154 s155 s156 s157 s158 s159 s160 s161 s162 s163 s164 s165 s166 s167 s168 s169 s170 s171 s172 s173 s174 s175 s176 s177 s178 s179 s180 s181 s182 s183 s184 s185 s186 s187 s188 s189 s190 s191 s192 s193 s194 s195 s196 s197 s198 s199 s200 s201 s202 s203 s204 s205 s206 s207 s208 s209 s210 s211 s212 s213 s214 s215 s216 s217 s218 s219 s220 s221 s222 s223 s224 s225 s226 s227 s228 s229 s230 s231 s232 s233 s234 s235 s236 s237 s238 s239 s240 s241 s242 : Value} {J K' : Act → World → Prop} {Q : Exit → Act → World → Prop}
    (HPQ : Hid (∀ (c : List PanicEntry) (a a' : Act) (w : World), a.defers = a'.defers → Q (.panic c) a w → Q (.panic c) a' w))
    (hJ : ∀ (a' : Act) (w' : World), (∃ u2 u3 u4 u5 u12 u81 u82 u83 u84 u85 u86 u87 u88 u89 u90 u91 u92 u93 u94 u95 u96 u97 u98 u99 u100 u101 u102 u103 u104 u105 u106 u107 u108 u109 u110 u111 u112 u113 u114 u115 u116 u117 u118 u119 u120 u121 u122 u123 u124 u125 u126 u127 u128 u129 u130 u131 u132 u133 u134 u135 u136 u137 u138 u139 u140 u141 u142 u143 u144 u145 u146 u147 u148 u149 u150 u151 u152 u153 u154 u155 u156 u157 u158 u159 u160 u161 u162 u163 u164 u165 u166 u167 u168 u169 u170 u171 u172 u173 u174 u175 u176 u177 u178 u179 u180 u181 u182 u183 u184 u185 u186 u187 u188 u189 u190 u191 u192 u193 u194 u195 u196 u197 u198 u199 u200 u201 u202 u203 u204 u205 u206 u207 u208 u209 u210 u211 u212 u213 u214 u215 u216 u217 u218 u219 u220 u221 u222 u223 u224 u225 u226 u227 u228 u229 u230 u231 u232 u233 u234 u235 u236 u237 u238 u239 u240 u241 : Value, (u3 = .int .i64 (estAt b K p.n (i + 1)).oi ∧ u4 = .int .i64 (estAt b K p.n (i + 1)).oe ∧ u5 = .int .i64 (estAt b K p.n (i + 1)).va ∧ Xq p b K L0 w w' u2 (i + 1) (estAt b K p.n (i + 1)).st) ∧ a' = ⟨#[.pointer (some ⟨p.pz, 0, none⟩), s1, u2, u3, u4, u5, .int .i64 i, .int .i64 k, .pointer (some ⟨g8, 0, none⟩), s9, .int .i64 nx, .bool ft, u12, s13, s14, s15, s16, s17, s18, s19, s20, s21, s22, s23, s24, s25, s26, s27, s28, s29, s30, s31, s32, s33, s34, s35, s36, s37, s38, s39, s40, s41, s42, s43, s44, s45, s46, s47, s48, s49, s50, s51, s52, s53, s54, s55, s56, s57, s58, s59, s60, s61, s62, s63, s64, s65, s66, s67, s68, s69, s70, s71, s72, s73, s74, s75, s76, s77, s78, s79, s80, u81, u82, u83, u84, u85, u86, u87, u88, u89, u90, u91, u92, u93, u94, u95, u96, u97, u98, u99, u100, u101, u102, u103, u104, u105, u106, u107, u108, u109, u110, u111, u112, u113, u114, u115, u116, u117, u118, u119, u120, u121, u122, u123, u124, u125, u126, u127, u128, u129, u130, u131, u132, u133, u134, u135, u136, u137, u138, u139, u140, u141, u142, u143, u144, u145, u146, u147, u148, u149, u150, u151, u152, u153, u154, u155, u156, u157, u158, u159, u160, u161, u162, u163, u164, u165, u166, u167, u168, u169, u170, u171, u172, u173, u174, u175, u176, u177, u178, u179, u180, u181, u182, u183, u184, u185, u186, u187, u188, u189, u190, u191, u192, u193, u194, u195, u196, u197, u198, u199, u200, u201, u202, u203, u204, u205, u206, u207, u208, u209, u210, u211, u212, u213, u214, u215, u216, u217, u218, u219, u220, u221, u222, u223, u224, u225, u226, u227, u228, u229, u230, u231, u232, u233, u234, u235, u236, u237, u238, u239, u240, u241, s242], []⟩) → J a' w')
    (hK : ∀ (a' : Act) (w' : World), Met J a' w' → K' a' w') :
    Code.wp Tryd.prog (theBlk Tryd.f14 2) (Exit.then K' Q) ⟨#[.pointer (some ⟨p.pz, 0, none⟩), s1, .slice (some ⟨gs, 0, none⟩) (T + 1) cs, .int .i64 oi, .int .i64 oe, .int .i64 va, .int .i64 i, .int .i64 k, .pointer (some ⟨g8, 0, none⟩), s9, .int .i64 nx, .bool ft, s12, s13, s14, s15, s16, s17, s18, s19, s20, s21, s22, s23, s24, s25, s26, s27, s28, s29, s30, s31, s32, s33, s34, s35, s36, s37, s38, s39, s40, s41, s42, s43, s44, s45, s46, s47, s48, s49, s50, s51, s52, s53, s54, s55, s56, s57, s58, s59, s60, s61, s62, s63, s64, s65, s66, s67, s68, s69, s70, s71, s72, s73, s74, s75, s76, s77, s78, s79, s80, s81, s82, s83, s84, s85, s86, s87, s88, s89, s90, s91, s92, s93, s94, s95, s96, s97, s98, s99, s100, s101, s102, s103, s104, s105, s106, s107, s108, s109, s110, s111, s112, s113, s114, s115, s116, s117, s118, s119, s120, s121, s122, s123, s124, s125, s126, s127, s128, s129, s130, s131, s132, s133, s134, s135, s136, s137, s138, s139, s140, s141, s142, s143, s144, s145, s146, s147, s148, s149, s150, s151, s152, s153, s154, s155, s156, s157, s158, s159, s160, s161, s162, s163, s164, s165, s166, s167, s168, s169, s170, s171, s172, s173, s174, s175, s176, s177, s178, s179, s180, s181, s182, s183, s184, s185, s186, s187, s188, s189, s190, s191, s192, s193, s194, s195, s196, s197, s198, s199, s200, s201, s202, s203, s204, s205, s206, s207, s208, s209, s210, s211, s212, s213, s214, s215, s216, s217, s218, s219, s220, s221, s222, s223, s224, s225, s226, s227, s228, s229, s230, s231, s232, s233, s234, s235, s236, s237, s238, s239, s240, s241, s242], []⟩ w6 := by
  subst hk
  have h1 : isEmb (K i) := by have hk2 := HK.out; unfold isEmb; omega
  have HES := Lib.hid (show estAt b K p.n (i + 1) = if fitsB b K p.n i e then { e with st := ⟨nx, 1, false⟩ :: e.st } else if e.oi = 0 then { e with oe := e.oe + 1 } else e by
    rw [HST.out]; unfold estStep
    rw [if_pos h1, HNX.out, show ovrOf (K i) = 1 by rw [← HK.out]; decide])
  clear h1
  have HDC := Lib.hid (show decB b K p.n i = ⟨lv, ov, iso⟩ by
    have hk2 := HK.out
    unfold decB; rw [if_neg (by omega), ← HE.out, HXT.out]; rfl)
  have HOU := Lib.hid (show ouE K i = true by have hk2 := HK.out; unfold ouE; rw [decide_eq_true_eq]; omega)
  have HCL := Lib.hid (show clE b K p.n i = K i by unfold clE; rw [if_pos (.inl HOU.out)])
  have HLV := Lib.hid (show lvE b K p.n i = lv by have hk2 := HK.out; unfold lvE; rw [if_neg (by omega), HDC.out])
  have c4 : w6.cell? ⟨p.pz, 4, none⟩ = _ := HY6.out.pa.par.cell (i := 4) rfl
  have z1 := HY6.out.pa.out.frozen i
  have z2 := HY6.out.pa.out.cell hin
  have h8 := HY6.out.setO (i := i) OK.out HXO.out true
  obtain ⟨w7, hw7⟩ : ∃ w7, w7 = w6.setCell ⟨p.go, i, none⟩ (.bool true) := ⟨_, rfl⟩
  rw [← hw7] at h8
  have HX7 := Lib.hid (show Xq p b K L0 w w7 (.slice (some ⟨gs, 0, none⟩) (T + 1) cs) (i + 1) (⟨lv, ov, iso⟩ :: t) from
    ⟨h8.pa.congr (fun j _ => prt_same HCL.out j) (fun j _ => prt_set _ _ i HLV.out j) (fun j _ => prtB_set _ _ i HOU.out j), h8.st, h8.sv⟩)
  clear h8
  conv => arg 2; whnf
  go_upto_region 15 with fail
  rw [← hw7]
  clear hw7 z1 z2 c4 HY6
  obtain ⟨wz, hwz⟩ : ∃ wz, wz = w7.alloc (Obj.cells #[.int .i64 nx, .int .i64 (1), .bool false] 60) := ⟨_, rfl⟩
  have HXZ := Lib.hid (show Xq p b K L0 w wz (.slice (some ⟨gs, 0, none⟩) (T + 1) cs) (i + 1) (⟨lv, ov, iso⟩ :: t) by
    rw [hwz]; exact ⟨HX7.out.pa.alloc _, HX7.out.st.below ((Below.refl _ _).alloc (Nat.le_refl _) _) (Nat.le_refl _), HX7.out.sv.alloc _⟩)
  have qz : Blk wz w7.heap.size #[.int .i64 nx, .int .i64 (1), .bool false] 60 := by rw [hwz]; exact Blk.new _ _ _
  go_upto_region 20 with fail
  rw [← hwz]
  have q0 : wz.cell? ⟨w7.heap.size, 0, none⟩ = some (.int .i64 nx) := qz.cell (i := 0) rfl
  have q1 : wz.cell? ⟨w7.heap.size, 1, none⟩ = some (.int .i64 (1)) := qz.cell (i := 1) rfl
  have q2 : wz.cell? ⟨w7.heap.size, 2, none⟩ = some (.bool false) := qz.cell (i := 2) rfl
  have qlt := qz.lt
  clear qz hwz HX7
  cases ft with
  | true =>
    have HN := Lib.hid (HES.out.trans (if_pos (HFT.out.1 rfl)))
    obtain ⟨xs, hown0, hxl, hxs⟩ := HXZ.out.st.own
    have HX := Lib.hid hown0
    have HXL := Lib.hid hxl
    have HXS := Lib.hid hxs
    obtain ⟨ii, hii, hz0, hz1, hz2⟩ := info_parts (show (Tryd.prog.info? 60).map (fun i => (i.zero, i.size, i.bytes)) = some (some (.agg #[.int .i64 0, .int .i64 0, .bool false]), 3, 24) by kernel_rfl)
    have hsl3 : (Ent.mk lv ov iso :: t).length = T + 1 := by rw [HTL.out]; rfl
    rw [hsl3] at HX HXL HXS
    have hlowz := HXZ.out.sv.size
    clear hown0 hxl hxs
    go_wp2_with (at_builtin; go_loud (refine wpList_append_own _ rfl _ _ 61 rfl (w.heap.size) 60 ii _ 3 24 Tryd.underlying61 hii hz0 hz1 hz2 rfl (by decide) _ _ _ rfl (RowL.alloc HX.out _) ⟨wz.heap.size, 0, none⟩ 1 1 [.int .i64 nx, .int .i64 (1), .bool false] rfl rfl ?k1a ?k2a ?k3a ?k4a ?k5a ?_))
    try (case k1a =>
      intro j u hj
      have e : Addr.add ⟨wz.heap.size, 0, none⟩ j = ⟨wz.heap.size, j, none⟩ := by simp [Addr.add] <;> omega
      rw [e]
      exact cellNew3 (by simpa using hj))
    try (case k2a => first | exact ⟨rfl, rfl, rfl⟩ | (intro u hu; simp at hu; rcases hu with rfl | rfl | rfl <;> rfl))
    try (case k3a => unfold maxLen; (try simp); (try omega))
    try (case k4a => (try simp); (try omega))
    try (case k5a => (try simp); (try omega))
    intro v5 w5 hown hgrow _
    have HX5 := Lib.hid (Xq.push (y := ⟨nx, 1, false⟩) HXZ.out HXO.out.low hgrow (by rw [hsl3]; exact hown) (by rw [hsl3]; exact HXL.out) (by rw [hsl3]; exact HXS.out))
    clear hown hgrow hii hz0 hz1 hz2 HX HXS HXL hsl3
    go_wp2_with fail
    go_meet
    exact ⟨by rw [HN.out, HOI.out], by rw [HN.out, HOE.out], by rw [HN.out, HVA.out], by rw [HN.out]; show Xq p b K L0 w w5 _ (i + 1) (⟨nx, 1, false⟩ :: e.st); rw [HXT.out]; exact HX5.out⟩
  | false =>
    have HN1 := Lib.hid (HES.out.trans (if_neg (fun h => absurd (HFT.out.2 h) (by decide))))
    by_cases hoi0 : oi = 0
    · have HN := Lib.hid (HN1.out.trans (if_pos (by rw [← HOI.out]; exact hoi0)))
      have hoi1 : ((oi : Int) == 0) = true := by simp [hoi0]
      have HZ := Lib.hid hoi0
      clear hoi0
      go_wp2_with fail
      go_meet
      exact ⟨by rw [HN.out, HOI.out], by rw [HN.out, HOE.out]; rfl, by rw [HN.out, HVA.out], by rw [HN.out]; show Xq p b K L0 w wz _ (i + 1) e.st; rw [HXT.out]; exact HXZ.out⟩
    · have HN := Lib.hid (HN1.out.trans (if_neg (by rw [← HOI.out]; exact hoi0)))
      have hoi1 : ((oi : Int) == 0) = false := by simp [hoi0]
      clear hoi0
      go_wp2_with fail
      go_meet
      exact ⟨by rw [HN.out, HOI.out], by rw [HN.out, HOE.out], by rw [HN.out, HVA.out], by rw [HN.out]; show Xq p b K L0 w wz _ (i + 1) e.st; rw [HXT.out]; exact HXZ.out⟩
end Go.Proofs.YtojbicdmcodgdaaDoor.BD
