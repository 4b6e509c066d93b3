/-
  BdRPkA, BdRPkB, BdRPkC, BdRPkD.
-/
import Derived.Test.YtojbicdmcodgdaaDoorBdM19
import Derived.Test.YtojbicdmcodgdaaDoorBdM08
import Derived.BigQuiet
import Derived.Deep.CutRange
import Derived.Deep.CutBlock
import Derived.Test.YtojbicdmcodgdaaDoorBdM07
import Derived.Test.YtojbicdmcodgdaaDoorBdM02
namespace Go.Proofs.YtojbicdmcodgdaaDoor.BD
open Go.RowKit Go.Law Go.Law.Bd
set_option linter.unusedVariables false
set_option linter.unusedSimpArgs false
set_option maxRecDepth 100000
theorem ret_then2 {F : Act → World → Prop} {Q : Exit → Act → World → Prop} {a : Act} {w : World} (h : Q .ret a w) : Exit.then F Q .ret a w := h
theorem ret_block2 {id : Nat} {Q : Exit → Act → World → Prop} {a : Act} {w : World} (h : Q .ret a w) : Exit.inBlock id Q .ret a w := h
set_option maxHeartbeats 16000000 in
theorem pkCouples {p : WdP} {F T : Nat → Int} {w0 wb wA : World} {bs bo gm b i bb boff bcap oc0 : Nat} {oa0 : Option Addr} {s : Bkt} (OK : Hid (WdOk p)) (HWS : Hid (Ws p F b w0 wb)) (hbse : bs = wb.heap.size) (HBS : Hid (bs ≤ gm)) (HBO : Hid (gm < bo)) (HBW : Hid (bs ≤ wb.heap.size))
    (HG1 : Hid (wb.cell? ⟨0, 0, none⟩ = some (.slice (some ⟨bb, boff, none⟩) 4 bcap))) (HG3 : Hid (∀ i j, i < 4 → j < 2 → wb.cell? ⟨bb, boff + i * 2 + j, none⟩ = some (.int .i64 (ent coupleT i j))))
    (HTD : Hid (∀ k, T k = p.T (p.A k))) (hin : i < p.m) (hOK : BktOk i s) (hpi : s.pr.length ≤ i) (HS : Hid (bkAt T F i = some s)) (HP0 : Hid (PkS bs bo gm p.m s (.slice oa0 s.op.length oc0) wb wA))
    {s0 s4 s7 s8 s9 s10 s11 s12 s13 s14 s15 s16 s17 s18 s19 s20 s21 s22 s23 s24 s25 s26 s27 s28 s29 s30 s31 s32 s33 s34 s35 s36 s37 s38 s39 s40 s41 s42 s43 s47 s48 s49 s50 s51 s52 s53 s54 s55 s56 s57 s58 s59 s60 s61 s62 s63 s64 s65 s66 s67 s68 s69 s70 s71 s72 s73 s74 s75 s76 s77 s78 s79 s80 s81 s82 s83 s84 s85 s86 s87 s88 s89 s90 s91 s92 s93 s94 s95 s96 s97 s98 s99 s100 s101 s102 s103 s104 s105 s106 s107 s108 s109 s110 s111 s112 s113 s114 s115 s116 s117 s118 s119 s120 s121 s122 s123 s124 s125 s126 s127 s128 s129 s130 s131 s132 s133 s134 s135 s136 s137 s138 s139 s140 s141 s142 s143 s144 s145 s146 s147 s148 s149 s150 s151 s152 s153 s154 s155 s156 s157 s158 s159 s160 s161 s162 s163 s164 s165 s166 s167 s168 s169 s170 s171 s172 s173 s174 s175 s176 s177 s178 s179 s180 s181 s182 s183 s184 s185 s186 s187 s188 s189 s190 s191 s192 s193 s194 s195 s196 s197 s198 s199 s200 s201 s202 s203 s204 s205 s206 s207 s208 : Value} {J K' : Act → World → Prop} {Q : Exit → Act → World → Prop}
    (hR : ∀ (a' : Act) (w' : World), a'.defers = [] → bkAt T F (i + 1) = none → Below bs wb w' → Q .ret a' w')
    (hJ : ∀ (a' : Act) (w' : World), (∃ u3 u8 u9 u46 u47 u48 u49 u50 u51 u52 u53 u54 u55 u56 u57 u58 u59 u60 u61 u62 u63 u64 u65 u66 u67 u68 u69 u70 u71 u72 u73 u74 u75 u76 u77 u78 u79 u80 u81 u82 u83 u84 u85 u86 u87 u88 u89 u90 u91 u92 u93 u94 u95 u96 u97 u98 u99 u100 u101 u102 u103 u104 u105 u106 u107 u108 u109 u110 u111 u112 : Value, (∃ s' oa oc, u3 = .slice oa s'.op.length oc ∧ bkAt T F (i + 1) = some s' ∧ PkS bs bo gm p.m s' (.slice oa s'.op.length oc) wb w') ∧ a' = ⟨#[s0, .pointer (some ⟨b, 0, none⟩), .slice (some ⟨gm, 0, none⟩) p.m p.m, u3, s4, .int .i64 i, .int .i64 (p.A i : Nat), s7, u8, u9, s10, s11, s12, s13, s14, s15, s16, s17, s18, s19, s20, s21, s22, s23, s24, s25, s26, s27, s28, s29, s30, s31, s32, s33, s34, s35, s36, s37, s38, s39, s40, s41, s42, s43, .slice (some ⟨bb, boff, none⟩) 4 bcap, .int .i64 4, u46, u47, u48, u49, u50, u51, u52, u53, u54, u55, u56, u57, u58, u59, u60, u61, u62, u63, u64, u65, u66, u67, u68, u69, u70, u71, u72, u73, u74, u75, u76, u77, u78, u79, u80, u81, u82, u83, u84, u85, u86, u87, u88, u89, u90, u91, u92, u93, u94, u95, u96, u97, u98, u99, u100, u101, u102, u103, u104, u105, u106, u107, u108, u109, u110, u111, u112, s113, s114, s115, s116, s117, s118, s119, s120, s121, s122, s123, s124, s125, s126, s127, s128, s129, s130, s131, s132, s133, s134, s135, s136, s137, s138, s139, s140, s141, s142, s143, s144, s145, s146, s147, s148, s149, s150, s151, s152, s153, s154, s155, s156, s157, s158, s159, s160, s161, s162, s163, s164, s165, s166, s167, s168, s169, s170, s171, s172, s173, s174, s175, s176, s177, s178, s179, s180, s181, s182, s183, s184, s185, s186, s187, s188, s189, s190, s191, s192, s193, s194, s195, s196, s197, s198, s199, s200, s201, s202, s203, s204, s205, s206, s207, s208], []⟩) → J a' w')
    (hK : ∀ (a' : Act) (w' : World), Met J a' w' → K' a' w') :
    Code.wp Tryd.prog (theBlk Tryd.f29 4) (Exit.then K' Q) ⟨#[s0, .pointer (some ⟨b, 0, none⟩), .slice (some ⟨gm, 0, none⟩) p.m p.m, .slice oa0 s.op.length oc0, s4, .int .i64 i, .int .i64 (p.A i : Nat), s7, s8, s9, s10, s11, s12, s13, s14, s15, s16, s17, s18, s19, s20, s21, s22, s23, s24, s25, s26, s27, s28, s29, s30, s31, s32, s33, s34, s35, s36, s37, s38, s39, s40, s41, s42, s43, .slice (some ⟨bb, boff, none⟩) 4 bcap, .int .i64 4, .int .i64 0, s47, s48, s49, s50, s51, s52, s53, s54, s55, s56, s57, s58, s59, s60, s61, s62, s63, s64, s65, s66, s67, s68, s69, s70, s71, s72, s73, s74, s75, s76, s77, s78, s79, s80, s81, s82, s83, s84, s85, s86, s87, s88, s89, s90, s91, s92, s93, s94, s95, s96, s97, s98, s99, s100, s101, s102, s103, s104, s105, s106, s107, s108, s109, s110, s111, s112, s113, s114, s115, s116, s117, s118, s119, s120, s121, s122, s123, s124, s125, s126, s127, s128, s129, s130, s131, s132, s133, s134, s135, s136, s137, s138, s139, s140, s141, s142, s143, s144, s145, s146, s147, s148, s149, s150, s151, s152, s153, s154, s155, s156, s157, s158, s159, s160, s161, s162, s163, s164, s165, s166, s167, s168, s169, s170, s171, s172, s173, s174, s175, s176, s177, s178, s179, s180, s181, s182, s183, s184, s185, s186, s187, s188, s189, s190, s191, s192, s193, s194, s195, s196, s197, s198, s199, s200, s201, s202, s203, s204, s205, s206, s207, s208], []⟩ wA := by
  have hm := OK.out.m2
  have hn := OK.out.n2
  have hmca := OK.out.mca
  have HI := Lib.hid (info_parts (show (Tryd.prog.info? 3).map (fun i => (i.zero, i.size, i.bytes)) = some (some (.int .i64 0), 1, 8) by kernel_rfl))
  have HOKS := Lib.hid hOK
  have hop63 := hOK.len
  clear hOK
  conv => arg 2; whnf
  go_wp2_with fail
  go_loopw [3, 46] (fun ov jv wr => ∃ (j : Nat) (s1 : Bkt) (oav : Option Addr × Nat), jv = .int .i64 j ∧ j ≤ 4 ∧ ov = .slice oav.1 s1.op.length oav.2 ∧ (if bi (T i) < j then bkStep T F i s else some s) = some s1 ∧ PkS bs bo gm p.m s1 (.slice oav.1 s1.op.length oav.2) wb wr) (fun _ jv _ => 4 - (intOf jv).toNat)
  case atStart => exact ⟨0, s, (oa0, oc0), rfl, by omega, rfl, by rw [if_neg (by omega)], HP0.out⟩
  case round =>
    clear HP0
    obtain ⟨j, s1, ⟨oa, oc⟩, rfl, hj, rfl, hs1, hp⟩ := hrel
    simp only at hp ⊢
    have HP := Lib.hid hp
    have HS1 := Lib.hid hs1
    clear hp hs1
    by_cases hj4 : j < 4
    case neg =>
      obtain rfl : j = 4 := by omega
      have HN := Lib.hid (show bkAt T F (i + 1) = some s1 by
        rw [bkAt, HS.out]
        show bkStep T F i s = some s1
        have h1 := HS1.out
        by_cases hb : bi (T i) < 4
        · rw [if_pos hb] at h1; exact h1
        · rw [if_neg hb] at h1
          rw [bk_four (by have := bi_le (T i); omega)]; exact h1)
      go_wp2_with fail
      go_meet
      exact ⟨s1, oa, oc, rfl, HN.out, HP.out⟩
    have hbel := HP.out.bel
    have hsz := hbel.size
    have d0 : wr.cell? ⟨bb, boff + j * 2, none⟩ = some (.int .i64 (ent coupleT j 0)) := bel_cell3 (hbse ▸ hbel) (HG3.out j 0 (by omega) (by omega))
    have d1 : wr.cell? ⟨bb, boff + j * 2 + 1, none⟩ = some (.int .i64 (ent coupleT j 1)) := bel_cell3 (hbse ▸ hbel) (HG3.out j 1 (by omega) (by omega))
    obtain ⟨x0, hx0⟩ : ∃ x, x = ent bracketsT j 0 := ⟨_, rfl⟩
    obtain ⟨x1, hx1⟩ : ∃ x, x = ent bracketsT j 1 := ⟨_, rfl⟩
    rw [couple_same j hj4 0 (by omega), ← hx0] at d0
    rw [couple_same j hj4 1 (by omega), ← hx1] at d1
    have HX0 := Lib.hid hx0
    have HX1 := Lib.hid hx1
    clear hx0 hx1
    have hj4i : (j : Int) < 4 := by omega
    obtain ⟨wz, hwz⟩ : ∃ wz, wz = wr.alloc (Obj.cells #[.int .i64 x0, .int .i64 x1] 69) := ⟨_, rfl⟩
    have hszr : bs ≤ wr.heap.size := by omega
    have HPZ := Lib.hid (HP.out.under (w' := wz) (by rw [hwz]; exact (Below.refl _ _).alloc (Nat.le_refl _) _) hszr)
    obtain ⟨g, hg⟩ : ∃ g, g = wr.heap.size := ⟨_, rfl⟩
    have HQZ := Lib.hid (show Blk wz g #[.int .i64 x0, .int .i64 x1] 69 by rw [hwz, hg]; exact Blk.new _ _ _)
    have HWZ := Lib.hid (HWS.out.below (hbse ▸ HPZ.out.bel))
    have hgbs : bs ≤ g := by omega
    go_upto_region 14 with fail
    rw [← hwz, ← hg]
    clear hwz hg d0 d1 HP hbel hsz hszr
    obtain ⟨x00, x01, x02, x03, x04⟩ := HWZ.out.box
    have hbl := HWZ.out.bx.lt
    have hsz := HPZ.out.bel.size
    have HG := Lib.hid (wget_any OK.out HWZ.out.wd (i : Int))
    rw [gtW_at hin] at HG
    unfold WdP.cs at HG
    obtain ⟨fi, hfi⟩ : ∃ x, x = F i := ⟨_, rfl⟩
    rw [← hfi] at HG
    have HFI := Lib.hid hfi
    clear hfi
    go_wp2_with fail
    refine HG.out.mono ?_
    rintro e2 w2 ⟨rfl, hb2⟩
    have HP2 := Lib.hid (HPZ.out.under hb2 (by omega))
    have HQ2 := Lib.hid (HQZ.out.below hb2 HQZ.out.lt)
    have HW2 := Lib.hid (HWZ.out.below hb2)
    dsimp only
    clear hb2 HG x00 x01 x02 x03 x04 hbl HPZ HQZ HWZ hsz
    by_cases h13 : fi = 13
    case neg =>
      have hb13 : (fi == 13) = false := by simp [h13]
      have hss : s1 = s := by
        have h1 := HS1.out
        rw [bk_no (by rw [← HFI.out]; exact h13)] at h1
        split at h1 <;> exact (Option.some.inj h1).symm
      subst hss
      have HN := Lib.hid (show (if bi (T i) < j + 1 then bkStep T F i s1 else some s1) = some s1 by
        rw [bk_no (by rw [← HFI.out]; exact h13)]; split <;> rfl)
      clear h13
      go_wp2_with fail
      go_roundw
      case rel => exact ⟨j + 1, s1, (oa, oc), by go_num, by omega, rfl, HN.out, HP2.out⟩
      case measure => simp [intOf]; omega
    have hb13 : (fi == 13) = true := by simp [h13]
    have HF13 := Lib.hid (show F i = 13 by rw [← HFI.out]; exact h13)
    clear h13
    obtain ⟨x00, x01, x02, x03, x04⟩ := HW2.out.box
    have hbl := HW2.out.bx.lt
    obtain ⟨_, _, _, _, tx⟩ := HW2.out.wd.char OK.out hin
    rw [← HTD.out i] at tx
    have hAi := OK.out.pl i hin
    have hAii : ((p.A i : Nat) : Int) < (p.n : Int) := by omega
    have q0 : w2.cell? ⟨g, 0, none⟩ = some (.int .i64 x0) := HQ2.out.cell (i := 0) rfl
    have q1 : w2.cell? ⟨g, 1, none⟩ = some (.int .i64 x1) := HQ2.out.cell (i := 1) rfl
    have hql := HQ2.out.lt
    obtain ⟨c0, hc0⟩ : ∃ c0, c0 = T i := ⟨_, rfl⟩
    rw [← hc0] at tx
    have HC0 := Lib.hid hc0
    clear hc0
    by_cases ho : c0 = x0
    · have hb := bi_open hj4 (HC0.out.symm.trans (ho.trans HX0.out))
      have e0 : (c0 == x0) = true := by simpa using ho
      have e1 : (c0 == x1) = false := by have := hb.2.2.2; rw [← HX1.out] at this; rw [HC0.out]; simpa using this
      have hss : s1 = s := by have := HS1.out; rw [if_neg (by omega)] at this; exact (Option.some.inj this).symm
      subst hss
      have HBK := Lib.hid (bk_open (s := s1) hj4 HF13.out (HC0.out.symm.trans (ho.trans HX0.out)))
      have hbj := hb.1
      clear ho hb
      go_wp2_with fail
      go_quiet (fail)
      obtain ⟨w3, hw3⟩ : ∃ x, x = w2.drewN nq := ⟨_, rfl⟩
      have HP3 := Lib.hid (show PkS bs bo gm p.m s1 (.slice oa s1.op.length oc) wb w3 by rw [hw3]; exact HP2.out.under (below_drewN (Below.refl _ _) nq) (by have := HP2.out.bel.size; omega))
      have HQ3 := Lib.hid (show Blk w3 g #[.int .i64 x0, .int .i64 x1] 69 by rw [hw3]; exact HQ2.out.drewN nq)
      rw [← hw3]
      clear hw3 x00 x01 x02 x03 x04 hbl tx q0 q1 hql HP2 HQ2 HW2
      obtain ⟨xs, hown0, hxs⟩ := HP3.out.op
      have hxl : xs.length = s1.op.length * 1 := hown0.1
      have HX := Lib.hid hown0
      have HXL := Lib.hid hxl
      have HXS := Lib.hid hxs
      obtain ⟨ii, hii, hz0, hz1, hz2⟩ := HI.out
      have hs3 := HP3.out.bel.size
      have hgmb := HBS.out
      have hgmo := HBO.out
      have hbo3 := HP3.out.sz
      clear hown0 hxl hxs
      go_wp2_with (at_builtin; go_loud (refine wpList_append_own _ rfl _ _ 22 rfl bo 3 ii _ 1 8 Tryd.underlying22 hii hz0 hz1 hz2 rfl (by decide) _ _ _ rfl (RowL.alloc HX.out _) ⟨w3.heap.size, 0, none⟩ 1 1 [.int .i64 (i : Int)] rfl rfl ?k1 ?k2 ?k3 ?k4 ?k5 ?_))
      try (case k1 =>
        intro j u hj
        have e : Addr.add ⟨w3.heap.size, 0, none⟩ j = ⟨w3.heap.size, j, none⟩ := by simp [Addr.add] <;> omega
        rw [e]
        exact cellNewS (by simpa using hj))
      try (case k2 => first | rfl | (intro u hu; simp at hu; subst hu; rfl))
      try (case k3 => unfold maxLen; (try simp); (try omega))
      try (case k4 => (try simp); (try omega))
      try (case k5 => (try simp); (try omega))
      intro v5 w5 hown hgrow _
      have HP5 := Lib.hid (HP3.out.push (k := i) (by omega) hgmo hgrow (by omega) hown HXL.out HXS.out)
      have HQ5 := Lib.hid (show Blk w5 g #[.int .i64 x0, .int .i64 x1] 69 from (HQ3.out.alloc _).block (hgrow.block g (HQ3.out.alloc _).lt (fun e => rowI_blk HP3.out.op HQ3.out (by decide) e.symm)))
      obtain ⟨a5, c5, hv5, _, _⟩ := RowL.slice hown
      subst hv5
      have HW5 := Lib.hid (HWS.out.below (hbse ▸ HP5.out.bel))
      clear hown hgrow hii hz0 hz1 hz2 HX HXS HXL HP3 HQ3
      by_cases h63 : s1.op.length = 63
      · have HN := Lib.hid (show bkAt T F (i + 1) = none by rw [bkAt, HS.out]; exact HBK.out.trans (if_pos h63))
        have h63i : (63 : Int) < (s1.op.length : Int) + 1 := by omega
        clear h63 HBK
        go_wp2_with fail
        repeat (with_reducible first | refine ret_then2 ?_ | refine ret_block2 ?_)
        exact hR _ _ rfl HN.out HP5.out.bel
      · have HN := Lib.hid (HBK.out.trans (if_neg h63))
        have h63i : ¬ (63 : Int) < (s1.op.length : Int) + 1 := by omega
        clear h63 HBK
        obtain ⟨x00, x01, x02, x03, x04⟩ := HW5.out.box
        have hbl := HW5.out.bx.lt
        obtain ⟨_, _, _, _, tx⟩ := HW5.out.wd.char OK.out hin
        rw [← HTD.out i, ← HC0.out] at tx
        have q0 : w5.cell? ⟨g, 0, none⟩ = some (.int .i64 x0) := HQ5.out.cell (i := 0) rfl
        have q1 : w5.cell? ⟨g, 1, none⟩ = some (.int .i64 x1) := HQ5.out.cell (i := 1) rfl
        have hql := HQ5.out.lt
        go_wp2_with fail
        go_quiet (fail)
        have HP6 := Lib.hid (HP5.out.under (w' := w5.drewN nq) (below_drewN (Below.refl _ _) nq) (by have := HP5.out.bel.size; omega))
        clear x00 x01 x02 x03 x04 hbl tx q0 q1 hql HP5 HQ5 HW5
        go_wp2_with fail
        go_roundw
        case rel => exact ⟨j + 1, ⟨i :: s1.op, s1.pr⟩, (a5, c5), by go_num, by omega, rfl, by rw [if_pos (by omega)]; exact HN.out, HP6.out⟩
        case measure => simp [intOf]; omega
    have e0 : (c0 == x0) = false := by simpa using ho
    by_cases hc : c0 = x1
    case neg =>
      have e1 : (c0 == x1) = false := by simpa using hc
      have hbn := bi_no hj4 (c := T i) (by rw [← HC0.out, ← HX0.out]; exact ho) (by rw [← HC0.out, ← HX1.out]; exact hc)
      have HN := Lib.hid (show (if bi (T i) < j + 1 then bkStep T F i s else some s) = some s1 by
        have h1 := HS1.out
        by_cases hb : bi (T i) < j
        · rw [if_pos hb] at h1; rw [if_pos (by omega)]; exact h1
        · rw [if_neg hb] at h1; rw [if_neg (by omega)]; exact h1)
      clear ho hc hbn
      go_wp2_with fail
      go_quiet (fail)
      go_wp2_with fail
      obtain ⟨w3, hw3⟩ : ∃ x, x = w2.drewN nq := ⟨_, rfl⟩
      have HP3 := Lib.hid (show PkS bs bo gm p.m s1 (.slice oa s1.op.length oc) wb w3 by rw [hw3]; exact HP2.out.under (below_drewN (Below.refl _ _) nq) (by have := HP2.out.bel.size; omega))
      rw [← hw3]
      have y0 : w3.cell? ⟨b, 0, none⟩ = some (.slice (some ⟨p.g, 0, none⟩) p.n p.cap) := by rw [hw3]; exact x00
      have tx3 : w3.cell? ⟨p.g, p.A i * 5 + 4, none⟩ = some (.int .i64 c0) := by rw [hw3]; exact tx
      have q13 : w3.cell? ⟨g, 1, none⟩ = some (.int .i64 x1) := by rw [hw3]; exact q1
      clear hw3 x00 x01 x02 x03 x04 hbl tx q0 q1 hql HP2 HQ2 HW2
      go_quiet (fail)
      have HP4 := Lib.hid (HP3.out.under (w' := w3.drewN nq) (below_drewN (Below.refl _ _) nq) (by have := HP3.out.bel.size; omega))
      clear y0 tx3 q13 HP3
      go_wp2_with fail
      go_roundw
      case rel => exact ⟨j + 1, s1, (oa, oc), by go_num, by omega, rfl, HN.out, HP4.out⟩
      case measure => simp [intOf]; omega
    have hb := bi_close hj4 (c := T i) (by rw [← HC0.out, hc, HX1.out])
    have e1 : (c0 == x1) = true := by simpa using hc
    have hss : s1 = s := by have := HS1.out; rw [if_neg (by omega)] at this; exact (Option.some.inj this).symm
    subst hss
    have HBK := Lib.hid (bk_close (T := T) (s := s1) hj4 HF13.out (by rw [← HC0.out, hc, HX1.out]))
    rw [← HX0.out] at HBK
    have hbj := hb.1
    clear ho hb hc
    go_wp2_with fail
    go_quiet (fail)
    go_wp2_with fail
    obtain ⟨w3, hw3⟩ : ∃ x, x = w2.drewN nq := ⟨_, rfl⟩
    have HP3 := Lib.hid (show PkS bs bo gm p.m s1 (.slice oa s1.op.length oc) wb w3 by rw [hw3]; exact HP2.out.under (below_drewN (Below.refl _ _) nq) (by have := HP2.out.bel.size; omega))
    have HQ3 := Lib.hid (show Blk w3 g #[.int .i64 x0, .int .i64 x1] 69 by rw [hw3]; exact HQ2.out.drewN nq)
    rw [← hw3]
    have y0 : w3.cell? ⟨b, 0, none⟩ = some (.slice (some ⟨p.g, 0, none⟩) p.n p.cap) := by rw [hw3]; exact x00
    have tx3 : w3.cell? ⟨p.g, p.A i * 5 + 4, none⟩ = some (.int .i64 c0) := by rw [hw3]; exact tx
    have q13 : w3.cell? ⟨g, 1, none⟩ = some (.int .i64 x1) := by rw [hw3]; exact q1
    clear hw3 x00 x01 x02 x03 x04 hbl tx q0 q1 hql HP2 HQ2 HW2
    go_quiet (fail)
    have HP4 := Lib.hid (HP3.out.under (w' := w3.drewN nq) (below_drewN (Below.refl _ _) nq) (by have := HP3.out.bel.size; omega))
    have HQ4 := Lib.hid (HQ3.out.drewN nq)
    obtain ⟨w4, hw4⟩ : ∃ x, x = w3.drewN nq := ⟨_, rfl⟩
    rw [← hw4] at HP4 HQ4 ⊢
    clear hw4 y0 tx3 q13 HP3 HQ3
    have hwn := IntWalk.i64_in ((s1.op.length : Int) - 1) (by omega)
    go_wp2_with fail
    go_loopw [3, 9] (fun ov nv wx => ov = .slice oa s1.op.length oc ∧ ∃ l1 l2 : List Nat, s1.op = l1 ++ l2 ∧ nv = .int .i64 ((l2.length : Int) - 1) ∧ (∀ x, x ∈ l1 → T x ≠ x0) ∧ PkS bs bo gm p.m s1 (.slice oa s1.op.length oc) wb wx ∧ Blk wx g #[.int .i64 x0, .int .i64 x1] 69) (fun _ nv _ => (intOf nv + 1).toNat)
    case atStart => exact ⟨rfl, [], s1.op, rfl, rfl, by simp, HP4.out, HQ4.out⟩
    case round =>
      obtain ⟨rfl, l1, l2, hl, rfl, hno, hp, hq⟩ := hrel
      clear HP4 HQ4 hwn
      have HP := Lib.hid hp
      have HQ := Lib.hid hq
      clear hp hq
      cases l2 with
      | nil =>
        have HN := Lib.hid (show bkStep T F i s1 = some s1 by
          rw [HBK.out, hl, popTo_app hno]; rfl)
        clear hl hno
        go_wp2_with fail
        go_roundw
        case rel => exact ⟨j + 1, s1, (oa, oc), by go_num, by omega, rfl, by rw [if_pos (by omega)]; exact HN.out, HP.out⟩
        case measure => simp [intOf]; omega
      | cons x t =>
        have hxop : x ∈ s1.op := by rw [hl]; simp
        have hxi := HOKS.out.op x hxop
        have hxm : x < p.m := by omega
        have hlen : s1.op.length = l1.length + t.length + 1 := by rw [hl]; simp; omega
        have hse : s1 = ⟨l1 ++ x :: t, s1.pr⟩ := by rw [← hl]
        have hxp : x ∉ s1.pr.map (·.1) := fun hm => (List.nodup_append.1 HOKS.out.nd).2.2 x hm x hxop rfl
        have hp2 := HP.out
        rw [hse] at hp2
        obtain ⟨g5, hoa, m0⟩ := PkS.open_at hp2
        subst hoa
        have HW := Lib.hid (HWS.out.below (hbse ▸ HP.out.bel))
        obtain ⟨x00, x01, x02, x03, x04⟩ := HW.out.box
        have hbl := HW.out.bx.lt
        obtain ⟨_, _, _, _, txx⟩ := HW.out.wd.char OK.out hxm
        rw [← HTD.out x] at txx
        have ax : wr.cell? ⟨p.ga, x, none⟩ = some (.int .i64 (p.A x : Nat)) := HW.out.wd.pt x hxm
        have hAx := OK.out.pl x hxm
        have hAxi : ((p.A x : Nat) : Int) < (p.n : Int) := by omega
        have hxmi : (x : Int) < (p.m : Int) := by omega
        have q0 : wr.cell? ⟨g, 0, none⟩ = some (.int .i64 x0) := HQ.out.cell (i := 0) rfl
        have hql := HQ.out.lt
        have e2 : (((x :: t).length : Nat) : Int) - 1 = t.length := by simp
        rw [e2]
        have ht0 : (0 : Int) ≤ (t.length : Int) := by omega
        have ht1 : (t.length : Int) < (s1.op.length : Int) := by omega
        obtain ⟨av, ac, hav, hac1, hac2⟩ := HP.out.op.slice
        cases hav
        have ht2 : (t.length : Int) ≤ (oc : Int) := by omega
        obtain ⟨tv, htv⟩ : ∃ c, c = T x := ⟨_, rfl⟩
        rw [← htv] at txx
        have HL := Lib.hid hl
        have HNO := Lib.hid hno
        have HTV := Lib.hid htv
        have HXP := Lib.hid hxp
        have HSE := Lib.hid hse
        have hwn := IntWalk.i64_in ((t.length : Int) - 1) (by omega)
        clear hl hno e2 hp2 hse htv hxop hxp
        by_cases hx : tv = x0
        · have hxx : (tv == x0) = true := by simpa using hx
          have HN := Lib.hid (show bkStep T F i s1 = some ⟨t, s1.pr ++ [(x, i)]⟩ by
            rw [HBK.out, HL.out, popTo_app HNO.out, popTo_hit (by rw [← HTV.out]; exact hx)])
          clear hx
          go_wp2_with fail
          go_quiet (fail)
          obtain ⟨w5, hw5⟩ : ∃ x, x = wr.drewN nq := ⟨_, rfl⟩
          have HP5 := Lib.hid (show PkS bs bo gm p.m s1 (.slice (some ⟨g5, 0, none⟩) s1.op.length oc) wb w5 by rw [hw5]; exact HP.out.under (below_drewN (Below.refl _ _) nq) (by have := HP.out.bel.size; omega))
          have m5 : w5.cell? ⟨g5, t.length, none⟩ = some (.int .i64 (x : Nat)) := by rw [hw5]; exact m0
          rw [← hw5]
          clear hw5 x00 x01 x02 x03 x04 hbl txx ax q0 hql m0 HP HQ HW
          have k5 := HP5.out.mt.cell hxm
          have z5 := HP5.out.mt.frozen x
          have hfin := HP5.out
          rw [HSE.out] at hfin
          have HFIN := Lib.hid (PkS.pair (k := i) hfin (by rw [← HSE.out]; exact hlen) HBO.out HBS.out HXP.out)
          have hg5o : bo ≤ g5 := HP5.out.op.ge g5 (by simp [Value.ownBlock])
          have hgm5 : gm ≠ g5 := by have := HBO.out; omega
          clear hfin
          go_wp2_with fail
          go_roundw
          case rel => exact ⟨j + 1, ⟨t, s1.pr ++ [(x, i)]⟩, (some ⟨g5, 0, none⟩, oc), by go_num, by omega, rfl, by rw [if_pos (by omega)]; exact HN.out, HFIN.out⟩
          case measure => simp [intOf]; omega
        · have hxx : (tv == x0) = false := by simpa using hx
          have HNO2 := Lib.hid (show ∀ y, y ∈ l1 ++ [x] → T y ≠ x0 from fun y hy => by
            rcases List.mem_append.1 hy with h | h
            · exact HNO.out y h
            · simp at h; subst h; rw [← HTV.out]; exact hx)
          clear hx
          go_wp2_with fail
          go_quiet (fail)
          have HP5 := Lib.hid (HP.out.under (w' := wr.drewN nq) (below_drewN (Below.refl _ _) nq) (by have := HP.out.bel.size; omega))
          have HQ5 := Lib.hid (HQ.out.drewN nq)
          clear x00 x01 x02 x03 x04 hbl txx ax q0 hql m0 HP HQ HW
          go_wp2_with fail
          go_roundw
          case rel => exact ⟨rfl, l1 ++ [x], t, by rw [HL.out]; simp, rfl, HNO2.out, HP5.out, HQ5.out⟩
          case measure => simp [intOf]
set_option maxHeartbeats 8000000 in
theorem pkInit {wb wA : World} {bs bo gm b m : Nat} {av : Value} (HBS : Hid (bs ≤ gm)) (HBO : Hid (gm < bo)) (HBEL : Hid (Below bs wb wA)) (HM : Hid (OwnF wA 3 gm m (fun _ => 0))) (hsz : bo ≤ wA.heap.size) (hm2 : m ≤ 200)
    {s0 s4 s5 s6 s7 s8 s9 s10 s11 s12 s13 s14 s15 s16 s17 s18 s19 s20 s21 s22 s23 s24 s25 s26 s30 s31 s32 s33 s34 s35 s36 s37 s38 s39 s40 s41 s42 s43 s44 s45 s46 s47 s48 s49 s50 s51 s52 s53 s54 s55 s56 s57 s58 s59 s60 s61 s62 s63 s64 s65 s66 s67 s68 s69 s70 s71 s72 s73 s74 s75 s76 s77 s78 s79 s80 s81 s82 s83 s84 s85 s86 s87 s88 s89 s90 s91 s92 s93 s94 s95 s96 s97 s98 s99 s100 s101 s102 s103 s104 s105 s106 s107 s108 s109 s110 s111 s112 s113 s114 s115 s116 s117 s118 s119 s120 s121 s122 s123 s124 s125 s126 s127 s128 s129 s130 s131 s132 s133 s134 s135 s136 s137 s138 s139 s140 s141 s142 s143 s144 s145 s146 s147 s148 s149 s150 s151 s152 s153 s154 s155 s156 s157 s158 s159 s160 s161 s162 s163 s164 s165 s166 s167 s168 s169 s170 s171 s172 s173 s174 s175 s176 s177 s178 s179 s180 s181 s182 s183 s184 s185 s186 s187 s188 s189 s190 s191 s192 s193 s194 s195 s196 s197 s198 s199 s200 s201 s202 s203 s204 s205 s206 s207 s208 : Value} {J K' : Act → World → Prop} {Q : Exit → Act → World → Prop}
    (hJ : ∀ (a' : Act) (w' : World), (∃ u4 u29 u30 u31 u32 u33 u34 u35 : Value, (PkS bs bo gm m ⟨[], []⟩ (.slice none 0 0) wb w') ∧ a' = ⟨#[s0, .pointer (some ⟨b, 0, none⟩), .slice (some ⟨gm, 0, none⟩) m m, .slice none 0 0, u4, s5, s6, s7, s8, s9, s10, s11, s12, s13, s14, s15, s16, s17, s18, s19, s20, s21, s22, s23, s24, s25, s26, av, .int .i64 m, u29, u30, u31, u32, u33, u34, u35, s36, s37, s38, s39, s40, s41, s42, s43, s44, s45, s46, s47, s48, s49, s50, s51, s52, s53, s54, s55, s56, s57, s58, s59, s60, s61, s62, s63, s64, s65, s66, s67, s68, s69, s70, s71, s72, s73, s74, s75, s76, s77, s78, s79, s80, s81, s82, s83, s84, s85, s86, s87, s88, s89, s90, s91, s92, s93, s94, s95, s96, s97, s98, s99, s100, s101, s102, s103, s104, s105, s106, s107, s108, s109, s110, s111, s112, s113, s114, s115, s116, s117, s118, s119, s120, s121, s122, s123, s124, s125, s126, s127, s128, s129, s130, s131, s132, s133, s134, s135, s136, s137, s138, s139, s140, s141, s142, s143, s144, s145, s146, s147, s148, s149, s150, s151, s152, s153, s154, s155, s156, s157, s158, s159, s160, s161, s162, s163, s164, s165, s166, s167, s168, s169, s170, s171, s172, s173, s174, s175, s176, s177, s178, s179, s180, s181, s182, s183, s184, s185, s186, s187, s188, s189, s190, s191, s192, s193, s194, s195, s196, s197, s198, s199, s200, s201, s202, s203, s204, s205, s206, s207, s208], []⟩) → J a' w')
    (hK : ∀ (a' : Act) (w' : World), Met J a' w' → K' a' w') :
    Code.wp Tryd.prog (theBlk Tryd.f29 0) (Exit.then K' Q) ⟨#[s0, .pointer (some ⟨b, 0, none⟩), .slice (some ⟨gm, 0, none⟩) m m, .slice none 0 0, s4, s5, s6, s7, s8, s9, s10, s11, s12, s13, s14, s15, s16, s17, s18, s19, s20, s21, s22, s23, s24, s25, s26, av, .int .i64 m, .int .i64 0, s30, s31, s32, s33, s34, s35, s36, s37, s38, s39, s40, s41, s42, s43, s44, s45, s46, s47, s48, s49, s50, s51, s52, s53, s54, s55, s56, s57, s58, s59, s60, s61, s62, s63, s64, s65, s66, s67, s68, s69, s70, s71, s72, s73, s74, s75, s76, s77, s78, s79, s80, s81, s82, s83, s84, s85, s86, s87, s88, s89, s90, s91, s92, s93, s94, s95, s96, s97, s98, s99, s100, s101, s102, s103, s104, s105, s106, s107, s108, s109, s110, s111, s112, s113, s114, s115, s116, s117, s118, s119, s120, s121, s122, s123, s124, s125, s126, s127, s128, s129, s130, s131, s132, s133, s134, s135, s136, s137, s138, s139, s140, s141, s142, s143, s144, s145, s146, s147, s148, s149, s150, s151, s152, s153, s154, s155, s156, s157, s158, s159, s160, s161, s162, s163, s164, s165, s166, s167, s168, s169, s170, s171, s172, s173, s174, s175, s176, s177, s178, s179, s180, s181, s182, s183, s184, s185, s186, s187, s188, s189, s190, s191, s192, s193, s194, s195, s196, s197, s198, s199, s200, s201, s202, s203, s204, s205, s206, s207, s208], []⟩ wA := by
  conv => arg 2; whnf
  go_wp2_with fail
  go_loopw [29] (fun iv wr => ∃ i : Nat, iv = .int .i64 i ∧ i ≤ m ∧ OwnF wr 3 gm m (prt (fun _ => -1) (fun _ => 0) i) ∧ Below bs wb wr ∧ bo ≤ wr.heap.size) (fun iv _ => m - (intOf iv).toNat)
  case atStart => exact ⟨0, rfl, by omega, HM.out.congr fun k _ => (prt_zero _ (fun _ => 0) k).symm, HBEL.out, hsz⟩
  case round =>
    clear HM HBEL
    obtain ⟨i, rfl, hi, hm, hb, hs⟩ := hrel
    have HM := Lib.hid hm
    have HB := Lib.hid hb
    clear hm hb
    by_cases hin : i < m
    · have HIN := Lib.hid hin
      have z1 := HM.out.cell hin
      have z2 := HM.out.frozen i
      have HS2 := Lib.hid (show bo ≤ (wr.setCell ⟨gm, i, none⟩ (.int .i64 (-1))).heap.size by simpa [World.setCell] using hs)
      go_wp2_with fail
      go_roundw
      case rel => exact ⟨i + 1, by go_num, HIN.out, (HM.out.set i (-1)).congr fun k _ => prt_set _ _ i rfl k, HB.out.setCell HBS.out _, HS2.out⟩
      case measure => have := HIN.out; simp [intOf]; omega
    · obtain rfl : i = m := by omega
      go_wp2_with fail
      go_meet
      exact ⟨HB.out, HM.out.congr fun k hk => prt_lt hk, RowI.nil _ _ _ _ _, hs⟩
set_option maxHeartbeats 16000000 in
theorem pkChars {p : WdP} {F T : Nat → Int} {w0 wb wA : World} {bs bo gm b bb boff bcap : Nat} (OK : Hid (WdOk p)) (HWS : Hid (Ws p F b w0 wb)) (hbse : bs = wb.heap.size) (HBS : Hid (bs ≤ gm)) (HBO : Hid (gm < bo))
    (HG1 : Hid (wb.cell? ⟨0, 0, none⟩ = some (.slice (some ⟨bb, boff, none⟩) 4 bcap))) (HG3 : Hid (∀ i j, i < 4 → j < 2 → wb.cell? ⟨bb, boff + i * 2 + j, none⟩ = some (.int .i64 (ent coupleT i j)))) (hbc : 4 ≤ bcap)
    (HTD : Hid (∀ k, T k = p.T (p.A k))) (HP0 : Hid (PkS bs bo gm p.m ⟨[], []⟩ (.slice none 0 0) wb wA))
    {s0 s4 s5 s6 s7 s8 s9 s10 s11 s12 s13 s14 s15 s16 s17 s18 s19 s20 s21 s22 s23 s24 s25 s26 s27 s28 s29 s30 s31 s32 s33 s34 s35 s36 s40 s41 s42 s43 s44 s45 s46 s47 s48 s49 s50 s51 s52 s53 s54 s55 s56 s57 s58 s59 s60 s61 s62 s63 s64 s65 s66 s67 s68 s69 s70 s71 s72 s73 s74 s75 s76 s77 s78 s79 s80 s81 s82 s83 s84 s85 s86 s87 s88 s89 s90 s91 s92 s93 s94 s95 s96 s97 s98 s99 s100 s101 s102 s103 s104 s105 s106 s107 s108 s109 s110 s111 s112 s113 s114 s115 s116 s117 s118 s119 s120 s121 s122 s123 s124 s125 s126 s127 s128 s129 s130 s131 s132 s133 s134 s135 s136 s137 s138 s139 s140 s141 s142 s143 s144 s145 s146 s147 s148 s149 s150 s151 s152 s153 s154 s155 s156 s157 s158 s159 s160 s161 s162 s163 s164 s165 s166 s167 s168 s169 s170 s171 s172 s173 s174 s175 s176 s177 s178 s179 s180 s181 s182 s183 s184 s185 s186 s187 s188 s189 s190 s191 s192 s193 s194 s195 s196 s197 s198 s199 s200 s201 s202 s203 s204 s205 s206 s207 s208 : Value} {J K' : Act → World → Prop} {Q : Exit → Act → World → Prop}
    (hR : ∀ (a' : Act) (w' : World), a'.defers = [] → bkAt T F p.m = none → Below bs wb w' → Q .ret a' w')
    (hJ : ∀ (a' : Act) (w' : World), (∃ u3 u5 u6 u7 u8 u9 u39 u40 u41 u42 u43 u44 u45 u46 u47 u48 u49 u50 u51 u52 u53 u54 u55 u56 u57 u58 u59 u60 u61 u62 u63 u64 u65 u66 u67 u68 u69 u70 u71 u72 u73 u74 u75 u76 u77 u78 u79 u80 u81 u82 u83 u84 u85 u86 u87 u88 u89 u90 u91 u92 u93 u94 u95 u96 u97 u98 u99 u100 u101 u102 u103 u104 u105 u106 u107 u108 u109 u110 u111 u112 u113 : Value, (∃ s' oa oc, u3 = .slice oa s'.op.length oc ∧ bkAt T F p.m = some s' ∧ PkS bs bo gm p.m s' (.slice oa s'.op.length oc) wb w') ∧ a' = ⟨#[s0, .pointer (some ⟨b, 0, none⟩), .slice (some ⟨gm, 0, none⟩) p.m p.m, u3, s4, u5, u6, u7, u8, u9, s10, s11, s12, s13, s14, s15, s16, s17, s18, s19, s20, s21, s22, s23, s24, s25, s26, s27, s28, s29, s30, s31, s32, s33, s34, s35, s36, .slice (some ⟨p.ga, 0, none⟩) p.m p.ca, .int .i64 p.m, u39, u40, u41, u42, u43, u44, u45, u46, u47, u48, u49, u50, u51, u52, u53, u54, u55, u56, u57, u58, u59, u60, u61, u62, u63, u64, u65, u66, u67, u68, u69, u70, u71, u72, u73, u74, u75, u76, u77, u78, u79, u80, u81, u82, u83, u84, u85, u86, u87, u88, u89, u90, u91, u92, u93, u94, u95, u96, u97, u98, u99, u100, u101, u102, u103, u104, u105, u106, u107, u108, u109, u110, u111, u112, u113, s114, s115, s116, s117, s118, s119, s120, s121, s122, s123, s124, s125, s126, s127, s128, s129, s130, s131, s132, s133, s134, s135, s136, s137, s138, s139, s140, s141, s142, s143, s144, s145, s146, s147, s148, s149, s150, s151, s152, s153, s154, s155, s156, s157, s158, s159, s160, s161, s162, s163, s164, s165, s166, s167, s168, s169, s170, s171, s172, s173, s174, s175, s176, s177, s178, s179, s180, s181, s182, s183, s184, s185, s186, s187, s188, s189, s190, s191, s192, s193, s194, s195, s196, s197, s198, s199, s200, s201, s202, s203, s204, s205, s206, s207, s208], []⟩) → J a' w')
    (hK : ∀ (a' : Act) (w' : World), Met J a' w' → K' a' w') :
    Code.wp Tryd.prog (theBlk Tryd.f29 2) (Exit.then K' Q) ⟨#[s0, .pointer (some ⟨b, 0, none⟩), .slice (some ⟨gm, 0, none⟩) p.m p.m, .slice none 0 0, s4, s5, s6, s7, s8, s9, s10, s11, s12, s13, s14, s15, s16, s17, s18, s19, s20, s21, s22, s23, s24, s25, s26, s27, s28, s29, s30, s31, s32, s33, s34, s35, s36, .slice (some ⟨p.ga, 0, none⟩) p.m p.ca, .int .i64 p.m, .int .i64 0, s40, s41, s42, s43, s44, s45, s46, s47, s48, s49, s50, s51, s52, s53, s54, s55, s56, s57, s58, s59, s60, s61, s62, s63, s64, s65, s66, s67, s68, s69, s70, s71, s72, s73, s74, s75, s76, s77, s78, s79, s80, s81, s82, s83, s84, s85, s86, s87, s88, s89, s90, s91, s92, s93, s94, s95, s96, s97, s98, s99, s100, s101, s102, s103, s104, s105, s106, s107, s108, s109, s110, s111, s112, s113, s114, s115, s116, s117, s118, s119, s120, s121, s122, s123, s124, s125, s126, s127, s128, s129, s130, s131, s132, s133, s134, s135, s136, s137, s138, s139, s140, s141, s142, s143, s144, s145, s146, s147, s148, s149, s150, s151, s152, s153, s154, s155, s156, s157, s158, s159, s160, s161, s162, s163, s164, s165, s166, s167, s168, s169, s170, s171, s172, s173, s174, s175, s176, s177, s178, s179, s180, s181, s182, s183, s184, s185, s186, s187, s188, s189, s190, s191, s192, s193, s194, s195, s196, s197, s198, s199, s200, s201, s202, s203, s204, s205, s206, s207, s208], []⟩ wA := by
  have hm := OK.out.m2
  have hn := OK.out.n2
  have hmca := OK.out.mca
  have HBW := Lib.hid (show bs ≤ wb.heap.size by omega)
  conv => arg 2; whnf
  go_wp2_with fail
  go_loopw [3, 39] (fun ov iv wr => ∃ (i : Nat) (s : Bkt) (oav : Option Addr × Nat), iv = .int .i64 i ∧ i ≤ p.m ∧ ov = .slice oav.1 s.op.length oav.2 ∧ bkAt T F i = some s ∧ PkS bs bo gm p.m s (.slice oav.1 s.op.length oav.2) wb wr) (fun _ iv _ => p.m - (intOf iv).toNat)
  case atStart => exact ⟨0, ⟨[], []⟩, (none, 0), rfl, by omega, rfl, rfl, HP0.out⟩
  case round =>
    clear HP0
    obtain ⟨i, s, ⟨oa, oc⟩, rfl, hi, rfl, hs, hp⟩ := hrel
    simp only at hp ⊢
    have HP := Lib.hid hp
    have HS := Lib.hid hs
    clear hp hs
    by_cases hin : i < p.m
    case neg =>
      obtain rfl : i = p.m := by omega
      go_wp2_with fail
      go_meet
      exact ⟨s, oa, oc, rfl, HS.out, HP.out⟩
    have HW := Lib.hid (HWS.out.below (hbse ▸ HP.out.bel))
    have a0 : wr.cell? ⟨p.ga, i, none⟩ = some (.int .i64 (p.A i : Nat)) := HW.out.wd.pt i hin
    have g0 : wr.cell? ⟨0, 0, none⟩ = some (.slice (some ⟨bb, boff, none⟩) 4 bcap) := bel_cell3 (hbse ▸ HP.out.bel) HG1.out
    have hbok := bk_ok i s HS.out
    have hpl := bk_prlen i s HS.out
    have HNONE := Lib.hid (fun (h : bkAt T F (i + 1) = none) => show bkAt T F p.m = none by rw [show p.m = (i + 1) + (p.m - (i + 1)) by omega]; exact bk_none h _)
    go_upto_block 4 with fail
    clear a0 g0 HW
    refine wp_open (fun K0 hK0 => ?_)
    go_cut [3, 8, 9] from 46 to 112 (fun v _ _ wx => ∃ s' oa oc, v = .slice oa s'.op.length oc ∧ bkAt T F (i + 1) = some s' ∧ PkS bs bo gm p.m s' (.slice oa s'.op.length oc) wb wx)
    case first => exact pkCouples OK HWS hbse HBS HBO HBW HG1 HG3 HTD hin hbok hpl HS HP (fun a' w' h1 h2 h3 => hR a' w' h1 (HNONE.out h2) h3) (by assumption) (by assumption)
    case rest =>
    obtain ⟨s', oa', oc', rfl, hs', hp'⟩ := hcut
    have HP' := Lib.hid hp'
    have HS' := Lib.hid hs'
    clear hp' hs' HP HS hbok
    refine hK0 _ _ ?_
    clear hK0 K0
    simp only [Exit.inBlock, Exit.then]
    go_wp2_with fail
    go_roundw
    case rel => exact ⟨i + 1, s', (oa', oc'), by go_num, by omega, rfl, HS'.out, HP'.out⟩
    case measure => simp [intOf]; omega
set_option maxHeartbeats 8000000 in
theorem pkScan {p : WdP} {W : Nat → Int} {b : Nat} {w0 wA : World} {a z : Nat} {own : Int} (OK : Hid (WdOk p)) (HW : Hid (Ws p W b w0 wA)) (haz : a < z) (hz : z < p.m) (hown : own = 0 ∨ own = 1)
    {s0 s2 s3 s4 s5 s6 s7 s8 s9 s11 s16 s17 s18 s19 s20 s21 s22 s23 s24 s25 s26 s27 s28 s29 s30 s31 s32 s33 s34 s35 s36 s37 s38 s39 s40 s41 s42 s43 s44 s45 s46 s47 s48 s49 s50 s51 s52 s53 s54 s55 s56 s57 s58 s59 s60 s61 s62 s63 s64 s65 s66 s67 s68 s69 s70 s71 s72 s73 s74 s75 s76 s77 s78 s79 s80 s81 s82 s83 s84 s85 s86 s87 s88 s89 s90 s91 s92 s93 s94 s95 s96 s97 s98 s99 s100 s101 s102 s103 s104 s105 s106 s107 s108 s109 s110 s111 s112 s113 s114 s115 s116 s117 s118 s119 s120 s121 s122 s123 s124 s125 s126 s127 s128 s129 s130 s131 s132 s133 s134 s135 s136 s137 s138 s139 s140 s141 s142 s143 s144 s145 s146 s147 s148 s149 s150 s151 s152 s153 s154 s155 s156 s157 s158 s159 s160 s161 s162 s163 s164 s165 s166 s167 s168 s169 s170 s171 s172 s173 s174 s175 s176 s177 s178 s179 s180 s181 s182 s183 s184 s185 s186 s187 s188 s189 s190 s191 s192 s193 s194 s195 s196 s197 s198 s199 s200 s201 s202 s203 s204 s205 s206 s207 s208 : Value} {J K' : Act → World → Prop} {Q : Exit → Act → World → Prop}
    (hJ : ∀ (a' : Act) (w' : World), (∃ u13 u14 u15 u16 u128 u129 u130 u131 u132 u133 u134 u135 u136 u137 u138 u139 u140 u141 u142 u143 u144 u145 u146 u147 u148 u149 u150 u151 u152 : Value, (u13 = .bool (sameB W own a z) ∧ u14 = .bool (otherB W own a z) ∧ Below wA.heap.size wA w') ∧ a' = ⟨#[s0, .pointer (some ⟨b, 0, none⟩), s2, s3, s4, s5, s6, s7, s8, s9, .int .i64 own, s11, .int .i64 (z : Nat), u13, u14, u15, u16, s17, s18, s19, s20, s21, s22, s23, s24, s25, s26, s27, s28, s29, s30, s31, s32, s33, s34, s35, s36, s37, s38, s39, s40, s41, s42, s43, s44, s45, s46, s47, s48, s49, s50, s51, s52, s53, s54, s55, s56, s57, s58, s59, s60, s61, s62, s63, s64, s65, s66, s67, s68, s69, s70, s71, s72, s73, s74, s75, s76, s77, s78, s79, s80, s81, s82, s83, s84, s85, s86, s87, s88, s89, s90, s91, s92, s93, s94, s95, s96, s97, s98, s99, s100, s101, s102, s103, s104, s105, s106, s107, s108, s109, s110, s111, s112, s113, s114, s115, s116, s117, s118, s119, s120, s121, s122, s123, s124, s125, s126, s127, u128, u129, u130, u131, u132, u133, u134, u135, u136, u137, u138, u139, u140, u141, u142, u143, u144, u145, u146, u147, u148, u149, u150, u151, u152, s153, s154, s155, s156, s157, s158, s159, s160, s161, s162, s163, s164, s165, s166, s167, s168, s169, s170, s171, s172, s173, s174, s175, s176, s177, s178, s179, s180, s181, s182, s183, s184, s185, s186, s187, s188, s189, s190, s191, s192, s193, s194, s195, s196, s197, s198, s199, s200, s201, s202, s203, s204, s205, s206, s207, s208], []⟩) → J a' w')
    (hK : ∀ (a' : Act) (w' : World), Met J a' w' → K' a' w') :
    Code.wp Tryd.prog (theBlk Tryd.f29 10) (Exit.then K' Q) ⟨#[s0, .pointer (some ⟨b, 0, none⟩), s2, s3, s4, s5, s6, s7, s8, s9, .int .i64 own, s11, .int .i64 (z : Nat), .bool false, .bool false, .int .i64 ((a + 1 : Nat) : Int), s16, s17, s18, s19, s20, s21, s22, s23, s24, s25, s26, s27, s28, s29, s30, s31, s32, s33, s34, s35, s36, s37, s38, s39, s40, s41, s42, s43, s44, s45, s46, s47, s48, s49, s50, s51, s52, s53, s54, s55, s56, s57, s58, s59, s60, s61, s62, s63, s64, s65, s66, s67, s68, s69, s70, s71, s72, s73, s74, s75, s76, s77, s78, s79, s80, s81, s82, s83, s84, s85, s86, s87, s88, s89, s90, s91, s92, s93, s94, s95, s96, s97, s98, s99, s100, s101, s102, s103, s104, s105, s106, s107, s108, s109, s110, s111, s112, s113, s114, s115, s116, s117, s118, s119, s120, s121, s122, s123, s124, s125, s126, s127, s128, s129, s130, s131, s132, s133, s134, s135, s136, s137, s138, s139, s140, s141, s142, s143, s144, s145, s146, s147, s148, s149, s150, s151, s152, s153, s154, s155, s156, s157, s158, s159, s160, s161, s162, s163, s164, s165, s166, s167, s168, s169, s170, s171, s172, s173, s174, s175, s176, s177, s178, s179, s180, s181, s182, s183, s184, s185, s186, s187, s188, s189, s190, s191, s192, s193, s194, s195, s196, s197, s198, s199, s200, s201, s202, s203, s204, s205, s206, s207, s208], []⟩ wA := by
  have hm := OK.out.m2
  have hn := OK.out.n2
  have hmca := OK.out.mca
  conv => arg 2; whnf
  go_wp2_with fail
  go_loopw [13, 14, 15] (fun sv ov iv wr => ∃ k : Nat, sv = .bool (sameB W own a k) ∧ ov = .bool (otherB W own a k) ∧ iv = .int .i64 k ∧ a + 1 ≤ k ∧ k ≤ z ∧ Ws p W b w0 wr ∧ Below wA.heap.size wA wr) (fun _ _ iv _ => z - (intOf iv).toNat)
  case atStart => exact ⟨a + 1, by rw [sameB_start], by rw [otherB_start], rfl, Nat.le_refl _, haz, HW.out, Below.refl _ _⟩
  case round =>
    obtain ⟨k, rfl, rfl, rfl, hk1, hk2, hws, hbl0⟩ := hrel
    have HWS := Lib.hid hws
    have HBL := Lib.hid hbl0
    clear hws hbl0 HW
    have HK2 := Lib.hid hk2
    by_cases hkz : k < z
    case neg =>
      obtain rfl : k = z := by omega
      go_wp2_with fail
      go_meet
      exact ⟨rfl, rfl, HBL.out⟩
    have HKZ := Lib.hid hkz
    have hkm : k < p.m := by omega
    obtain ⟨x0, x1, x2, x3, x4⟩ := HWS.out.box
    have hbl := HWS.out.bx.lt
    obtain ⟨sb, hsb⟩ : ∃ s, s = sameB W own a k := ⟨_, rfl⟩
    obtain ⟨ob, hob⟩ : ∃ s, s = otherB W own a k := ⟨_, rfl⟩
    rw [← hsb, ← hob]
    have HSB := Lib.hid (sameB_step (C := W) (own := own) hk1)
    have HOB := Lib.hid (otherB_step (C := W) (own := own) hk1)
    rw [← hsb] at HSB
    rw [← hob] at HOB
    clear hsb hob
    have HG := Lib.hid (wget_any OK.out HWS.out.wd (k : Int))
    rw [gtW_at hkm] at HG
    unfold WdP.cs at HG
    obtain ⟨fi, hfi⟩ : ∃ x, x = W k := ⟨_, rfl⟩
    rw [← hfi] at HG
    have HFI := Lib.hid hfi
    clear hfi
    go_wp2_with fail
    refine HG.out.mono ?_
    rintro e2 w2 ⟨rfl, hb2⟩
    have HW2 := Lib.hid (HWS.out.below hb2)
    have HB2 := Lib.hid (show Below wA.heap.size wA w2 from HBL.out.trans (hb2.mono HBL.out.size))
    dsimp only
    clear hb2 HG x0 x1 x2 x3 x4 hbl HWS HBL
    have HCT := Lib.hid (counts_any fi w2)
    obtain ⟨ct, hct⟩ : ∃ x, x = ctB fi := ⟨_, rfl⟩
    rw [← hct] at HCT
    have HCF := Lib.hid hct
    clear hct
    go_wp2_with fail
    refine HCT.out.mono ?_
    rintro e3 w3 ⟨rfl, rfl⟩
    dsimp only
    rw [← HFI.out, ← HCF.out] at HSB HOB
    have hctr := ctB_range fi
    rw [← HCF.out] at hctr
    have hw8 := IntWalk.i64_in ((k : Int) + 1) (by omega)
    by_cases heq : ct = own
    · have he : (ct == own) = true := by simp [heq]
      have he2 : (ct != own) = false := by simp [heq]
      have h0 : (0 : Int) ≤ ct := by omega
      have HS2 := Lib.hid (show sameB W own a (k + 1) = true by rw [HSB.out]; simp [heq])
      have HO2 := Lib.hid (show otherB W own a (k + 1) = ob by rw [HOB.out]; simp [heq])
      clear heq
      cases sb with
      | true =>
        cases ob with
        | true =>
          go_wp2_with fail
          go_roundw
          case rel => exact ⟨k + 1, by rw [HS2.out], by rw [HO2.out], by go_num, by omega, HKZ.out, HW2.out, HB2.out⟩
          case measure => have := HKZ.out; simp [intOf]; omega
        | false =>
          go_wp2_with fail
          go_roundw
          case rel => exact ⟨k + 1, by rw [HS2.out], by rw [HO2.out], by go_num, by omega, HKZ.out, HW2.out, HB2.out⟩
          case measure => have := HKZ.out; simp [intOf]; omega
      | false =>
        cases ob with
        | true =>
          go_wp2_with fail
          go_roundw
          case rel => exact ⟨k + 1, by rw [HS2.out], by rw [HO2.out], by go_num, by omega, HKZ.out, HW2.out, HB2.out⟩
          case measure => have := HKZ.out; simp [intOf]; omega
        | false =>
          go_wp2_with fail
          go_roundw
          case rel => exact ⟨k + 1, by rw [HS2.out], by rw [HO2.out], by go_num, by omega, HKZ.out, HW2.out, HB2.out⟩
          case measure => have := HKZ.out; simp [intOf]; omega
    · have he : (ct == own) = false := by simp [heq]
      have he2 : (ct != own) = true := by simpa using heq
      have HS2 := Lib.hid (show sameB W own a (k + 1) = sb by rw [HSB.out]; simp [heq])
      by_cases h0 : (0 : Int) ≤ ct
      · have HO2 := Lib.hid (show otherB W own a (k + 1) = true by rw [HOB.out]; simp [heq, h0])
        clear heq
        cases sb with
        | true =>
          cases ob with
          | true =>
            go_wp2_with fail
            go_roundw
            case rel => exact ⟨k + 1, by rw [HS2.out], by rw [HO2.out], by go_num, by omega, HKZ.out, HW2.out, HB2.out⟩
            case measure => have := HKZ.out; simp [intOf]; omega
          | false =>
            go_wp2_with fail
            go_roundw
            case rel => exact ⟨k + 1, by rw [HS2.out], by rw [HO2.out], by go_num, by omega, HKZ.out, HW2.out, HB2.out⟩
            case measure => have := HKZ.out; simp [intOf]; omega
        | false =>
          cases ob with
          | true =>
            go_wp2_with fail
            go_roundw
            case rel => exact ⟨k + 1, by rw [HS2.out], by rw [HO2.out], by go_num, by omega, HKZ.out, HW2.out, HB2.out⟩
            case measure => have := HKZ.out; simp [intOf]; omega
          | false =>
            go_wp2_with fail
            go_roundw
            case rel => exact ⟨k + 1, by rw [HS2.out], by rw [HO2.out], by go_num, by omega, HKZ.out, HW2.out, HB2.out⟩
            case measure => have := HKZ.out; simp [intOf]; omega
      · have HO2 := Lib.hid (show otherB W own a (k + 1) = ob by rw [HOB.out]; simp [h0])
        clear heq
        cases sb with
        | true =>
          cases ob with
          | true =>
            go_wp2_with fail
            go_roundw
            case rel => exact ⟨k + 1, by rw [HS2.out], by rw [HO2.out], by go_num, by omega, HKZ.out, HW2.out, HB2.out⟩
            case measure => have := HKZ.out; simp [intOf]; omega
          | false =>
            go_wp2_with fail
            go_roundw
            case rel => exact ⟨k + 1, by rw [HS2.out], by rw [HO2.out], by go_num, by omega, HKZ.out, HW2.out, HB2.out⟩
            case measure => have := HKZ.out; simp [intOf]; omega
        | false =>
          cases ob with
          | true =>
            go_wp2_with fail
            go_roundw
            case rel => exact ⟨k + 1, by rw [HS2.out], by rw [HO2.out], by go_num, by omega, HKZ.out, HW2.out, HB2.out⟩
            case measure => have := HKZ.out; simp [intOf]; omega
          | false =>
            go_wp2_with fail
            go_roundw
            case rel => exact ⟨k + 1, by rw [HS2.out], by rw [HO2.out], by go_num, by omega, HKZ.out, HW2.out, HB2.out⟩
            case measure => have := HKZ.out; simp [intOf]; omega
set_option maxHeartbeats 8000000 in
theorem pkAhead {p : WdP} {W : Nat → Int} {b : Nat} {w0 wA : World} {a : Nat} (OK : Hid (WdOk p)) (HW : Hid (Ws p W b w0 wA)) (ham : a < p.m) (hbf : p.bef = 0 ∨ p.bef = 1)
    {s0 s2 s3 s4 s5 s6 s7 s8 s9 s10 s11 s12 s13 s14 s15 s16 s17 s19 s20 s21 s22 s23 s24 s25 s26 s27 s28 s29 s30 s31 s32 s33 s34 s35 s36 s37 s38 s39 s40 s41 s42 s43 s44 s45 s46 s47 s48 s49 s50 s51 s52 s53 s54 s55 s56 s57 s58 s59 s60 s61 s62 s63 s64 s65 s66 s67 s68 s69 s70 s71 s72 s73 s74 s75 s76 s77 s78 s79 s80 s81 s82 s83 s84 s85 s86 s87 s88 s89 s90 s91 s92 s93 s94 s95 s96 s97 s98 s99 s100 s101 s102 s103 s104 s105 s106 s107 s108 s109 s110 s111 s112 s113 s114 s115 s116 s117 s118 s119 s120 s121 s122 s123 s124 s125 s126 s127 s128 s129 s130 s131 s132 s133 s134 s135 s136 s137 s138 s139 s140 s141 s142 s143 s144 s145 s146 s147 s148 s149 s150 s151 s152 s153 s154 s155 s156 s157 s158 s159 s160 s161 s162 s163 s164 s165 s166 s167 s168 s169 s170 s171 s172 s173 s174 s175 s176 s177 s178 s179 s180 s181 s182 s183 s184 s185 s186 s187 s188 s189 s190 s191 s192 s193 s194 s195 s196 s197 s198 s199 s200 s201 s202 s203 s204 s205 s206 s207 s208 : Value} {J K' : Act → World → Prop} {Q : Exit → Act → World → Prop}
    (hJ : ∀ (a' : Act) (w' : World), (∃ u17 u18 u19 u160 u161 u162 u163 u164 u165 u166 u167 u168 : Value, (u17 = .int .i64 (sdL W p.bef a) ∧ Below wA.heap.size wA w') ∧ a' = ⟨#[s0, .pointer (some ⟨b, 0, none⟩), s2, s3, s4, s5, s6, s7, s8, s9, s10, s11, s12, s13, s14, s15, s16, u17, u18, u19, s20, s21, s22, s23, s24, s25, s26, s27, s28, s29, s30, s31, s32, s33, s34, s35, s36, s37, s38, s39, s40, s41, s42, s43, s44, s45, s46, s47, s48, s49, s50, s51, s52, s53, s54, s55, s56, s57, s58, s59, s60, s61, s62, s63, s64, s65, s66, s67, s68, s69, s70, s71, s72, s73, s74, s75, s76, s77, s78, s79, s80, s81, s82, s83, s84, s85, s86, s87, s88, s89, s90, s91, s92, s93, s94, s95, s96, s97, s98, s99, s100, s101, s102, s103, s104, s105, s106, s107, s108, s109, s110, s111, s112, s113, s114, s115, s116, s117, s118, s119, s120, s121, s122, s123, s124, s125, s126, s127, s128, s129, s130, s131, s132, s133, s134, s135, s136, s137, s138, s139, s140, s141, s142, s143, s144, s145, s146, s147, s148, s149, s150, s151, s152, s153, s154, s155, s156, s157, s158, s159, u160, u161, u162, u163, u164, u165, u166, u167, u168, s169, s170, s171, s172, s173, s174, s175, s176, s177, s178, s179, s180, s181, s182, s183, s184, s185, s186, s187, s188, s189, s190, s191, s192, s193, s194, s195, s196, s197, s198, s199, s200, s201, s202, s203, s204, s205, s206, s207, s208], []⟩) → J a' w')
    (hK : ∀ (a' : Act) (w' : World), Met J a' w' → K' a' w') :
    Code.wp Tryd.prog (theBlk Tryd.f29 12) (Exit.then K' Q) ⟨#[s0, .pointer (some ⟨b, 0, none⟩), s2, s3, s4, s5, s6, s7, s8, s9, s10, s11, s12, s13, s14, s15, s16, s17, .int .i64 ((a : Int) - 1), s19, s20, s21, s22, s23, s24, s25, s26, s27, s28, s29, s30, s31, s32, s33, s34, s35, s36, s37, s38, s39, s40, s41, s42, s43, s44, s45, s46, s47, s48, s49, s50, s51, s52, s53, s54, s55, s56, s57, s58, s59, s60, s61, s62, s63, s64, s65, s66, s67, s68, s69, s70, s71, s72, s73, s74, s75, s76, s77, s78, s79, s80, s81, s82, s83, s84, s85, s86, s87, s88, s89, s90, s91, s92, s93, s94, s95, s96, s97, s98, s99, s100, s101, s102, s103, s104, s105, s106, s107, s108, s109, s110, s111, s112, s113, s114, s115, s116, s117, s118, s119, s120, s121, s122, s123, s124, s125, s126, s127, s128, s129, s130, s131, s132, s133, s134, s135, s136, s137, s138, s139, s140, s141, s142, s143, s144, s145, s146, s147, s148, s149, s150, s151, s152, s153, s154, s155, s156, s157, s158, s159, s160, s161, s162, s163, s164, s165, s166, s167, s168, s169, s170, s171, s172, s173, s174, s175, s176, s177, s178, s179, s180, s181, s182, s183, s184, s185, s186, s187, s188, s189, s190, s191, s192, s193, s194, s195, s196, s197, s198, s199, s200, s201, s202, s203, s204, s205, s206, s207, s208], []⟩ wA := by
  have hm := OK.out.m2
  have hn := OK.out.n2
  have hmca := OK.out.mca
  conv => arg 2; whnf
  go_wp2_with fail
  go_loopw [17, 18] (fun cv iv wr => ∃ k : Nat, iv = .int .i64 ((k : Int) - 1) ∧ k ≤ a ∧ sdL W p.bef a = sdL W p.bef k ∧ Ws p W b w0 wr ∧ Below wA.heap.size wA wr) (fun _ iv _ => (intOf iv + 1).toNat)
  case atStart => exact ⟨a, rfl, Nat.le_refl _, rfl, HW.out, Below.refl _ _⟩
  case round =>
    obtain ⟨k, rfl, hka, hsd, hws, hbl0⟩ := hrel
    have HWS := Lib.hid hws
    have HBL := Lib.hid hbl0
    have HSD := Lib.hid hsd
    clear hws hbl0 hsd HW
    obtain ⟨x0, x1, x2, x3, x4⟩ := HWS.out.box
    have hbl := HWS.out.bx.lt
    by_cases hk0 : k = 0
    · subst hk0
      have HZ := Lib.hid (show sdL W p.bef a = p.bef by rw [HSD.out, sdL])
      have e0 : ((0 : Nat) : Int) - 1 = -1 := by omega
      rw [e0]
      clear e0
      have HG := Lib.hid (wget_any OK.out HWS.out.wd (-1))
      rw [gtW_neg] at HG
      unfold WdP.cs at HG
      go_wp2_with fail
      refine HG.out.mono ?_
      rintro e2 w2 ⟨rfl, hb2⟩
      have HB2 := Lib.hid (show Below wA.heap.size wA w2 from HBL.out.trans (hb2.mono HBL.out.size))
      dsimp only
      clear hb2 HG x0 x1 x2 x3 x4 hbl HWS HBL
      have HCT := Lib.hid (counts_any p.bef w2)
      have hcb : ctB p.bef = p.bef := by rcases hbf with h | h <;> rw [h] <;> rfl
      rw [hcb] at HCT
      have h0 : (0 : Int) ≤ p.bef := by omega
      clear hcb
      go_wp2_with fail
      refine HCT.out.mono ?_
      rintro e3 w3 ⟨rfl, rfl⟩
      dsimp only
      go_wp2_with fail
      go_meet
      exact ⟨by rw [HZ.out], HB2.out⟩
    obtain ⟨t, rfl⟩ : ∃ t, k = t + 1 := ⟨k - 1, by omega⟩
    have e0 : ((t + 1 : Nat) : Int) - 1 = (t : Int) := by omega
    rw [e0]
    have htm : t < p.m := by omega
    have hw8 := IntWalk.i64_in ((t : Int) - 1) (by omega)
    clear hk0 e0
    have HG := Lib.hid (wget_any OK.out HWS.out.wd (t : Int))
    rw [gtW_at htm] at HG
    unfold WdP.cs at HG
    obtain ⟨fi, hfi⟩ : ∃ x, x = W t := ⟨_, rfl⟩
    rw [← hfi] at HG
    have HFI := Lib.hid hfi
    clear hfi
    go_wp2_with fail
    refine HG.out.mono ?_
    rintro e2 w2 ⟨rfl, hb2⟩
    have HW2 := Lib.hid (HWS.out.below hb2)
    have HB2 := Lib.hid (show Below wA.heap.size wA w2 from HBL.out.trans (hb2.mono HBL.out.size))
    dsimp only
    clear hb2 HG x0 x1 x2 x3 x4 hbl HWS HBL
    have HCT := Lib.hid (counts_any fi w2)
    obtain ⟨ct, hct⟩ : ∃ x, x = ctB fi := ⟨_, rfl⟩
    rw [← hct] at HCT
    have HCF := Lib.hid hct
    clear hct
    go_wp2_with fail
    refine HCT.out.mono ?_
    rintro e3 w3 ⟨rfl, rfl⟩
    dsimp only
    have HST := Lib.hid (show sdL W p.bef a = if 0 ≤ ct then ct else sdL W p.bef t by rw [HSD.out, sdL, HCF.out, HFI.out])
    by_cases h0 : (0 : Int) ≤ ct
    · have HZ := Lib.hid (HST.out.trans (if_pos h0))
      go_wp2_with fail
      go_meet
      exact ⟨by rw [HZ.out], HB2.out⟩
    · have HZ := Lib.hid (HST.out.trans (if_neg h0))
      go_wp2_with fail
      go_roundw
      case rel => exact ⟨t, rfl, by omega, HZ.out, HW2.out, HB2.out⟩
      case measure => simp [intOf]
end Go.Proofs.YtojbicdmcodgdaaDoor.BD
