
/-
  The reference's check of the kids of a node.
-/
import Derived.Test.YtghbicajcffjhaaDoorPcSet
import Derived.Test.YtghbicajcffjhaaDoorParts
namespace Go.Law
open Go.RowKit
/-- all but two blocks is as it was -/
abbrev Two (R S : Nat) (w w' : World) : Prop := Aside R (.slice (some ⟨S, 0, none⟩) 1 1) w w'
theorem Two.of_below {R S B : Nat} {w w' : World} (h : Below B w w') (hB : w.heap.size ≤ B) : Two R S w w' := ⟨h.os, h.tape, h.output, h.size, fun k hk _ _ => h.block k (by omega)⟩
theorem Two.more {R S B : Nat} {w w1 w' : World} (h : Two R S w w1) (hb : Below B w1 w') (hB : w1.heap.size ≤ B) : Two R S w w' := Aside.trans h (Two.of_below hb hB)
theorem Two.to_below {R S B : Nat} {w w' : World} (h : Two R S w w') (hB : B ≤ w.heap.size) (h1 : B ≤ R) (h2 : B ≤ S) : Below B w w' := Aside.below h hB h1 (fun k hk => by simp [Value.ownBlock] at hk; omega)
theorem Two.set1 {R S : Nat} {w w' : World} (h : Two R S w w') (i : Nat) (u : Value) : Two R S w (w'.setCell ⟨R, i, none⟩ u) := Aside.setR h i u
theorem Two.set2 {R S : Nat} {w w' : World} (h : Two R S w w') (i : Nat) (u : Value) : Two R S w (w'.setCell ⟨S, i, none⟩ u) := Aside.setRow (p := ⟨S, i, none⟩) h rfl u
end Go.Law
namespace Go.Proofs.YtghbicajcffjhaaDoor.PC
open Go.RowKit Go.Law Go.Law.Pn
set_option linter.unusedVariables false
set_option linter.unusedSimpArgs false
set_option maxRecDepth 100000
theorem ret_then3 {F : Act → World → Prop} {Q : Exit → Act → World → Prop} {a : Act} {w : World} (h : Q .ret a w) : Exit.then F Q .ret a w := h
theorem ret_block3 {id : Nat} {Q : Exit → Act → World → Prop} {a : Act} {w : World} (h : Q .ret a w) : Exit.inBlock id Q .ret a w := h
set_option maxHeartbeats 16000000 in
theorem rnLoop {W wC : World} {kf : Nat → PT} {kind lo hi d n G : Int} {nt lz : Bool} {sn sc kn kc Kn Kg P : Nat} {sa ka : Option Addr} {sf : Nat → Int × Int} {E : Int × Int × Int} {F : Nat → Int → Int → Int × Int × Int}
    (HIH : Hid (∀ i, i < kn → ∀ (d n g : Int) (Kn Kg : Nat) (w : World), 0 ≤ d → d ≤ 20 → 0 ≤ n → n ≤ 200 → 0 ≤ g → g ≤ 9 → W.heap.size ≤ Kn → W.heap.size ≤ Kg → Kn ≠ Kg → Below W.heap.size W w → Blk w Kn #[.int .i64 n] 3 → Blk w Kg #[.int .i64 g] 3 →
      Calls Tryd.prog 28 #[.agg (kf i).hd.cells.toArray, .int .i64 d, .pointer (some ⟨Kn, 0, none⟩), .pointer (some ⟨Kg, 0, none⟩)] w fun e w' => e = .returned (.int .i64 (ckN (kf i) d n g).1) ∧ Blk w' Kn #[.int .i64 (ckN (kf i) d n g).2.1] 3 ∧ Blk w' Kg #[.int .i64 (ckN (kf i) d n g).2.2] 3 ∧ Two Kn Kg w w'))
    (HKC : Hid (CellsF W ka kn 7 (fun i => (kf i).hd.V))) (hkm : kn ≤ 2 ^ 63 - 1) (HB : Hid (Below W.heap.size W wC)) (hKn : W.heap.size ≤ Kn) (hKg : W.heap.size ≤ Kg) (hne : Kn ≠ Kg) (hPn : P ≠ Kn) (hPg : P ≠ Kg)
    (HK0 : Hid (Blk wC Kn #[.int .i64 (n + 1)] 3)) (HG0 : Hid (Blk wC Kg #[.int .i64 G] 3))
    (HP0 : Hid (Blk wC P #[.int .i64 kind, .bool nt, .bool lz, .int .i64 lo, .int .i64 hi, .slice sa sn sc, .slice ka kn kc] 25))
    (hd0 : 0 ≤ d) (hd1 : d + 1 ≤ 20) (hn0 : 0 ≤ n) (hn1 : n + 1 ≤ 200) (hg2 : 0 ≤ G ∧ G ≤ 9)
    (HF : Hid (F = fun i n g => if likeB ⟨kind, nt, lz, lo, hi, sn, sa, sc, sf, kn, ka, kc⟩ (kf i).hd then (4, n, g) else ckN (kf i) (d + 1) n g))
    (HFR : Hid (∀ i, i < kn → ∀ n g, Rg n g → (F i n g).1 = 0 → Rg (F i n g).2.1 (F i n g).2.2)) (HR : Hid (E = runK F (n + 1) G kn))
    {s0 s5 s6 s7 s8 s9 s10 s11 s12 s13 s14 s15 s16 s17 s18 s19 s20 s21 s22 s23 s24 s25 s26 s27 s28 s29 s30 s31 s32 s33 s34 s35 s36 s37 s38 s39 s40 s41 s42 s43 s44 s45 s46 s47 s48 s49 s50 s51 s52 s53 s54 s55 s56 s57 s58 s59 s60 s61 s62 s63 s64 s65 s66 s67 s68 s69 s70 s71 s72 s73 s74 s75 s76 s77 s78 s79 s80 s81 s82 s83 s84 s85 s86 s87 s88 s89 s90 s91 s92 s93 s94 s95 s96 s97 s98 s99 s100 s101 s102 s103 s104 s105 s106 s107 s108 s109 s110 s111 s112 s113 s114 s115 s116 s117 s118 s119 s120 s121 s122 s123 s124 s125 s126 s127 s128 s129 s130 s131 s132 s133 s134 s135 s136 s137 s138 s139 s140 s141 s142 s143 s144 s145 s146 s147 s148 s149 s150 s151 s152 s153 s154 s155 s156 s157 s158 s159 s160 s161 s162 s166 s167 s168 s169 s170 s171 s172 s173 s174 s175 s176 s177 s178 s179 s180 s181 s182 s183 s184 s185 s186 s187 s188 s189 s190 s191 s192 s193 : Value} {J K' : Act → World → Prop} {Q : Exit → Act → World → Prop}
    (hRet : ∀ (t : Array Value) (w' : World), t.getD 8 undef = .int .i64 E.1 → (Blk w' Kn #[.int .i64 E.2.1] 3 ∧ Blk w' Kg #[.int .i64 E.2.2] 3 ∧ Two Kn Kg wC w') → Q .ret ⟨t, []⟩ w')
    (hJ : ∀ (a' : Act) (w' : World), (∃ u8 u16 u17 u165 u166 u167 u168 u169 u170 u171 u172 u173 u174 u175 u176 u177 u178 u179 u180 u181 u182 u183 u184 u185 u186 u187 u188 u189 u190 u191 u192 u193 : Value, (E.1 = 0 ∧ Blk w' Kn #[.int .i64 E.2.1] 3 ∧ Blk w' Kg #[.int .i64 E.2.2] 3 ∧ Two Kn Kg wC w') ∧ a' = ⟨#[s0, .int .i64 d, .pointer (some ⟨Kn, 0, none⟩), .pointer (some ⟨Kg, 0, none⟩), .pointer (some ⟨P, 0, none⟩), s5, s6, s7, u8, s9, s10, s11, s12, s13, s14, s15, u16, u17, s18, s19, s20, s21, s22, s23, s24, s25, s26, s27, s28, s29, s30, s31, s32, s33, s34, s35, s36, s37, s38, s39, s40, s41, s42, s43, s44, s45, s46, s47, s48, s49, s50, s51, s52, s53, s54, s55, s56, s57, s58, s59, s60, s61, s62, s63, s64, s65, s66, s67, s68, s69, s70, s71, s72, s73, s74, s75, s76, s77, s78, s79, s80, s81, s82, s83, s84, s85, s86, s87, s88, s89, s90, s91, s92, s93, s94, s95, s96, s97, s98, s99, s100, s101, s102, s103, s104, s105, s106, s107, s108, s109, s110, s111, s112, s113, s114, s115, s116, s117, s118, s119, s120, s121, s122, s123, s124, s125, s126, s127, s128, s129, s130, s131, s132, s133, s134, s135, s136, s137, s138, s139, s140, s141, s142, s143, s144, s145, s146, s147, s148, s149, s150, s151, s152, s153, s154, s155, s156, s157, s158, s159, s160, s161, s162, .slice ka kn kc, .int .i64 kn, u165, u166, u167, u168, u169, u170, u171, u172, u173, u174, u175, u176, u177, u178, u179, u180, u181, u182, u183, u184, u185, u186, u187, u188, u189, u190, u191, u192, u193], []⟩) → J a' w')
    (hK : ∀ (a' : Act) (w' : World), Met J a' w' → K' a' w') :
    Code.wp Tryd.prog (theBlk Tryd.f28 0) (Exit.then K' Q) ⟨#[s0, .int .i64 d, .pointer (some ⟨Kn, 0, none⟩), .pointer (some ⟨Kg, 0, none⟩), .pointer (some ⟨P, 0, none⟩), s5, s6, s7, s8, s9, s10, s11, s12, s13, s14, s15, s16, s17, s18, s19, s20, s21, s22, s23, s24, s25, s26, s27, s28, s29, s30, s31, s32, s33, s34, s35, s36, s37, s38, s39, s40, s41, s42, s43, s44, s45, s46, s47, s48, s49, s50, s51, s52, s53, s54, s55, s56, s57, s58, s59, s60, s61, s62, s63, s64, s65, s66, s67, s68, s69, s70, s71, s72, s73, s74, s75, s76, s77, s78, s79, s80, s81, s82, s83, s84, s85, s86, s87, s88, s89, s90, s91, s92, s93, s94, s95, s96, s97, s98, s99, s100, s101, s102, s103, s104, s105, s106, s107, s108, s109, s110, s111, s112, s113, s114, s115, s116, s117, s118, s119, s120, s121, s122, s123, s124, s125, s126, s127, s128, s129, s130, s131, s132, s133, s134, s135, s136, s137, s138, s139, s140, s141, s142, s143, s144, s145, s146, s147, s148, s149, s150, s151, s152, s153, s154, s155, s156, s157, s158, s159, s160, s161, s162, .slice ka kn kc, .int .i64 kn, .int .i64 0, s166, s167, s168, s169, s170, s171, s172, s173, s174, s175, s176, s177, s178, s179, s180, s181, s182, s183, s184, s185, s186, s187, s188, s189, s190, s191, s192, s193], []⟩ wC := by
  conv => arg 2; whnf
  go_wp2_with fail
  go_loopw [165] (fun iv wr => ∃ i : Nat, iv = .int .i64 i ∧ i ≤ kn ∧ (runK F (n + 1) G i).1 = 0 ∧ Blk wr Kn #[.int .i64 (runK F (n + 1) G i).2.1] 3 ∧ Blk wr Kg #[.int .i64 (runK F (n + 1) G i).2.2] 3 ∧ Blk wr P #[.int .i64 kind, .bool nt, .bool lz, .int .i64 lo, .int .i64 hi, .slice sa sn sc, .slice ka kn kc] 25 ∧ Two Kn Kg wC wr) (fun iv _ => kn - (intOf iv).toNat)
  case atStart => exact ⟨0, rfl, by omega, rfl, HK0.out, HG0.out, HP0.out, Aside.refl _ _ _⟩
  case round =>
    obtain ⟨i, rfl, hi, hz, hkb, hgb, hpb, ho⟩ := hrel
    have HZ := Lib.hid hz
    have hrg := runK_range (F := F) (m := kn) HFR.out (n := n + 1) (g := G) ⟨by omega, by omega, hg2.1, hg2.2⟩ i hi hz
    obtain ⟨ni, hni⟩ : ∃ ni, ni = (runK F (n + 1) G i).2.1 := ⟨_, rfl⟩
    obtain ⟨gi, hgi⟩ : ∃ gi, gi = (runK F (n + 1) G i).2.2 := ⟨_, rfl⟩
    rw [← hni] at hkb hrg
    rw [← hgi] at hgb hrg
    have HNI := Lib.hid hni
    have HGI := Lib.hid hgi
    have HKB := Lib.hid hkb
    have HGB := Lib.hid hgb
    have HPB := Lib.hid hpb
    have HO := Lib.hid ho
    obtain ⟨r1, r2, r3, r4⟩ := hrg
    have hPl := hpb.lt
    have hKl2 := hkb.lt
    have hGl2 := hgb.lt
    have HBW := Lib.hid (show Below W.heap.size W wr from HB.out.trans (Two.to_below ho HB.out.size hKn hKg))
    clear hz hkb hpb hgb ho hni hgi
    by_cases hin : i < kn
    case neg =>
      have HE := Lib.hid (show E = (0, ni, gi) by
        have h1 : i = kn := by omega
        rw [HR.out, ← h1, HNI.out, HGI.out, ← HZ.out])
      have hin2 : ¬ (i : Int) < (kn : Int) := by omega
      go_wp2_with fail
      go_meet
      rw [HE.out]
      exact ⟨rfl, HKB.out, HGB.out, HO.out⟩
    have hin2 : (i : Int) < (kn : Int) := by omega
    obtain ⟨b, off, hba, hcellG⟩ := (CellsF.below HKC.out (Nat.le_refl _) HBW.out) (by omega)
    have hcell := hcellG i hin
    have hih := HIH.out i hin
    obtain ⟨y, hy⟩ : ∃ y, y = (kf i).hd := ⟨_, rfl⟩
    simp only at hcell hba
    rw [← hy] at hcell hih
    have HY := Lib.hid hy
    obtain ⟨ykind, ynt, ylz, ylo, yhi, ysn, ysa, ysc, ysf, ykn, yka, ykc⟩ := y
    have d0 : wr.cell? ⟨b, off + i * 7, none⟩ = some (.int .i64 ykind) := hcell 0 (by omega)
    have d1 : wr.cell? ⟨b, off + i * 7 + 1, none⟩ = some (.bool ynt) := hcell 1 (by omega)
    have d2 : wr.cell? ⟨b, off + i * 7 + 2, none⟩ = some (.bool ylz) := hcell 2 (by omega)
    have d3 : wr.cell? ⟨b, off + i * 7 + 3, none⟩ = some (.int .i64 ylo) := hcell 3 (by omega)
    have d4 : wr.cell? ⟨b, off + i * 7 + 4, none⟩ = some (.int .i64 yhi) := hcell 4 (by omega)
    have d5 : wr.cell? ⟨b, off + i * 7 + 5, none⟩ = some (.slice ysa ysn ysc) := hcell 5 (by omega)
    have d6 : wr.cell? ⟨b, off + i * 7 + 6, none⟩ = some (.slice yka ykn ykc) := hcell 6 (by omega)
    have zb := lt_of_cell d0
    simp only at zb
    clear hcell hcellG hy
    subst hba
    have HIHH := Lib.hid hih
    clear hih
    obtain ⟨wx, hwx⟩ : ∃ wx, wx = wr.alloc (.cells #[.int .i64 ykind, .bool ynt, .bool ylz, .int .i64 ylo, .int .i64 yhi, .slice ysa ysn ysc, .slice yka ykn ykc] 25) := ⟨_, rfl⟩
    have HBX := Lib.hid (show Below wr.heap.size wr wx by rw [hwx]; exact (Below.refl _ _).alloc (Nat.le_refl _) _)
    have HX := Lib.hid (show Blk wx wr.heap.size #[.int .i64 ykind, .bool ynt, .bool ylz, .int .i64 ylo, .int .i64 yhi, .slice ysa ysn ysc, .slice yka ykn ykc] 25 by rw [hwx]; exact Blk.new _ _ _)
    have hsx := HBX.out.size
    have HKX := Lib.hid (HKB.out.below HBX.out hKl2)
    have HGX := Lib.hid (HGB.out.below HBX.out hGl2)
    have HPX := Lib.hid (HPB.out.below HBX.out hPl)
    have HOX := Lib.hid (Two.more HO.out HBX.out (Nat.le_refl _))
    have HWX := Lib.hid hwx
    clear hwx
    have hxP := HPX.out.cell (i := 0) rfl
    have hx0 := HX.out.cell (i := 0) rfl
    have hx1 := HX.out.cell (i := 1) rfl
    have hx2 := HX.out.cell (i := 2) rfl
    have hx3 := HX.out.cell (i := 3) rfl
    have hx4 := HX.out.cell (i := 4) rfl
    have hx5 := HX.out.cell (i := 5) rfl
    have hx6 := HX.out.cell (i := 6) rfl
    by_cases hl : ykind = kind ∧ (kind = 4 ∨ kind = 5)
    · have HE := Lib.hid (show E = (4, ni, gi) by
        have h1 : F i ni gi = (4, ni, gi) := by
          rw [HF.out]
          simp only
          rw [if_pos (by rw [← HY.out]; unfold likeB; simp only; omega)]
        have h2 : runK F (n + 1) G (i + 1) = (4, ni, gi) := by rw [runK_step HZ.out, ← HNI.out, ← HGI.out, h1]
        rw [HR.out, runK_stop (i := i + 1) (by rw [h2]; show (4 : Int) ≠ 0; omega) (by omega), h2])
      obtain ⟨hl1, hl2⟩ := hl
      subst hl1
      rcases hl2 with rfl | rfl
      all_goals
        go_upto_region 30 with fail
        rw [← HWX.out]
        go_wp2_with fail
        repeat (with_reducible first | refine ret_then3 ?_ | refine ret_block3 ?_)
        refine hRet _ _ (by rw [HE.out]; rfl) ?_
        rw [HE.out]
        exact ⟨HKX.out, HGX.out, HOX.out⟩
    have HNL := Lib.hid hl
    have HCF := Lib.hid (show runK F (n + 1) G (i + 1) = ckN (kf i) (d + 1) ni gi by
      rw [runK_step HZ.out, ← HNI.out, ← HGI.out, HF.out]
      simp only
      rw [if_neg (by rw [← HY.out]; unfold likeB; simp only; have h1 := HNL.out; omega)])
    have hc := HIHH.out (d + 1) ni gi Kn Kg wx (by omega) hd1 r1 r2 r3 r4 hKn hKg hne (HBW.out.trans (HBX.out.mono HBW.out.size)) HKX.out HGX.out
    obtain ⟨X, hX⟩ : ∃ X, X = ckN (kf i) (d + 1) ni gi := ⟨_, rfl⟩
    rw [← hX] at hc HCF
    unfold PH.cells at hc
    have HCX := Lib.hid hc
    have HCFX := HCF
    have e3 : IntKind.i64.wrap (d + 1) = d + 1 := IntWalk.i64_in _ ⟨by omega, by omega⟩
    clear hc hX
    by_cases k1 : ykind = kind
    · have k2 : (ykind == kind) = true := by simpa using k1
      have k3 : (ykind == 4) = false := by simp; omega
      have k4 : (ykind == 5) = false := by simp; omega
      clear hl k1
      go_upto_region 30 with fail
      rw [← HWX.out]
      by_cases hx : X.1 = 0
      case neg =>
        have hx2 : (X.1 != 0) = true := by simpa using hx
        have HE := Lib.hid (show E = X by
          rw [HR.out, runK_stop (i := i + 1) (by rw [HCFX.out]; exact hx) (by omega), HCFX.out])
        clear hx
        go_wp2_with (go_at_call 28; refine HCX.out.mono ?_; rintro e w3 ⟨rfl, hk3, hg3, ho3⟩)
        repeat (with_reducible first | refine ret_then3 ?_ | refine ret_block3 ?_)
        refine hRet _ _ (by rw [HE.out]; rfl) ?_
        rw [HE.out]
        exact ⟨hk3, hg3, HOX.out.trans ho3⟩
      case pos =>
        have hx2 : (X.1 != 0) = false := by simpa using hx
        have HX0 := Lib.hid hx
        clear hx
        go_wp2_with (go_at_call 28; refine HCX.out.mono ?_; rintro e w3 ⟨rfl, hk3, hg3, ho3⟩)
        go_roundw
        case rel => exact ⟨i + 1, by go_num, by omega, by rw [HCFX.out]; exact HX0.out, by rw [HCFX.out]; exact hk3, by rw [HCFX.out]; exact hg3, HPX.out.block (Aside.block ho3 P HPX.out.lt (by omega) (by simp [Value.ownBlock]; omega)), HOX.out.trans ho3⟩
        case measure => (simp [intOf]; try omega)
    · have k2 : (ykind == kind) = false := by simpa using k1
      clear hl k1
      go_upto_region 30 with fail
      rw [← HWX.out]
      by_cases hx : X.1 = 0
      case neg =>
        have hx2 : (X.1 != 0) = true := by simpa using hx
        have HE := Lib.hid (show E = X by
          rw [HR.out, runK_stop (i := i + 1) (by rw [HCFX.out]; exact hx) (by omega), HCFX.out])
        clear hx
        go_wp2_with (go_at_call 28; refine HCX.out.mono ?_; rintro e w3 ⟨rfl, hk3, hg3, ho3⟩)
        repeat (with_reducible first | refine ret_then3 ?_ | refine ret_block3 ?_)
        refine hRet _ _ (by rw [HE.out]; rfl) ?_
        rw [HE.out]
        exact ⟨hk3, hg3, HOX.out.trans ho3⟩
      case pos =>
        have hx2 : (X.1 != 0) = false := by simpa using hx
        have HX0 := Lib.hid hx
        clear hx
        go_wp2_with (go_at_call 28; refine HCX.out.mono ?_; rintro e w3 ⟨rfl, hk3, hg3, ho3⟩)
        go_roundw
        case rel => exact ⟨i + 1, by go_num, by omega, by rw [HCFX.out]; exact HX0.out, by rw [HCFX.out]; exact hk3, by rw [HCFX.out]; exact hg3, HPX.out.block (Aside.block ho3 P HPX.out.lt (by omega) (by simp [Value.ownBlock]; omega)), HOX.out.trans ho3⟩
        case measure => (simp [intOf]; try omega)
end Go.Proofs.YtghbicajcffjhaaDoor.PC
