/-
  BdRPkE, BdRPkF, BdRPkW, BdRRsP.
-/
import Derived.Test.YtojbicdmcodgdaaDoorBdM19
import Derived.Test.YtojbicdmcodgdaaDoorBdM13
import Derived.BigQuiet
import Derived.Deep.CutRange
import Derived.Deep.CutBlock
import Derived.Test.YtojbicdmcodgdaaDoorBdM20
import Derived.Test.YtojbicdmcodgdaaDoorBdM07
import Derived.Test.YtojbicdmcodgdaaDoorBdM03
import Derived.Test.YtojbicdmcodgdaaDoorBdM17
import Derived.Test.YtojbicdmcodgdaaDoorBdM08
import Derived.Test.YtojbicdmcodgdaaDoorBdM09
import Derived.Test.YtojbicdmcodgdaaDoorBdM02
namespace Go.Proofs.YtojbicdmcodgdaaDoor.BD
open Go.RowKit Go.Law Go.Law.Bd
set_option linter.unusedVariables false
set_option linter.unusedSimpArgs false
set_option maxRecDepth 100000
set_option maxHeartbeats 8000000 in
theorem pkGroup {p : WdP} {W : Nat → Int} {b : Nat} {w0 wA : World} {a z q : Nat} {cl : Int} (OK : Hid (WdOk p)) (HW : Hid (Ws p W b w0 wA)) (HQ : Hid (Blk wA q #[.int .i64 (a : Nat), .int .i64 (z : Nat)] 3)) (hqg : q ≠ p.g) (ham : a < p.m) (hzm : z < p.m)
    {s0 s2 s3 s4 s5 s6 s7 s8 s9 s10 s11 s12 s13 s14 s15 s16 s18 s19 s20 s21 s22 s23 s24 s25 s26 s27 s28 s29 s30 s31 s32 s33 s34 s35 s36 s37 s38 s39 s40 s41 s42 s43 s44 s45 s46 s47 s48 s49 s50 s51 s52 s53 s54 s55 s56 s57 s58 s59 s60 s61 s62 s63 s64 s65 s66 s67 s68 s69 s70 s71 s72 s73 s74 s75 s76 s77 s78 s79 s80 s81 s82 s83 s84 s85 s86 s87 s88 s89 s90 s91 s92 s93 s94 s95 s96 s97 s98 s99 s100 s101 s102 s103 s104 s105 s106 s107 s108 s109 s110 s111 s112 s113 s114 s115 s116 s117 s118 s119 s120 s121 s122 s123 s124 s125 s126 s127 s128 s129 s130 s131 s132 s133 s134 s135 s136 s137 s138 s139 s140 s141 s142 s143 s144 s145 s146 s147 s148 s149 s150 s151 s152 s153 s154 s155 s156 s157 s158 s159 s160 s161 s162 s163 s164 s165 s166 s167 s168 s169 s170 s174 s175 s176 s177 s178 s179 s180 s181 s182 s183 s184 s185 s186 s187 s188 s189 s190 s191 s192 s193 s194 s195 s196 s197 s198 s199 s200 s201 s202 s203 s204 s205 s206 s207 s208 : Value} {J K' : Act → World → Prop} {Q : Exit → Act → World → Prop}
    (hJ : ∀ (a' : Act) (w' : World), (∃ u21 u173 u174 u175 u176 u177 u178 u179 u180 u181 u182 u183 u184 u185 u186 u187 u188 u189 u190 u191 u192 u193 u194 u195 u196 u197 u198 u199 u200 u201 u202 u203 u204 u205 u206 u207 : Value, (Ws p (gE (fun k => p.K (p.A k)) W cl a z 2) b w0 w' ∧ Save (fun k => k = p.g) wA w') ∧ a' = ⟨#[s0, .pointer (some ⟨b, 0, none⟩), s2, s3, s4, s5, s6, s7, s8, s9, s10, s11, s12, s13, s14, s15, s16, .int .i64 cl, s18, s19, s20, u21, s22, s23, s24, s25, s26, s27, s28, s29, s30, s31, s32, s33, s34, s35, s36, s37, s38, s39, s40, s41, s42, s43, s44, s45, s46, s47, s48, s49, s50, s51, s52, s53, s54, s55, s56, s57, s58, s59, s60, s61, s62, s63, s64, s65, s66, s67, s68, s69, s70, s71, s72, s73, s74, s75, s76, s77, s78, s79, s80, s81, s82, s83, s84, s85, s86, s87, s88, s89, s90, s91, s92, s93, s94, s95, s96, s97, s98, s99, s100, s101, s102, s103, s104, s105, s106, s107, s108, s109, s110, s111, s112, s113, s114, s115, s116, s117, s118, s119, s120, s121, s122, s123, s124, s125, s126, s127, s128, s129, s130, s131, s132, s133, s134, s135, s136, s137, s138, s139, s140, s141, s142, s143, s144, s145, s146, s147, s148, s149, s150, s151, s152, s153, s154, s155, s156, s157, s158, s159, s160, s161, s162, s163, s164, s165, s166, s167, s168, s169, s170, .slice (some ⟨q, 0, none⟩) 2 2, .int .i64 2, u173, u174, u175, u176, u177, u178, u179, u180, u181, u182, u183, u184, u185, u186, u187, u188, u189, u190, u191, u192, u193, u194, u195, u196, u197, u198, u199, u200, u201, u202, u203, u204, u205, u206, u207, s208], []⟩) → J a' w')
    (hK : ∀ (a' : Act) (w' : World), Met J a' w' → K' a' w') :
    Code.wp Tryd.prog (theBlk Tryd.f29 14) (Exit.then K' Q) ⟨#[s0, .pointer (some ⟨b, 0, none⟩), s2, s3, s4, s5, s6, s7, s8, s9, s10, s11, s12, s13, s14, s15, s16, .int .i64 cl, s18, s19, s20, s21, s22, s23, s24, s25, s26, s27, s28, s29, s30, s31, s32, s33, s34, s35, s36, s37, s38, s39, s40, s41, s42, s43, s44, s45, s46, s47, s48, s49, s50, s51, s52, s53, s54, s55, s56, s57, s58, s59, s60, s61, s62, s63, s64, s65, s66, s67, s68, s69, s70, s71, s72, s73, s74, s75, s76, s77, s78, s79, s80, s81, s82, s83, s84, s85, s86, s87, s88, s89, s90, s91, s92, s93, s94, s95, s96, s97, s98, s99, s100, s101, s102, s103, s104, s105, s106, s107, s108, s109, s110, s111, s112, s113, s114, s115, s116, s117, s118, s119, s120, s121, s122, s123, s124, s125, s126, s127, s128, s129, s130, s131, s132, s133, s134, s135, s136, s137, s138, s139, s140, s141, s142, s143, s144, s145, s146, s147, s148, s149, s150, s151, s152, s153, s154, s155, s156, s157, s158, s159, s160, s161, s162, s163, s164, s165, s166, s167, s168, s169, s170, .slice (some ⟨q, 0, none⟩) 2 2, .int .i64 2, .int .i64 0, s174, s175, s176, s177, s178, s179, s180, s181, s182, s183, s184, s185, s186, s187, s188, s189, s190, s191, s192, s193, s194, s195, s196, s197, s198, s199, s200, s201, s202, s203, s204, s205, s206, s207, s208], []⟩ wA := by
  have hm := OK.out.m2
  have hn := OK.out.n2
  have hmca := OK.out.mca
  have hql := HQ.out.lt
  conv => arg 2; whnf
  go_wp2_with fail
  go_loopw [173] (fun iv wr => ∃ e : Nat, iv = .int .i64 e ∧ e ≤ 2 ∧ Ws p (gE (fun k => p.K (p.A k)) W cl a z e) b w0 wr ∧ Save (fun k => k = p.g) wA wr) (fun iv _ => 2 - (intOf iv).toNat)
  case atStart => exact ⟨0, rfl, by omega, HW.out.congr fun j _ => (gE_zero _ _ _ _ _ j).symm, Save.refl _ _⟩
  case round =>
    obtain ⟨e, rfl, he, hws, hsv⟩ := hrel
    clear HW
    have HQR := Lib.hid (show Blk wr q #[.int .i64 (a : Nat), .int .i64 (z : Nat)] 3 from HQ.out.block (hsv.block q hql hqg))
    have HSV := Lib.hid hsv
    clear hsv
    obtain rfl | rfl | rfl : e = 0 ∨ e = 1 ∨ e = 2 := by omega
    · have HWS := Lib.hid (hws.congr fun j _ => gE_zero _ _ _ _ _ j)
      clear hws he
      have r0 : wr.cell? ⟨q, 0, none⟩ = some (.int .i64 (a : Nat)) := HQR.out.cell (i := 0) rfl
      obtain ⟨x0, x1, x2, x3, x4⟩ := HWS.out.box
      have hbl := HWS.out.bx.lt
      have HPU := Lib.hid (wput_any OK.out HWS.out.wd a ham cl)
      unfold WdP.cs at HPU
      go_wp2_with fail
      refine HPU.out.mono ?_
      rintro e3 w3 ⟨rfl, hd3, hs3⟩
      have HW3 := Lib.hid ((HWS.out.save hd3 hs3).congr fun j _ => grpT_start j)
      have HS3 := Lib.hid (HSV.out.trans hs3)
      dsimp only
      clear hd3 hs3 HPU x0 x1 x2 x3 x4 hbl r0 HWS HSV HQR
      have hw9 := IntWalk.i64_in ((a : Int) + 1) (by omega)
      go_wp2_with fail
      go_loopw [21] (fun tv wx => ∃ t : Nat, tv = .int .i64 t ∧ a < t ∧ t ≤ p.m ∧ (∀ y, a < y → y < t → p.K (p.A y) = 8) ∧ Ws p (grpT (W) cl a t) b w0 wx ∧ Save (fun k => k = p.g) wA wx) (fun tv _ => p.m - (intOf tv).toNat)
      case atStart => exact ⟨a + 1, by go_num, by omega, by omega, fun y h1 h2 => by omega, HW3.out, HS3.out⟩
      case round =>
        clear HW3 HS3
        obtain ⟨t, rfl, hxt, htm, hall, hws, hsv⟩ := hrel
        have HWS := Lib.hid hws
        have HSV := Lib.hid hsv
        have HA := Lib.hid hall
        obtain ⟨x0, x1, x2, x3, x4⟩ := hws.box
        have hbl := hws.bx.lt
        clear hws hsv hall hw9
        by_cases htm2 : t < p.m
        · have a1 : wr.cell? ⟨p.ga, t, none⟩ = some (.int .i64 (p.A t : Nat)) := HWS.out.wd.pt t htm2
          have hAt := OK.out.pl t htm2
          have hAt2 : ((p.A t : Nat) : Int) < (p.n : Int) := by omega
          obtain ⟨_, a2, _⟩ := HWS.out.wd.char OK.out htm2
          have hti : (t : Int) < (p.m : Int) := by omega
          obtain ⟨kt, hkt⟩ : ∃ k, k = p.K (p.A t) := ⟨_, rfl⟩
          rw [← hkt] at a2
          have HKT := Lib.hid hkt
          clear hkt
          by_cases h8 : kt = 8
          · have h8' : (kt == 8) = true := by simpa using h8
            have HA2 := Lib.hid (show ∀ y, a < y → y < t + 1 → p.K (p.A y) = 8 from fun y h1 h2 => by
              rcases Nat.lt_or_ge y t with h | h
              · exact HA.out y h1 h
              · rw [show y = t by omega, ← HKT.out]; exact h8)
            clear h8
            go_wp2_with fail
            go_quiet (fail)
            go_wp2_with fail
            obtain ⟨w4, hw4⟩ : ∃ x, x = wr.drewN nq := ⟨_, rfl⟩
            have HW4 := Lib.hid (show Ws p (grpT (W) cl a t) b w0 w4 by rw [hw4]; exact HWS.out.drewN nq)
            have HS4 := Lib.hid (show Save (fun k => k = p.g) wA w4 by rw [hw4]; exact HSV.out.drewN nq)
            rw [← hw4]
            clear hw4 x0 x1 x2 x3 x4 hbl a1 a2 HWS HSV
            obtain ⟨x0, x1, x2, x3, x4⟩ := HW4.out.box
            have hbl := HW4.out.bx.lt
            have HPU := Lib.hid (wput_any OK.out HW4.out.wd t htm2 cl)
            unfold WdP.cs at HPU
            go_wp2_with fail
            refine HPU.out.mono ?_
            rintro e5 w5 ⟨rfl, hd5, hs5⟩
            have HW5 := Lib.hid ((HW4.out.save hd5 hs5).congr fun j _ => grpT_step (Nat.le_of_lt hxt) j)
            have HS5 := Lib.hid (HS4.out.trans hs5)
            dsimp only
            clear hd5 hs5 HPU x0 x1 x2 x3 x4 hbl HW4 HS4
            go_wp2_with fail
            go_roundw
            case rel => exact ⟨t + 1, by go_num, by omega, by omega, HA2.out, HW5.out, HS5.out⟩
            case measure => simp [intOf]; omega
          · have h8' : (kt == 8) = false := by simpa using h8
            have HE := Lib.hid (show t = p.m ∨ p.K (p.A t) ≠ 8 from .inr (by rw [← HKT.out]; exact h8))
            clear h8
            go_wp2_with fail
            go_quiet (fail)
            have HWE := Lib.hid ((HWS.out.drewN nq).congr (F' := gE (fun k => p.K (p.A k)) W cl a z 1) fun j hj => (grpT_end (Ow := fun k => p.K (p.A k)) hxt HA.out HE.out hj).trans ((fun j => (gE_one _ _ _ _ _ j).symm) j))
            have HSE := Lib.hid (HSV.out.drewN nq)
            clear x0 x1 x2 x3 x4 hbl a1 a2 HWS HSV
            go_wp2_with fail
            go_roundw
            case rel => exact ⟨1, rfl, by omega, HWE.out, HSE.out⟩
            case measure => simp [intOf]
        · have HE := Lib.hid (show t = p.m ∨ p.K (p.A t) ≠ 8 from .inl (by omega))
          have hti : ¬ (t : Int) < (p.m : Int) := by omega
          go_wp2_with fail
          go_quiet (fail)
          have HWE := Lib.hid ((HWS.out.drewN nq).congr (F' := gE (fun k => p.K (p.A k)) W cl a z 1) fun j hj => (grpT_end (Ow := fun k => p.K (p.A k)) hxt HA.out HE.out hj).trans ((fun j => (gE_one _ _ _ _ _ j).symm) j))
          have HSE := Lib.hid (HSV.out.drewN nq)
          clear x0 x1 x2 x3 x4 hbl HWS HSV
          go_wp2_with fail
          go_roundw
          case rel => exact ⟨1, rfl, by omega, HWE.out, HSE.out⟩
          case measure => simp [intOf]
    · have HWS := Lib.hid hws
      clear hws he
      have r0 : wr.cell? ⟨q, 1, none⟩ = some (.int .i64 (z : Nat)) := HQR.out.cell (i := 1) rfl
      obtain ⟨x0, x1, x2, x3, x4⟩ := HWS.out.box
      have hbl := HWS.out.bx.lt
      have HPU := Lib.hid (wput_any OK.out HWS.out.wd z hzm cl)
      unfold WdP.cs at HPU
      go_wp2_with fail
      refine HPU.out.mono ?_
      rintro e3 w3 ⟨rfl, hd3, hs3⟩
      have HW3 := Lib.hid ((HWS.out.save hd3 hs3).congr fun j _ => grpT_start j)
      have HS3 := Lib.hid (HSV.out.trans hs3)
      dsimp only
      clear hd3 hs3 HPU x0 x1 x2 x3 x4 hbl r0 HWS HSV HQR
      have hw9 := IntWalk.i64_in ((z : Int) + 1) (by omega)
      go_wp2_with fail
      go_loopw [21] (fun tv wx => ∃ t : Nat, tv = .int .i64 t ∧ z < t ∧ t ≤ p.m ∧ (∀ y, z < y → y < t → p.K (p.A y) = 8) ∧ Ws p (grpT (gE (fun k => p.K (p.A k)) W cl a z 1) cl z t) b w0 wx ∧ Save (fun k => k = p.g) wA wx) (fun tv _ => p.m - (intOf tv).toNat)
      case atStart => exact ⟨z + 1, by go_num, by omega, by omega, fun y h1 h2 => by omega, HW3.out, HS3.out⟩
      case round =>
        clear HW3 HS3
        obtain ⟨t, rfl, hxt, htm, hall, hws, hsv⟩ := hrel
        have HWS := Lib.hid hws
        have HSV := Lib.hid hsv
        have HA := Lib.hid hall
        obtain ⟨x0, x1, x2, x3, x4⟩ := hws.box
        have hbl := hws.bx.lt
        clear hws hsv hall hw9
        by_cases htm2 : t < p.m
        · have a1 : wr.cell? ⟨p.ga, t, none⟩ = some (.int .i64 (p.A t : Nat)) := HWS.out.wd.pt t htm2
          have hAt := OK.out.pl t htm2
          have hAt2 : ((p.A t : Nat) : Int) < (p.n : Int) := by omega
          obtain ⟨_, a2, _⟩ := HWS.out.wd.char OK.out htm2
          have hti : (t : Int) < (p.m : Int) := by omega
          obtain ⟨kt, hkt⟩ : ∃ k, k = p.K (p.A t) := ⟨_, rfl⟩
          rw [← hkt] at a2
          have HKT := Lib.hid hkt
          clear hkt
          by_cases h8 : kt = 8
          · have h8' : (kt == 8) = true := by simpa using h8
            have HA2 := Lib.hid (show ∀ y, z < y → y < t + 1 → p.K (p.A y) = 8 from fun y h1 h2 => by
              rcases Nat.lt_or_ge y t with h | h
              · exact HA.out y h1 h
              · rw [show y = t by omega, ← HKT.out]; exact h8)
            clear h8
            go_wp2_with fail
            go_quiet (fail)
            go_wp2_with fail
            obtain ⟨w4, hw4⟩ : ∃ x, x = wr.drewN nq := ⟨_, rfl⟩
            have HW4 := Lib.hid (show Ws p (grpT (gE (fun k => p.K (p.A k)) W cl a z 1) cl z t) b w0 w4 by rw [hw4]; exact HWS.out.drewN nq)
            have HS4 := Lib.hid (show Save (fun k => k = p.g) wA w4 by rw [hw4]; exact HSV.out.drewN nq)
            rw [← hw4]
            clear hw4 x0 x1 x2 x3 x4 hbl a1 a2 HWS HSV
            obtain ⟨x0, x1, x2, x3, x4⟩ := HW4.out.box
            have hbl := HW4.out.bx.lt
            have HPU := Lib.hid (wput_any OK.out HW4.out.wd t htm2 cl)
            unfold WdP.cs at HPU
            go_wp2_with fail
            refine HPU.out.mono ?_
            rintro e5 w5 ⟨rfl, hd5, hs5⟩
            have HW5 := Lib.hid ((HW4.out.save hd5 hs5).congr fun j _ => grpT_step (Nat.le_of_lt hxt) j)
            have HS5 := Lib.hid (HS4.out.trans hs5)
            dsimp only
            clear hd5 hs5 HPU x0 x1 x2 x3 x4 hbl HW4 HS4
            go_wp2_with fail
            go_roundw
            case rel => exact ⟨t + 1, by go_num, by omega, by omega, HA2.out, HW5.out, HS5.out⟩
            case measure => simp [intOf]; omega
          · have h8' : (kt == 8) = false := by simpa using h8
            have HE := Lib.hid (show t = p.m ∨ p.K (p.A t) ≠ 8 from .inr (by rw [← HKT.out]; exact h8))
            clear h8
            go_wp2_with fail
            go_quiet (fail)
            have HWE := Lib.hid ((HWS.out.drewN nq).congr (F' := gE (fun k => p.K (p.A k)) W cl a z 2) fun j hj => (grpT_end (Ow := fun k => p.K (p.A k)) hxt HA.out HE.out hj).trans ((fun j => by rw [gE_one, gE_two]) j))
            have HSE := Lib.hid (HSV.out.drewN nq)
            clear x0 x1 x2 x3 x4 hbl a1 a2 HWS HSV
            go_wp2_with fail
            go_roundw
            case rel => exact ⟨2, rfl, by omega, HWE.out, HSE.out⟩
            case measure => simp [intOf]
        · have HE := Lib.hid (show t = p.m ∨ p.K (p.A t) ≠ 8 from .inl (by omega))
          have hti : ¬ (t : Int) < (p.m : Int) := by omega
          go_wp2_with fail
          go_quiet (fail)
          have HWE := Lib.hid ((HWS.out.drewN nq).congr (F' := gE (fun k => p.K (p.A k)) W cl a z 2) fun j hj => (grpT_end (Ow := fun k => p.K (p.A k)) hxt HA.out HE.out hj).trans ((fun j => by rw [gE_one, gE_two]) j))
          have HSE := Lib.hid (HSV.out.drewN nq)
          clear x0 x1 x2 x3 x4 hbl HWS HSV
          go_wp2_with fail
          go_roundw
          case rel => exact ⟨2, rfl, by omega, HWE.out, HSE.out⟩
          case measure => simp [intOf]
    · have HWS := Lib.hid hws
      clear hws
      go_wp2_with fail
      go_meet
      exact ⟨HWS.out, HSV.out⟩
end Go.Proofs.YtojbicdmcodgdaaDoor.BD
namespace Go.Law.Bd
open Go Go.Law Go.RowKit
/-- the classes behind the pairs that open ahead of a place -/
def foB (Ow : Nat → Int) (bef own : Int) (P : List (Nat × Nat)) (F : Nat → Int) (a : Nat) : Nat → Int := (ordB P a).foldl (bkSet Ow bef own) F
theorem foB_zero (Ow : Nat → Int) (bef own : Int) (P : List (Nat × Nat)) (F : Nat → Int) : foB Ow bef own P F 0 = F := by unfold foB ordB; simp
theorem foB_none {Ow : Nat → Int} {bef own : Int} {P : List (Nat × Nat)} {F : Nat → Int} {a : Nat} (h : mtB P a = none) : foB Ow bef own P F (a + 1) = foB Ow bef own P F a := by
  unfold foB; rw [ordB_succ, h]; simp
theorem foB_some {Ow : Nat → Int} {bef own : Int} {P : List (Nat × Nat)} {F : Nat → Int} {a z : Nat} (h : mtB P a = some z) : foB Ow bef own P F (a + 1) = bkSet Ow bef own (foB Ow bef own P F a) (a, z) := by
  unfold foB; rw [ordB_succ, h, List.foldl_append]; simp
end Go.Law.Bd
namespace Go.Proofs.YtojbicdmcodgdaaDoor.BD
open Go.RowKit Go.Law Go.Law.Bd
set_option linter.unusedVariables false
set_option linter.unusedSimpArgs false
set_option maxRecDepth 100000
set_option maxHeartbeats 16000000 in
theorem pkPairs {p : WdP} {F T : Nat → Int} {b gm : Nat} {w0 wP : World} {P : List (Nat × Nat)} (OK : Hid (WdOk p)) (HW : Hid (Ws p F b w0 wP)) (HM : Hid (OwnF wP 3 gm p.m (mtV P))) (hgmg : gm ≠ p.g) (HP : Hid (∀ a z, mtB P a = some z → a < z ∧ z < p.m)) (hbf : p.bef = 0 ∨ p.bef = 1)
    {s0 s3 s4 s5 s6 s7 s8 s9 s11 s12 s13 s14 s15 s16 s17 s18 s19 s20 s21 s22 s23 s24 s25 s26 s27 s28 s29 s30 s31 s32 s33 s34 s35 s36 s37 s38 s39 s40 s41 s42 s43 s44 s45 s46 s47 s48 s49 s50 s51 s52 s53 s54 s55 s56 s57 s58 s59 s60 s61 s62 s63 s64 s65 s66 s67 s68 s69 s70 s71 s72 s73 s74 s75 s76 s77 s78 s79 s80 s81 s82 s83 s84 s85 s86 s87 s88 s89 s90 s91 s92 s93 s94 s95 s96 s97 s98 s99 s100 s101 s102 s103 s104 s105 s106 s107 s108 s109 s110 s111 s112 s113 s114 s115 s116 s120 s121 s122 s123 s124 s125 s126 s127 s128 s129 s130 s131 s132 s133 s134 s135 s136 s137 s138 s139 s140 s141 s142 s143 s144 s145 s146 s147 s148 s149 s150 s151 s152 s153 s154 s155 s156 s157 s158 s159 s160 s161 s162 s163 s164 s165 s166 s167 s168 s169 s170 s171 s172 s173 s174 s175 s176 s177 s178 s179 s180 s181 s182 s183 s184 s185 s186 s187 s188 s189 s190 s191 s192 s193 s194 s195 s196 s197 s198 s199 s200 s201 s202 s203 s204 s205 s206 s207 s208 : Value} {J K' : Act → World → Prop} {Q : Exit → Act → World → Prop}
    (hJ : ∀ (a' : Act) (w' : World), (∃ u11 u12 u13 u14 u15 u16 u17 u18 u19 u21 u119 u120 u121 u122 u123 u124 u125 u126 u127 u128 u129 u130 u131 u132 u133 u134 u135 u136 u137 u138 u139 u140 u141 u142 u143 u144 u145 u146 u147 u148 u149 u150 u151 u152 u153 u154 u155 u156 u157 u158 u159 u160 u161 u162 u163 u164 u165 u166 u167 u168 u169 u170 u171 u172 u173 u174 u175 u176 u177 u178 u179 u180 u181 u182 u183 u184 u185 u186 u187 u188 u189 u190 u191 u192 u193 u194 u195 u196 u197 u198 u199 u200 u201 u202 u203 u204 u205 u206 u207 u208 : Value, (Ws p (foB (fun k => p.K (p.A k)) p.bef (sideB p.lev) P F p.m) b w0 w' ∧ Save (fun k => k = p.g) wP w') ∧ a' = ⟨#[s0, .pointer (some ⟨b, 0, none⟩), .slice (some ⟨gm, 0, none⟩) p.m p.m, s3, s4, s5, s6, s7, s8, s9, .int .i64 (sideB p.lev), u11, u12, u13, u14, u15, u16, u17, u18, u19, s20, u21, s22, s23, s24, s25, s26, s27, s28, s29, s30, s31, s32, s33, s34, s35, s36, s37, s38, s39, s40, s41, s42, s43, s44, s45, s46, s47, s48, s49, s50, s51, s52, s53, s54, s55, s56, s57, s58, s59, s60, s61, s62, s63, s64, s65, s66, s67, s68, s69, s70, s71, s72, s73, s74, s75, s76, s77, s78, s79, s80, s81, s82, s83, s84, s85, s86, s87, s88, s89, s90, s91, s92, s93, s94, s95, s96, s97, s98, s99, s100, s101, s102, s103, s104, s105, s106, s107, s108, s109, s110, s111, s112, s113, s114, s115, s116, .slice (some ⟨gm, 0, none⟩) p.m p.m, .int .i64 p.m, u119, u120, u121, u122, u123, u124, u125, u126, u127, u128, u129, u130, u131, u132, u133, u134, u135, u136, u137, u138, u139, u140, u141, u142, u143, u144, u145, u146, u147, u148, u149, u150, u151, u152, u153, u154, u155, u156, u157, u158, u159, u160, u161, u162, u163, u164, u165, u166, u167, u168, u169, u170, u171, u172, u173, u174, u175, u176, u177, u178, u179, u180, u181, u182, u183, u184, u185, u186, u187, u188, u189, u190, u191, u192, u193, u194, u195, u196, u197, u198, u199, u200, u201, u202, u203, u204, u205, u206, u207, u208], []⟩) → J a' w')
    (hK : ∀ (a' : Act) (w' : World), Met J a' w' → K' a' w') :
    Code.wp Tryd.prog (theBlk Tryd.f29 8) (Exit.then K' Q) ⟨#[s0, .pointer (some ⟨b, 0, none⟩), .slice (some ⟨gm, 0, none⟩) p.m p.m, s3, s4, s5, s6, s7, s8, s9, .int .i64 (sideB p.lev), s11, s12, s13, s14, s15, s16, s17, s18, s19, s20, s21, s22, s23, s24, s25, s26, s27, s28, s29, s30, s31, s32, s33, s34, s35, s36, s37, s38, s39, s40, s41, s42, s43, s44, s45, s46, s47, s48, s49, s50, s51, s52, s53, s54, s55, s56, s57, s58, s59, s60, s61, s62, s63, s64, s65, s66, s67, s68, s69, s70, s71, s72, s73, s74, s75, s76, s77, s78, s79, s80, s81, s82, s83, s84, s85, s86, s87, s88, s89, s90, s91, s92, s93, s94, s95, s96, s97, s98, s99, s100, s101, s102, s103, s104, s105, s106, s107, s108, s109, s110, s111, s112, s113, s114, s115, s116, .slice (some ⟨gm, 0, none⟩) p.m p.m, .int .i64 p.m, .int .i64 0, s120, s121, s122, s123, s124, s125, s126, s127, s128, s129, s130, s131, s132, s133, s134, s135, s136, s137, s138, s139, s140, s141, s142, s143, s144, s145, s146, s147, s148, s149, s150, s151, s152, s153, s154, s155, s156, s157, s158, s159, s160, s161, s162, s163, s164, s165, s166, s167, s168, s169, s170, s171, s172, s173, s174, s175, s176, s177, s178, s179, s180, s181, s182, s183, s184, s185, s186, s187, s188, s189, s190, s191, s192, s193, s194, s195, s196, s197, s198, s199, s200, s201, s202, s203, s204, s205, s206, s207, s208], []⟩ wP := by
  have hm := OK.out.m2
  have hn := OK.out.n2
  have hmca := OK.out.mca
  have how := sideB_range p.lev
  conv => arg 2; whnf
  go_wp2_with fail
  go_loopw [119] (fun iv wr => ∃ a : Nat, iv = .int .i64 a ∧ a ≤ p.m ∧ Ws p (foB (fun k => p.K (p.A k)) p.bef (sideB p.lev) P F a) b w0 wr ∧ Save (fun k => k = p.g) wP wr) (fun iv _ => p.m - (intOf iv).toNat)
  case atStart => exact ⟨0, rfl, by omega, by rw [foB_zero]; exact HW.out, Save.refl _ _⟩
  case round =>
    obtain ⟨a, rfl, ha, hws, hsv⟩ := hrel
    clear HW
    have HS := Lib.hid hsv
    by_cases ham : a < p.m
    case neg =>
      obtain rfl : a = p.m := by omega
      have HW := Lib.hid hws
      clear hws hsv
      go_wp2_with fail
      go_meet
      exact ⟨HW.out, HS.out⟩
    have m0 : wr.cell? ⟨gm, a, none⟩ = some (.int .i64 (mtV P a)) := (World.cell?_of_block (w := wP) (hsv.block gm HM.out.lt hgmg)).trans (HM.out.cell ham)
    cases hmt : mtB P a with
    | none =>
      have e1 : mtV P a = -1 := by unfold mtV; rw [hmt]
      have HW := Lib.hid (show Ws p (foB (fun k => p.K (p.A k)) p.bef (sideB p.lev) P F (a + 1)) b w0 wr by rw [foB_none hmt]; exact hws)
      rw [e1] at m0
      clear hws hsv hmt e1
      go_wp2_with fail
      go_roundw
      case rel => exact ⟨a + 1, by go_num, by omega, HW.out, HS.out⟩
      case measure => simp [intOf]; omega
    | some z =>
      have e1 : mtV P a = (z : Nat) := by unfold mtV; rw [hmt]
      have hz := HP.out a z hmt
      have haz := hz.1
      have hzm := hz.2
      rw [e1] at m0
      obtain ⟨W, hW⟩ : ∃ W, W = foB (fun k => p.K (p.A k)) p.bef (sideB p.lev) P F a := ⟨_, rfl⟩
      rw [← hW] at hws
      have HW := Lib.hid hws
      have HAF := Lib.hid (show foB (fun k => p.K (p.A k)) p.bef (sideB p.lev) P F (a + 1) = bkSet (fun k => p.K (p.A k)) p.bef (sideB p.lev) W (a, z) by rw [foB_some hmt, hW])
      have hwa := IntWalk.i64_in ((a : Int) + 1) (by omega)
      have hwb := IntWalk.i64_in ((a : Int) - 1) (by omega)
      have hz0 : ¬ (z : Int) < 0 := by omega
      clear hws hsv hmt e1 hz hW
      go_upto_block 10 with fail
      go_cut [13, 14, 15, 16] from 128 to 152 (fun sv ov _ _ wx => sv = .bool (sameB W (sideB p.lev) a z) ∧ ov = .bool (otherB W (sideB p.lev) a z) ∧ Below wr.heap.size wr wx)
      case first => exact pkScan OK HW haz hzm how (by assumption) (by assumption)
      case rest =>
      obtain ⟨rfl, rfl, hb1⟩ := hcut
      obtain ⟨w1, rfl⟩ : ∃ x : World, x = wc := ⟨_, rfl⟩
      have HW1 := Lib.hid (HW.out.below hb1)
      have HS1 := Lib.hid (HS.out.trans (Save.of_below hb1 (Nat.le_refl _)))
      clear hb1 m0 HW HS
      obtain ⟨S, hS⟩ : ∃ S, S = sameB W (sideB p.lev) a z := ⟨_, rfl⟩
      obtain ⟨Ot, hOt⟩ : ∃ S, S = otherB W (sideB p.lev) a z := ⟨_, rfl⟩
      rw [← hS, ← hOt]
      have HSS := Lib.hid hS
      have HOO := Lib.hid hOt
      clear hS hOt
      cases S with
      | true =>
        have HSET := Lib.hid (show ∀ j, foB (fun k => p.K (p.A k)) p.bef (sideB p.lev) P F (a + 1) j = if grpB (fun k => p.K (p.A k)) z j = true then sideB p.lev else if grpB (fun k => p.K (p.A k)) a j = true then sideB p.lev else W j from fun j => by
          rw [HAF.out, bkSet_is (cl := sideB p.lev) (.inl HSS.out.symm) (if_pos HSS.out.symm).symm])
        obtain ⟨wq, hwq⟩ : ∃ x, x = w1.alloc (Obj.cells #[.int .i64 (a : Nat), .int .i64 (z : Nat)] 3) := ⟨_, rfl⟩
        obtain ⟨q, hq⟩ : ∃ x, x = w1.heap.size := ⟨_, rfl⟩
        have HQB := Lib.hid (show Blk wq q #[.int .i64 (a : Nat), .int .i64 (z : Nat)] 3 by rw [hwq, hq]; exact Blk.new _ _ _)
        have HWQ := Lib.hid (show Ws p W b w0 wq by rw [hwq]; exact HW1.out.alloc _)
        have HSQ := Lib.hid (show Save (fun k => k = p.g) wP wq by rw [hwq]; exact HS1.out.alloc _)
        have hqg : q ≠ p.g := by have := HW1.out.wd.lt; omega
        go_upto_region 47 with fail
        go_upto_block 14 with fail
        rw [← hwq, ← hq]
        clear hwq hq
        refine wp_open (fun K0 hK0 => ?_)
        go_cut [21] from 173 to 207 (fun _ wx => Ws p (gE (fun k => p.K (p.A k)) W (sideB p.lev) a z 2) b w0 wx ∧ Save (fun k => k = p.g) wq wx)
        case first => exact pkGroup OK HWQ HQB hqg ham hzm (by assumption) (by assumption)
        case rest =>
        obtain ⟨hws, hsv⟩ := hcut
        have HW9 := Lib.hid (hws.congr (F' := foB (fun k => p.K (p.A k)) p.bef (sideB p.lev) P F (a + 1)) (fun j _ => (gE_two _ _ _ _ _ j).trans (HSET.out j).symm))
        have HS9 := Lib.hid (HSQ.out.trans hsv)
        clear hws hsv HWQ HSQ HQB
        refine hK0 _ _ ?_
        clear hK0 K0
        simp only [Exit.inBlock, Exit.then]
        go_wp2_with fail
        go_roundw
        case rel => exact ⟨a + 1, by go_num, by omega, HW9.out, HS9.out⟩
        case measure => simp [intOf]; omega
      | false =>
        cases Ot with
        | false =>
          have HN := Lib.hid (show Ws p (foB (fun k => p.K (p.A k)) p.bef (sideB p.lev) P F (a + 1)) b w0 w1 by
            rw [HAF.out]
            exact HW1.out.congr fun j _ => (bkSet_not HSS.out.symm HOO.out.symm j).symm)
          go_wp2_with fail
          go_roundw
          case rel => exact ⟨a + 1, by go_num, by omega, HN.out, HS1.out⟩
          case measure => simp [intOf]; omega
        | true =>
          have HSET := Lib.hid (show ∀ j, foB (fun k => p.K (p.A k)) p.bef (sideB p.lev) P F (a + 1) j = if grpB (fun k => p.K (p.A k)) z j = true then sdL W p.bef a else if grpB (fun k => p.K (p.A k)) a j = true then sdL W p.bef a else W j from fun j => by
            rw [HAF.out, bkSet_is (cl := sdL W p.bef a) (.inr HOO.out.symm) (by rw [if_neg (by rw [← HSS.out]; decide)])])
          go_upto_block 12 with fail
          go_cut [17, 18, 19] from 160 to 168 (fun v _ _ wx => v = .int .i64 (sdL W p.bef a) ∧ Below w1.heap.size w1 wx)
          case first => exact pkAhead OK HW1 ham hbf (by assumption) (by assumption)
          case rest =>
          obtain ⟨rfl, hb2⟩ := hcut
          obtain ⟨w2, rfl⟩ : ∃ x : World, x = wc := ⟨_, rfl⟩
          have HW2 := Lib.hid (HW1.out.below hb2)
          have HS2 := Lib.hid (HS1.out.trans (Save.of_below hb2 (Nat.le_refl _)))
          clear hb2 HW1 HS1
          obtain ⟨wq, hwq⟩ : ∃ x, x = w2.alloc (Obj.cells #[.int .i64 (a : Nat), .int .i64 (z : Nat)] 3) := ⟨_, rfl⟩
          obtain ⟨q, hq⟩ : ∃ x, x = w2.heap.size := ⟨_, rfl⟩
          have HQB := Lib.hid (show Blk wq q #[.int .i64 (a : Nat), .int .i64 (z : Nat)] 3 by rw [hwq, hq]; exact Blk.new _ _ _)
          have HWQ := Lib.hid (show Ws p W b w0 wq by rw [hwq]; exact HW2.out.alloc _)
          have HSQ := Lib.hid (show Save (fun k => k = p.g) wP wq by rw [hwq]; exact HS2.out.alloc _)
          have hqg : q ≠ p.g := by have := HW2.out.wd.lt; omega
          go_upto_region 47 with fail
          go_upto_block 14 with fail
          rw [← hwq, ← hq]
          clear hwq hq
          refine wp_open (fun K0 hK0 => ?_)
          go_cut [21] from 173 to 207 (fun _ wx => Ws p (gE (fun k => p.K (p.A k)) W (sdL W p.bef a) a z 2) b w0 wx ∧ Save (fun k => k = p.g) wq wx)
          case first => exact pkGroup OK HWQ HQB hqg ham hzm (by assumption) (by assumption)
          case rest =>
          obtain ⟨hws, hsv⟩ := hcut
          have HW9 := Lib.hid (hws.congr (F' := foB (fun k => p.K (p.A k)) p.bef (sideB p.lev) P F (a + 1)) (fun j _ => (gE_two _ _ _ _ _ j).trans (HSET.out j).symm))
          have HS9 := Lib.hid (HSQ.out.trans hsv)
          clear hws hsv HWQ HSQ HQB
          refine hK0 _ _ ?_
          clear hK0 K0
          simp only [Exit.inBlock, Exit.then]
          go_wp2_with fail
          go_roundw
          case rel => exact ⟨a + 1, by go_num, by omega, HW9.out, HS9.out⟩
          case measure => simp [intOf]; omega
set_option maxHeartbeats 8000000 in
theorem pairs_any {p : WdP} {F T : Nat → Int} {w : World} (ok : WdOk p) (h : Wd p F w) (hbf : p.bef = 0 ∨ p.bef = 1) (hlv : 0 ≤ p.lev) (ht : TabC w 0 2 coupleT) (hT : ∀ k, T k = p.T (p.A k)) :
    Calls Tryd.prog 29 #[.agg p.cs] w fun e w' => e = .returned (.tuple #[]) ∧ Wd p (wBK T (fun k => p.K (p.A k)) p.bef (sideB p.lev) p.m F) w' ∧ Save (fun j => j = p.g) w w' := by
  have OK := Lib.hid ok
  have HTD := Lib.hid hT
  obtain ⟨bb, boff, bcap, hg1, hg2, hg3⟩ := ht
  rw [show coupleT.length = 4 from rfl] at hg1 hg2 hg3
  obtain ⟨wb, hwb⟩ : ∃ w1, w1 = w.alloc (Obj.cells p.cs 57) := ⟨_, rfl⟩
  have hbw : Below w.heap.size w wb := by rw [hwb]; exact (Below.refl _ _).alloc (Nat.le_refl _) _
  have HW := Lib.hid (show Ws p F w.heap.size w wb by
    rw [hwb]
    exact ⟨h.alloc _, Blk.new _ _ _, (Save.refl _ w).alloc _, Nat.le_refl _⟩)
  have HG1 := Lib.hid (show wb.cell? ⟨0, 0, none⟩ = some (.slice (some ⟨bb, boff, none⟩) 4 bcap) from bel_cell3 hbw hg1)
  have HG3 := Lib.hid (show ∀ i j, i < 4 → j < 2 → wb.cell? ⟨bb, boff + i * 2 + j, none⟩ = some (.int .i64 (ent coupleT i j)) from fun i j hi hj => bel_cell3 hbw (hg3 i j hi hj))
  have hm := ok.m2
  have hn := ok.n2
  have hmca := ok.mca
  unfold WdP.cs at hwb ⊢
  clear h ok hT hg1 hg3 hbw
  go_enter Tryd.func29, Tryd.ntmps29
  go_upto_region 1 with fail
  rw [← hwb]
  obtain ⟨b, hb⟩ : ∃ b, b = w.heap.size := ⟨_, rfl⟩
  rw [← hb]
  rw [← hb] at HW
  clear hwb hb
  obtain ⟨x0, x1, x2, x3, x4⟩ := HW.out.box
  have hbl := HW.out.bx.lt
  have hmk1 := Ref.make_ints p.m (by omega) wb
  obtain ⟨wM, hwM⟩ : ∃ x, x = wb.alloc (.cells (madeCells #[.int .i64 0] p.m) 3) := ⟨_, rfl⟩
  rw [← hwM] at hmk1
  obtain ⟨gm, hgm⟩ : ∃ x, x = wb.heap.size := ⟨_, rfl⟩
  have HBS := Lib.hid (show gm ≤ gm from Nat.le_refl _)
  have HBO := Lib.hid (show gm < gm + 1 from Nat.lt_succ_self _)
  have HMR := Lib.hid (show OwnF wM 3 gm p.m (fun _ => 0) by rw [hwM, hgm]; exact OwnF.make _ _)
  have HBEL := Lib.hid (show Below gm wb wM by rw [hwM, hgm]; exact (Below.refl _ _).alloc (Nat.le_refl _) _)
  have hszM : gm + 1 ≤ wM.heap.size := by rw [hwM, hgm]; simp
  have HWM := Lib.hid (show Ws p F b w wM by rw [hwM]; exact HW.out.alloc _)
  rw [← hgm] at hmk1
  have hgmg : gm ≠ p.g := by have := HW.out.wd.lt; omega
  have HGME := Lib.hid hgm
  clear hwM hgm
  go_upto_region 2 with fail
  clear x0 x1 x2 x3 x4 hbl hmk1
  obtain ⟨x0, x1, x2, x3, x4⟩ := HWM.out.box
  have hbl := HWM.out.bx.lt
  go_upto_block 0 with fail
  go_cut [4] from 29 to 35 (fun _ wx => PkS gm (gm + 1) gm p.m ⟨[], []⟩ (.slice none 0 0) wb wx)
  case first => exact pkInit HBS HBO HBEL HMR hszM (by omega) (by assumption) (by assumption)
  case rest =>
  obtain ⟨w1, rfl⟩ : ∃ x : World, x = wc := ⟨_, rfl⟩
  have HP1 := Lib.hid hcut
  clear hcut x0 x1 x2 x3 x4 hbl HWM HMR HBEL
  have HW1 := Lib.hid (HW.out.below (HGME.out ▸ HP1.out.bel))
  obtain ⟨x0, x1, x2, x3, x4⟩ := HW1.out.box
  have hbl := HW1.out.bx.lt
  go_upto_block 2 with fail
  clear x0 x1 x2 x3 x4 hbl HW1
  go_cut [3, 5, 6, 7, 8, 9] from 39 to 113 (fun v _ _ _ _ _ wx => ∃ s' oa oc, v = .slice oa s'.op.length oc ∧ bkAt T F p.m = some s' ∧ PkS gm (gm + 1) gm p.m s' (.slice oa s'.op.length oc) wb wx)
  case first =>
    refine pkChars OK HW HGME.out HBS HBO HG1 HG3 hg2 HTD HP1 ?hret (by assumption) (by assumption)
    case hret =>
      intro a' w' h1 h2 h3
      refine bodyPost_ret (results_none rfl _ _ _) h1 ?_
      refine ⟨rfl, ?_, HW.out.sv.trans (Save.of_below (HGME.out ▸ h3) (Nat.le_refl _))⟩
      have hw := (HW.out.below (HGME.out ▸ h3)).wd
      unfold wBK
      rw [h2]
      exact hw
  case rest =>
  obtain ⟨s', oa, oc, rfl, hs', hp'⟩ := hcut
  obtain ⟨w2, rfl⟩ : ∃ x : World, x = wc := ⟨_, rfl⟩
  have HW2 := Lib.hid (HW.out.below (HGME.out ▸ hp'.bel))
  have HM2 := Lib.hid hp'.mt
  have hbo := bk_ok p.m s' hs'
  have HPR := Lib.hid (show ∀ a z, mtB s'.pr a = some z → a < z ∧ z < p.m from fun a z hz => by
    have := (mtB_some (List.nodup_append.1 hbo.nd).1).1 hz
    exact hbo.pr _ this)
  have HFIN := Lib.hid (show foB (fun k => p.K (p.A k)) p.bef (sideB p.lev) s'.pr F p.m = wBK T (fun k => p.K (p.A k)) p.bef (sideB p.lev) p.m F by unfold wBK foB; rw [hs'])
  clear hs' hp' hbo HP1 HG1 HG3 HTD
  obtain ⟨x0, x1, x2, x3, x4⟩ := HW2.out.box
  have hbl := HW2.out.bx.lt
  have HSO := Lib.hid (sideOf_any p.lev w2 hlv)
  go_wp2_with fail
  refine HSO.out.mono ?_
  rintro e3 w3 ⟨rfl, rfl⟩
  dsimp only
  clear HSO x0 x1 x2 x3 x4 hbl
  go_upto_block 8 with fail
  refine wp_open (fun K0 hK0 => ?_)
  go_cut [11, 12, 13, 14, 15, 16, 17, 18, 19, 21] from 119 to 208 (fun _ _ _ _ _ _ _ _ _ _ wx => Ws p (foB (fun k => p.K (p.A k)) p.bef (sideB p.lev) s'.pr F p.m) b w wx ∧ Save (fun k => k = p.g) w2 wx)
  case first => exact pkPairs (T := T) OK HW2 HM2 hgmg HPR hbf (by assumption) (by assumption)
  case rest =>
  obtain ⟨hws, _⟩ := hcut
  refine hK0 _ _ ?_
  clear hK0 K0
  try simp only [Exit.inBlock, Exit.then]
  first | go_end0 | (simp only [Exit.inBlock, Exit.then]; refine bodyPost_ret (results_none rfl _ _ _) rfl ?_) | refine bodyPost_ret (results_none rfl _ _ _) rfl ?_
  rw [HFIN.out] at hws
  exact ⟨rfl, hws.wd, hws.sv⟩
end Go.Proofs.YtojbicdmcodgdaaDoor.BD
namespace Go.Law.Bd
open Go Go.Law Go.RowKit
set_option linter.unusedVariables false
/-- two rows in a box -/
structure SdR (base bx : Nat) (A B : Value) (n : Nat) (FA FB : Nat → Int) (wA w : World) : Prop where
  bxb : Blk w bx #[A, B] 78
  ra : RowI w base 3 1 A n FA
  rb : RowI w base 3 1 B n FB
  dif : ∀ k, A.ownBlock = some k → B.ownBlock ≠ some k
  bel : Below base wA w
section
variable {base bx n : Nat} {A B : Value} {FA FB FA' FB' : Nat → Int} {wA w w' : World}
theorem SdR.below (h : SdR base bx A B n FA FB wA w) (hb : Below w.heap.size w w') (hs : base ≤ w.heap.size) : SdR base bx A B n FA FB wA w' :=
  ⟨h.bxb.below hb h.bxb.lt, h.ra.below hb (Nat.le_refl _), h.rb.below hb (Nat.le_refl _), h.dif, h.bel.trans (hb.mono hs)⟩
theorem SdR.congr (h : SdR base bx A B n FA FB wA w) (ha : ∀ k, k < n → FA k = FA' k) (hb : ∀ k, k < n → FB k = FB' k) : SdR base bx A B n FA' FB' wA w :=
  ⟨h.bxb, h.ra.congr fun i hi => ha i (by omega), h.rb.congr fun i hi => hb i (by omega), h.dif, h.bel⟩
theorem SdR.setA {g c i : Nat} (h : SdR base bx (.slice (some ⟨g, 0, none⟩) n c) B n FA FB wA w) (hi : i < n) (x : Int) : SdR base bx (.slice (some ⟨g, 0, none⟩) n c) B n (upd FA i x) FB wA (w.setCell ⟨g, i, none⟩ (.int .i64 x)) := by
  have hg : (Value.slice (some ⟨g, 0, none⟩) n c).ownBlock = some g := by simp [Value.ownBlock]
  refine ⟨h.bxb.other (fun e => rowI_blk h.ra h.bxb (by decide) (by rw [hg]; exact congrArg some e.symm)) _, h.ra.set i (by omega) x, h.rb.other (h.dif g hg) _, h.dif, h.bel.setCell (h.ra.ge g hg) _⟩
theorem SdR.setB {g c i : Nat} (h : SdR base bx A (.slice (some ⟨g, 0, none⟩) n c) n FA FB wA w) (hi : i < n) (x : Int) : SdR base bx A (.slice (some ⟨g, 0, none⟩) n c) n FA (upd FB i x) wA (w.setCell ⟨g, i, none⟩ (.int .i64 x)) := by
  have hg : (Value.slice (some ⟨g, 0, none⟩) n c).ownBlock = some g := by simp [Value.ownBlock]
  refine ⟨h.bxb.other (fun e => rowI_blk h.rb h.bxb (by decide) (by rw [hg]; exact congrArg some e.symm)) _, h.ra.other (fun e => h.dif g e hg) _, h.rb.set i (by omega) x, h.dif, h.bel.setCell (h.rb.ge g hg) _⟩
end
end Go.Law.Bd
