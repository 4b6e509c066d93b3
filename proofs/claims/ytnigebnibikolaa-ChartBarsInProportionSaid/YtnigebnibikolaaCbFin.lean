


/-
  ChartBarsInProportion: a chart that its scale holds.
-/
import Derived.Test.YtnigebnibikolaaCbLaw
namespace Go.Proofs.Ytnigebnibikolaa.CB
open Go.RowKit Go.Law Go.Law.Cb Ref CH
set_option linter.unusedVariables false
set_option linter.unusedSimpArgs false
set_option maxRecDepth 100000
theorem bars_ok (kind : Int) (a1 a2 : Option Addr) (p cp s cs : Nat) (sa : Nat → Option Addr) (sn sc : Nat → Nat) (sf : Nat → Nat → Int) (lo hi st width height : Int) (w : World) (hrows : RowsF w a2 s sa sn sc sf) (he : chErr kind p s sn sf = 0) (hk : SP.chk lo hi st = 0) (h3 : kind ≠ 3)
    (hin : InB width height lo hi (lowL (x0 kind sf) (extL kind sf s p)) (highL (x0 kind sf) (extL kind sf s p))) :
    Calls Try.prog 11 #[.agg #[.int .i64 kind, .slice a1 p cp, .slice a2 s cs], .agg #[.int .i64 lo, .int .i64 hi, .int .i64 st], .int .i64 width, .int .i64 height] w (BarsPost kind lo hi width height sf p s w) := by
  obtain ⟨hkd, _⟩ := chErr_zero he
  have : kind = 0 ∨ kind = 1 ∨ kind = 2 := by omega
  rcases this with rfl | rfl | rfl
  · exact bars_0 a1 a2 p cp s cs sa sn sc sf lo hi st width height w hrows he hk hin
  · exact bars_1 a1 a2 p cp s cs sa sn sc sf lo hi st width height w hrows he hk hin
  · exact bars_2 a1 a2 p cp s cs sa sn sc sf lo hi st width height w hrows he hk hin
theorem rb_ok (kind : Int) (a1 a2 : Option Addr) (p cp s cs : Nat) (sa : Nat → Option Addr) (sn sc : Nat → Nat) (sf : Nat → Nat → Int) (lo hi st width height : Int) (w : World) (hrows : RowsF w a2 s sa sn sc sf) (he : chErr kind p s sn sf = 0) (hk : SP.chk lo hi st = 0) (h3 : kind ≠ 3)
    (hin : InB width height lo hi (lowL (x0 kind sf) (extL kind sf s p)) (highL (x0 kind sf) (extL kind sf s p))) :
    Calls Try.prog 17 #[.agg #[.int .i64 kind, .slice a1 p cp, .slice a2 s cs], .agg #[.int .i64 lo, .int .i64 hi, .int .i64 st], .int .i64 width, .int .i64 height] w (RefPost kind lo hi width height sf p s w) := by
  obtain ⟨hkd, _⟩ := chErr_zero he
  have : kind = 0 ∨ kind = 1 ∨ kind = 2 := by omega
  rcases this with rfl | rfl | rfl
  · exact rb_0 a1 a2 p cp s cs sa sn sc sf lo hi st width height w hrows he hk hin
  · exact rb_1 a1 a2 p cp s cs sa sn sc sf lo hi st width height w hrows he hk hin
  · exact rb_2 a1 a2 p cp s cs sa sn sc sf lo hi st width height w hrows he hk hin
set_option maxHeartbeats 8000000 in
theorem law_in (kind : Int) (a1 a2 : Option Addr) (p cp s cs : Nat) (sa : Nat → Option Addr) (sn sc : Nat → Nat) (sf : Nat → Nat → Int) (lo hi st width height : Int) (w : World) (hrows : RowsF w a2 s sa sn sc sf) (he : chErr kind p s sn sf = 0) (hk : SP.chk lo hi st = 0) (h3 : kind ≠ 3)
    (hin : InB width height lo hi (lowL (x0 kind sf) (extL kind sf s p)) (highL (x0 kind sf) (extL kind sf s p))) :
    Calls Try.prog 3 #[.agg #[.int .i64 kind, .slice a1 p cp, .slice a2 s cs], .agg #[.int .i64 lo, .int .i64 hi, .int .i64 st], .int .i64 width, .int .i64 height] w fun e w' => e = .returned (.bool true) ∧ Below w.heap.size w w' := by
  have hbr := fun w1 (hb : Below w.heap.size w w1) => bars_ok kind a1 a2 p cp s cs sa sn sc sf lo hi st width height w1 (hrows.below (Nat.le_refl _) hb) he hk h3 hin
  have hrb := fun w1 (hb : Below w.heap.size w w1) => rb_ok kind a1 a2 p cp s cs sa sn sc sf lo hi st width height w1 (hrows.below (Nat.le_refl _) hb) he hk h3 hin
  unfold BarsPost at hbr
  unfold RefPost at hrb
  have hlen := barsL_len kind lo hi width height sf p s p
  obtain ⟨_, _, _, hp2, hs2, _, _⟩ := chErr_zero he
  have hps := mul_le_2400 hp2 hs2
  obtain ⟨N, hN⟩ : ∃ N, N = p * s := ⟨_, rfl⟩
  obtain ⟨B, hB⟩ : ∃ B, B = barsL kind lo hi width height sf p s p := ⟨_, rfl⟩
  rw [← hN] at hbr hrb hlen hps
  rw [← hB] at hbr hrb hlen
  have k3 : (kind == 3) = false := by simpa using h3
  have hrg := fun w1 (hb : Below w.heap.size w w1) => range_ok kind a1 a2 p cp s cs sa sn sc sf w1 (hrows.below (Nat.le_refl _) hb) he
  unfold RangeOk at hrg
  have her := fun w1 (hb : Below w.heap.size w w1) => error_any kind a1 a2 p cp s cs sa sn sc sf w1 (hrows.below (Nat.le_refl _) hb)
  rw [he] at her
  have hex := fun w1 (hb : Below w.heap.size w w1) => ext_any kind a1 a2 p cp s cs sa sn sc sf w1 (hrows.below (Nat.le_refl _) hb) he
  have hsc := fun w1 => SP.check_any lo hi st w1
  have hC0 := CS.start (w := w) (kind := kind) (a1 := a1) (a2 := a2) (p := p) (cp := cp) (s := s) (cs := cs) (lo := lo) (hi := hi) (st := st) 25 27
  rw [hk] at hsc
  obtain ⟨L, hL⟩ : ∃ L, L = lowL (x0 kind sf) (extL kind sf s p) := ⟨_, rfl⟩
  obtain ⟨H, hH⟩ : ∃ H, H = highL (x0 kind sf) (extL kind sf s p) := ⟨_, rfl⟩
  rw [← hL, ← hH] at hrg hex
  have l1 : (L != L) = false := by simp
  have l2 : (H != H) = false := by simp
  have HRG := Lib.hid hrg
  have HER := Lib.hid her
  have HEX := Lib.hid hex
  rw [← hL, ← hH] at hin
  obtain ⟨hw1, hh1, hlo, hhi⟩ := hin
  have HBR := Lib.hid hbr
  have HRB := Lib.hid hrb
  have HSC := Lib.hid hsc
  have HLEN := Lib.hid hlen
  have i1 : inB width 1 100000 = true := inB_true.2 hw1
  have i2 : inB height 1 100000 = true := inB_true.2 hh1
  have HI1 := Lib.hid (show ∀ w, Calls Try.prog 16 #[.int .i64 width, .int .i64 1, .int .i64 100000] w fun e w' => e = .returned (.bool true) ∧ w = w' from fun w => by rw [← i1]; exact in_any _ _ _ w)
  have HI2 := Lib.hid (show ∀ w, Calls Try.prog 16 #[.int .i64 height, .int .i64 1, .int .i64 100000] w fun e w' => e = .returned (.bool true) ∧ w = w' from fun w => by rw [← i2]; exact in_any _ _ _ w)
  have e1 : ((N : Int) != (N : Int)) = false := by simp
  clear he hk hrows hrg hbr hrb her hex hsc hL hH h3 hN hB hlen i1 i2
  go_enter Try.func3, Try.ntmps3
  go_wp2_with fail
  refine (charted_any _).mono ?_
  rintro e w1 ⟨rfl, hb1⟩
  have hC1 := hC0.more hb1
  clear hb1 hC0
  obtain ⟨hbel1, hlt1, ⟨p0, p1, p2⟩, q0, q1, q2⟩ := id hC1
  go_wp2_with fail
  refine (HRG.out _ hbel1).mono ?_
  rintro e w2 ⟨rfl, hb2⟩
  have hC2 := hC1.more hb2
  clear hb2 hC1 hbel1 hlt1 p0 p1 p2 q0 q1 q2
  obtain ⟨hbel2, hlt2, ⟨p0, p1, p2⟩, q0, q1, q2⟩ := id hC2
  go_wp2_with fail
  refine (HBR.out _ hbel2).mono ?_
  rintro e w3 ⟨v5, rfl, hr5, hb3⟩
  have hs3 := hb3.size
  have HR5 := Lib.hid (⟨_, hr5⟩ : ∃ b, RowL w3 b 42 6 v5 N (B.map (Value.int .i64)))
  obtain ⟨a5, c5, rfl, hn5, hm5⟩ := RowL.slice hr5
  clear hr5 HBR
  have hC3 := hC2.more hb3
  clear hb3 hC2 hbel2 hlt2 p0 p1 p2 q0 q1 q2
  obtain ⟨hbel3, hlt3, ⟨p0, p1, p2⟩, q0, q1, q2⟩ := id hC3
  go_wp2_with fail
  refine (HER.out _ hbel3).mono ?_
  rintro e w4 ⟨rfl, hb4⟩
  have HR4 := Lib.hid (HR5.out.elim fun b h => (⟨b, h.below hb4 (Nat.le_refl _)⟩ : ∃ b, RowL w4 b 42 6 (.slice a5 N c5) N (B.map (Value.int .i64))))
  clear HR5
  have hC4 := hC3.more hb4
  clear hb4 hC3 hbel3 hlt3 p0 p1 p2 q0 q1 q2
  obtain ⟨hbel4, hlt4, ⟨p0, p1, p2⟩, q0, q1, q2⟩ := id hC4
  go_wp2_with fail
  refine (HEX.out _ hbel4).mono ?_
  rintro e w5 ⟨rfl, hb5⟩
  have HR5 := Lib.hid (HR4.out.elim fun b h => (⟨b, h.below hb5 (Nat.le_refl _)⟩ : ∃ b, RowL w5 b 42 6 (.slice a5 N c5) N (B.map (Value.int .i64))))
  clear HR4
  have hC5 := hC4.more hb5
  clear hb5 hC4 hbel4 hlt4 p0 p1 p2 q0 q1 q2
  obtain ⟨hbel5, hlt5, ⟨p0, p1, p2⟩, q0, q1, q2⟩ := id hC5
  go_wp2_with fail
  refine (HSC.out _).mono ?_
  rintro e w6 ⟨rfl, hb6⟩
  have HR6 := Lib.hid (HR5.out.elim fun b h => (⟨b, h.below hb6 (Nat.le_refl _)⟩ : ∃ b, RowL w6 b 42 6 (.slice a5 N c5) N (B.map (Value.int .i64))))
  clear HR5
  have hC6 := hC5.more hb6
  clear hb6 hC5 hbel5 hlt5 p0 p1 p2 q0 q1 q2
  obtain ⟨hbel6, hlt6, ⟨p0, p1, p2⟩, q0, q1, q2⟩ := id hC6
  go_wp2_with fail
  refine (HI1.out _).mono ?_
  rintro e w7 ⟨rfl, rfl⟩
  go_wp2_with fail
  refine (HI2.out _).mono ?_
  rintro e w7 ⟨rfl, rfl⟩
  go_wp2_with fail
  refine (HRB.out _ hbel6).mono ?_
  rintro e w7 ⟨v8, rfl, hr8, hb7⟩
  have HR7 := Lib.hid (HR6.out.elim fun b h => (⟨b, h.below hb7 (Nat.le_refl _)⟩ : ∃ b, RowL w7 b 42 6 (.slice a5 N c5) N (B.map (Value.int .i64))))
  have hbel7 := hbel6.trans (hb7.mono hbel6.size)
  obtain ⟨a8, c8, rfl, hn8, hm8⟩ := RowL.slice hr8
  have HC5 := Lib.hid (HR7.out.elim fun b h => (fun hN => (RowL.at h hN).elim fun g x => x.elim fun cap y => (⟨g, by have := y.1; cases this; rfl, y.2.2.2.2.2.2⟩ : ∃ g, a5 = some ⟨g, 0, none⟩ ∧ ∀ i u, (B.map (Value.int .i64))[i]? = some u → w7.cell? ⟨g, i, none⟩ = some u)))
  have HC8 := Lib.hid (fun hN => (RowL.at hr8 hN).elim fun g x => x.elim fun cap y => (⟨g, by have := y.1; cases this; rfl, y.2.2.2.2.2.2⟩ : ∃ g, a8 = some ⟨g, 0, none⟩ ∧ ∀ i u, (B.map (Value.int .i64))[i]? = some u → w7.cell? ⟨g, i, none⟩ = some u))
  clear HR6 HR7 hr8 hb7 hbel6 hlt6 p0 p1 p2 q0 q1 q2 hC6 HRB HRG HER HEX HSC HI1 HI2
  go_wp2_with fail
  go_loopw [134] (fun iv wx => ∃ (i q : Nat), iv = .int .i64 i ∧ i ≤ N ∧ wx = w7.drewN q) (fun iv _ => N - (intOf iv).toNat)
  case atStart => exact ⟨0, 0, rfl, by omega, rfl⟩
  case round =>
    obtain ⟨i, q, rfl, hi, rfl⟩ := hrel
    by_cases hiN : i < N
    · obtain ⟨g5, h5, hx5⟩ := HC5.out (by omega)
      obtain ⟨g8, h8, hx8⟩ := HC8.out (by omega)
      subst h5
      subst h8
      have hle0 : i * 6 + 5 < B.length := by rw [HLEN.out]; omega
      obtain ⟨y0, hy0⟩ : ∃ x, B[i * 6]? = some x := ⟨_, List.getElem?_eq_getElem (by omega)⟩
      obtain ⟨y1, hy1⟩ : ∃ x, B[i * 6 + 1]? = some x := ⟨_, List.getElem?_eq_getElem (by omega)⟩
      obtain ⟨y2, hy2⟩ : ∃ x, B[i * 6 + 2]? = some x := ⟨_, List.getElem?_eq_getElem (by omega)⟩
      obtain ⟨y3, hy3⟩ : ∃ x, B[i * 6 + 3]? = some x := ⟨_, List.getElem?_eq_getElem (by omega)⟩
      obtain ⟨y4, hy4⟩ : ∃ x, B[i * 6 + 4]? = some x := ⟨_, List.getElem?_eq_getElem (by omega)⟩
      obtain ⟨y5, hy5⟩ : ∃ x, B[i * 6 + 5]? = some x := ⟨_, List.getElem?_eq_getElem (by omega)⟩
      have d0 := hx5 (i * 6) (.int .i64 y0) (by rw [List.getElem?_map, hy0]; rfl)
      have d1 := hx5 (i * 6 + 1) (.int .i64 y1) (by rw [List.getElem?_map, hy1]; rfl)
      have d2 := hx5 (i * 6 + 2) (.int .i64 y2) (by rw [List.getElem?_map, hy2]; rfl)
      have d3 := hx5 (i * 6 + 3) (.int .i64 y3) (by rw [List.getElem?_map, hy3]; rfl)
      have d4 := hx5 (i * 6 + 4) (.int .i64 y4) (by rw [List.getElem?_map, hy4]; rfl)
      have d5 := hx5 (i * 6 + 5) (.int .i64 y5) (by rw [List.getElem?_map, hy5]; rfl)
      have f0 := hx8 (i * 6) (.int .i64 y0) (by rw [List.getElem?_map, hy0]; rfl)
      have f1 := hx8 (i * 6 + 1) (.int .i64 y1) (by rw [List.getElem?_map, hy1]; rfl)
      have f2 := hx8 (i * 6 + 2) (.int .i64 y2) (by rw [List.getElem?_map, hy2]; rfl)
      have f3 := hx8 (i * 6 + 3) (.int .i64 y3) (by rw [List.getElem?_map, hy3]; rfl)
      have f4 := hx8 (i * 6 + 4) (.int .i64 y4) (by rw [List.getElem?_map, hy4]; rfl)
      have f5 := hx8 (i * 6 + 5) (.int .i64 y5) (by rw [List.getElem?_map, hy5]; rfl)
      have i1 : (0 : Int) ≤ (i : Int) := by omega
      have i2 : (i : Int) < (N : Int) := by omega
      have z0 : (y0 != y0) = false := by simp
      have z1 : (y1 != y1) = false := by simp
      have z2 : (y2 != y2) = false := by simp
      have z3 : (y3 != y3) = false := by simp
      have z4 : (y4 != y4) = false := by simp
      have z5 : (y5 != y5) = false := by simp
      clear hx5 hx8 hy0 hy1 hy2 hy3 hy4 hy5 hle0
      go_wp2_with fail
      go_quiet (fail)
      go_wp2_with fail
      go_roundw
      case rel => exact ⟨i + 1, q + nq, by go_num, by omega, by simp [World.drewN_drewN]⟩
      case measure => simp [intOf]; omega
    · obtain rfl : N = i := by omega
      go_wp2_with fail
      go_ret
      exact ⟨rfl, below_drewN hbel7 _⟩
theorem law_any (kind : Int) (a1 a2 : Option Addr) (p cp s cs : Nat) (sa : Nat → Option Addr) (sn sc : Nat → Nat) (sf : Nat → Nat → Int) (lo hi st width height : Int) (w : World) (hrows : RowsF w a2 s sa sn sc sf) :
    Calls Try.prog 3 #[.agg #[.int .i64 kind, .slice a1 p cp, .slice a2 s cs], .agg #[.int .i64 lo, .int .i64 hi, .int .i64 st], .int .i64 width, .int .i64 height] w fun e w' => e = .returned (.bool true) ∧ Below w.heap.size w w' := by
  by_cases he : chErr kind p s sn sf = 0
  · by_cases hk : SP.chk lo hi st = 0
    · by_cases h3 : kind = 3
      · exact law_kind kind a1 a2 p cp s cs sa sn sc sf lo hi st width height w hrows he hk h3
      · by_cases hin : InB width height lo hi (lowL (x0 kind sf) (extL kind sf s p)) (highL (x0 kind sf) (extL kind sf s p))
        · exact law_in kind a1 a2 p cp s cs sa sn sc sf lo hi st width height w hrows he hk h3 hin
        · exact law_out kind a1 a2 p cp s cs sa sn sc sf lo hi st width height w hrows he hk h3 hin
    · exact law_scale kind a1 a2 p cp s cs sa sn sc sf lo hi st width height w hrows he hk
  · exact law_chart kind a1 a2 p cp s cs sa sn sc sf lo hi st width height w hrows he
end Go.Proofs.Ytnigebnibikolaa.CB
