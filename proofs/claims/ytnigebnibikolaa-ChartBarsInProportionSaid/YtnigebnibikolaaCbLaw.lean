

/-
  ChartBarsInProportion: the walk.
-/
import Derived.Test.YtnigebnibikolaaCbRef1
import Derived.Test.YtnigebnibikolaaCbRef2
import Derived.Test.YtnigebnibikolaaCbExt
namespace Go.Proofs.Ytnigebnibikolaa.CB
open Go.RowKit Go.Law Go.Law.Cb Ref CH
set_option linter.unusedVariables false
set_option linter.unusedSimpArgs false
set_option maxRecDepth 100000
def OneF : Nat → Nat → Int := fun _ _ => 10
set_option maxHeartbeats 2000000 in
theorem one_any (w : World) :
    Calls Try.prog 44 #[.int .i64 2] w fun e w' => e = .returned (.agg #[.int .i64 2, .slice (some ⟨w.heap.size + 1, 0, none⟩) 1 1, .slice (some ⟨w.heap.size + 1 + 1 + 1, 0, none⟩) 1 1]) ∧
      RowsF w' (some ⟨w.heap.size + 1 + 1 + 1, 0, none⟩) 1 (fun _ => some ⟨w.heap.size + 1 + 1, 0, none⟩) (fun _ => 1) (fun _ => 1) OneF ∧ Below w.heap.size w w' := by
  go_enter Try.func44, Try.ntmps44
  go_wp2_with fail
  have b1 : ∀ (o1 o2 o3 o4 : Obj), Below (w.heap.size + 1) (w.alloc o1) ((((w.alloc o1).alloc o2).alloc o3).alloc o4) := fun o1 o2 o3 o4 => (((Below.refl _ _).alloc (by simp) _).alloc (by simp) _).alloc (by simp) _
  have b2 : ∀ (o1 o2 o3 o4 : Obj), Below (w.heap.size + 1 + 1 + 1) (((w.alloc o1).alloc o2).alloc o3) ((((w.alloc o1).alloc o2).alloc o3).alloc o4) := fun o1 o2 o3 o4 => (Below.refl _ _).alloc (by simp) _
  have c0 : ∀ (o1 o2 o3 o4 : Obj) (j : Nat), ((((w.alloc o1).alloc o2).alloc o3).alloc o4).cell? ⟨w.heap.size, j, none⟩ = (w.alloc o1).cell? ⟨w.heap.size, j, none⟩ := fun o1 o2 o3 o4 j => (b1 o1 o2 o3 o4).cell (by simp)
  refine bodyPost_ret (v := .agg #[.int .i64 2, .slice (some ⟨w.heap.size + 1, 0, none⟩) 1 1, .slice (some ⟨w.heap.size + 1 + 1 + 1, 0, none⟩) 1 1]) (by simp [results, Try.results44, go_sem, c0]) rfl ?_
  refine ⟨rfl, ?_, ?_⟩
  · intro _
    refine ⟨_, 0, rfl, fun q hq => ?_⟩
    obtain rfl : q = 0 := by omega
    refine ⟨cell_new (cs := [.slice (some ⟨w.heap.size + 1 + 1, 0, none⟩) 1 1]) (by simp) rfl, Nat.le_trans (Nat.le_refl 1) (by decide), fun _ => ⟨_, 0, rfl, fun i hi => ?_⟩⟩
    obtain rfl : i = 0 := by have : i < 1 := hi; omega
    refine ((b2 _ _ _ _).cell (by simp)).trans (cell_new (cs := [.int .i64 10]) (by simp) rfl)
  · (repeat' (with_reducible first | exact Below.refl _ _ | refine Below.setCell ?_ ?_ _ | refine Below.alloc ?_ ?_ _ | refine below_drewN ?_ _ | refine Below.drew ?_)) <;> first | omega | (simp; done) | (simp; omega)
theorem one_err : chErr 2 1 1 (fun _ => 1) OneF = 0 := by
  unfold chErr
  rw [if_neg (by decide), if_neg (by decide), if_neg (by decide), if_neg (by decide)]
  refine firstE_none fun i hi => rowE_ok rfl fun j hj => ?_
  show lowK 2 ≤ 10 ∧ (10 : Int) ≤ 83333333333
  have : lowK 2 = -83333333333 := rfl
  omega
theorem one_chk : SP.chk 0 10 5 = 0 := by
  unfold SP.chk; rw [if_neg (by unfold SP.InR; omega), if_neg (by omega), if_neg (by decide), if_neg (by decide)]
theorem one_in : InB 100 100 0 10 (lowL (x0 2 OneF) (extL 2 OneF 1 1)) (highL (x0 2 OneF) (extL 2 OneF 1 1)) := by
  unfold InB; decide
theorem one_bars : barsL 2 0 10 100 100 OneF 1 1 1 = [0, 0, 50, 0, 0, 0] := by decide
set_option maxHeartbeats 4000000 in
theorem charted_any (w : World) : Calls Try.prog 9 #[] w fun e w' => e = .returned (.bool true) ∧ Below w.heap.size w w' := by
  have hb := fun a1 a2 sa sc w1 (hr : RowsF w1 a2 1 sa (fun _ => 1) sc OneF) => bars_2 a1 a2 1 1 1 1 sa (fun _ => 1) sc OneF 0 10 5 100 100 w1 hr one_err one_chk one_in
  unfold BarsPost at hb
  rw [one_bars] at hb
  have HB := Lib.hid hb
  clear hb
  go_enter Try.func9, Try.ntmps9
  go_wp2_with fail
  refine (one_any _).mono ?_
  rintro e w1 ⟨rfl, hr, hb1⟩
  go_wp2_with fail
  refine (HB.out _ _ _ _ _ hr).mono ?_
  rintro e w2 ⟨v, rfl, hrow, hb2⟩
  have hb2 := hb1.trans (hb2.mono hb1.size)
  obtain ⟨g, cap, rfl, hg, hgl, hcap, hcm, hfz, hcells⟩ := RowL.at hrow (by omega)
  have c0 := hcells 0 _ rfl
  have c1 := hcells 1 _ rfl
  have c2 := hcells 2 _ rfl
  have c3 := hcells 3 _ rfl
  have c4 := hcells 4 _ rfl
  have c5 := hcells 5 _ rfl
  clear hrow hcells hfz hr hb1 HB
  go_wp2_with fail
  go_ret
  exact ⟨rfl, hb2⟩
set_option maxHeartbeats 4000000 in
theorem law_chart (kind : Int) (a1 a2 : Option Addr) (p cp s cs : Nat) (sa : Nat → Option Addr) (sn sc : Nat → Nat) (sf : Nat → Nat → Int) (lo hi st width height : Int) (w : World) (hrows : RowsF w a2 s sa sn sc sf) (he : chErr kind p s sn sf ≠ 0) :
    Calls Try.prog 3 #[.agg #[.int .i64 kind, .slice a1 p cp, .slice a2 s cs], .agg #[.int .i64 lo, .int .i64 hi, .int .i64 st], .int .i64 width, .int .i64 height] w fun e w' => e = .returned (.bool true) ∧ Below w.heap.size w w' := by
  have hrg := fun w1 (hb : Below w.heap.size w w1) => range_bad kind a1 a2 p cp s cs sa sn sc sf w1 (hrows.below (Nat.le_refl _) hb) he
  have hbr := fun w1 (hb : Below w.heap.size w w1) => bars_range kind a1 a2 p cp s cs sa sn sc sf lo hi st width height w1 (hrows.below (Nat.le_refl _) hb) he
  have her := fun w1 (hb : Below w.heap.size w w1) => error_any kind a1 a2 p cp s cs sa sn sc sf w1 (hrows.below (Nat.le_refl _) hb)
  have hck := fun w1 (hb : Below w.heap.size w w1) => check_any kind a1 a2 p cp s cs sa sn sc sf w1 (hrows.below (Nat.le_refl _) hb)
  have hC0 := CS.start (w := w) (kind := kind) (a1 := a1) (a2 := a2) (p := p) (cp := cp) (s := s) (cs := cs) (lo := lo) (hi := hi) (st := st) 25 27
  obtain ⟨V, hV⟩ : ∃ V, V = chErr kind p s sn sf := ⟨_, rfl⟩
  rw [← hV] at hrg hbr her hck he
  have v2 : (V != 0) = true := by simpa using he
  have v3 : (V == V) = true := by simp
  have HRG := Lib.hid hrg
  have HBR := Lib.hid hbr
  have HER := Lib.hid her
  have HCK := Lib.hid hck
  clear hV he hrows hrg hbr her hck
  go_enter Try.func3, Try.ntmps3
  go_wp2_with fail
  refine (charted_any _).mono ?_
  rintro e w1 ⟨rfl, hb1⟩
  have hC1 := hC0.more hb1
  clear hb1 hC0
  obtain ⟨hbel1, hlt1, ⟨p0, p1, p2⟩, q0, q1, q2⟩ := id hC1
  go_wp2_with fail
  refine (HRG.out _ hbel1).mono ?_
  rintro e w2 ⟨rfl, hb2⟩
  have hC2 := hC1.more hb2
  clear hb2 hC1 hbel1 hlt1 p0 p1 p2 q0 q1 q2
  obtain ⟨hbel2, hlt2, ⟨p0, p1, p2⟩, q0, q1, q2⟩ := id hC2
  go_wp2_with fail
  refine (HBR.out _ hbel2).mono ?_
  rintro e w3 ⟨rfl, hb3⟩
  have hC3 := hC2.more hb3
  clear hb3 hC2 hbel2 hlt2 p0 p1 p2 q0 q1 q2
  obtain ⟨hbel3, hlt3, ⟨p0, p1, p2⟩, q0, q1, q2⟩ := id hC3
  go_wp2_with fail
  refine (HER.out _ hbel3).mono ?_
  rintro e w4 ⟨rfl, hb4⟩
  have hC4 := hC3.more hb4
  clear hb4 hC3 hbel3 hlt3 p0 p1 p2 q0 q1 q2
  obtain ⟨hbel4, hlt4, ⟨p0, p1, p2⟩, q0, q1, q2⟩ := id hC4
  go_wp2_with fail
  refine (HCK.out _ hbel4).mono ?_
  rintro e w5 ⟨rfl, hb5⟩
  have hC5 := hC4.more hb5
  clear hb5 hC4 hbel4 hlt4 p0 p1 p2 q0 q1 q2
  obtain ⟨hbel5, hlt5, ⟨p0, p1, p2⟩, q0, q1, q2⟩ := id hC5
  go_wp2_with fail
  go_ret
  exact ⟨rfl, hbel5⟩
set_option maxHeartbeats 4000000 in
theorem law_scale (kind : Int) (a1 a2 : Option Addr) (p cp s cs : Nat) (sa : Nat → Option Addr) (sn sc : Nat → Nat) (sf : Nat → Nat → Int) (lo hi st width height : Int) (w : World) (hrows : RowsF w a2 s sa sn sc sf) (he : chErr kind p s sn sf = 0) (hk : SP.chk lo hi st ≠ 0) :
    Calls Try.prog 3 #[.agg #[.int .i64 kind, .slice a1 p cp, .slice a2 s cs], .agg #[.int .i64 lo, .int .i64 hi, .int .i64 st], .int .i64 width, .int .i64 height] w fun e w' => e = .returned (.bool true) ∧ Below w.heap.size w w' := by
  have hbr := fun w1 (hb : Below w.heap.size w w1) => bars_scale kind a1 a2 p cp s cs sa sn sc sf lo hi st width height w1 (hrows.below (Nat.le_refl _) hb) he hk
  have hrg := fun w1 (hb : Below w.heap.size w w1) => range_ok kind a1 a2 p cp s cs sa sn sc sf w1 (hrows.below (Nat.le_refl _) hb) he
  unfold RangeOk at hrg
  have her := fun w1 (hb : Below w.heap.size w w1) => error_any kind a1 a2 p cp s cs sa sn sc sf w1 (hrows.below (Nat.le_refl _) hb)
  rw [he] at her
  have hex := fun w1 (hb : Below w.heap.size w w1) => ext_any kind a1 a2 p cp s cs sa sn sc sf w1 (hrows.below (Nat.le_refl _) hb) he
  have hsc := fun w1 => SP.check_any lo hi st w1
  have hC0 := CS.start (w := w) (kind := kind) (a1 := a1) (a2 := a2) (p := p) (cp := cp) (s := s) (cs := cs) (lo := lo) (hi := hi) (st := st) 25 27
  obtain ⟨V, hV⟩ : ∃ V, V = SP.chk lo hi st := ⟨_, rfl⟩
  rw [← hV] at hbr hsc hk
  have v2 : (V != 0) = true := by simpa using hk
  have v3 : (V == V) = true := by simp
  obtain ⟨L, hL⟩ : ∃ L, L = lowL (x0 kind sf) (extL kind sf s p) := ⟨_, rfl⟩
  obtain ⟨H, hH⟩ : ∃ H, H = highL (x0 kind sf) (extL kind sf s p) := ⟨_, rfl⟩
  rw [← hL, ← hH] at hrg hex
  have l1 : (L != L) = false := by simp
  have l2 : (H != H) = false := by simp
  have HRG := Lib.hid hrg
  have HER := Lib.hid her
  have HEX := Lib.hid hex
  have HBR := Lib.hid hbr
  have HSC := Lib.hid hsc
  clear hV he hk hrows hrg hbr her hex hsc hL hH
  go_enter Try.func3, Try.ntmps3
  go_wp2_with fail
  refine (charted_any _).mono ?_
  rintro e w1 ⟨rfl, hb1⟩
  have hC1 := hC0.more hb1
  clear hb1 hC0
  obtain ⟨hbel1, hlt1, ⟨p0, p1, p2⟩, q0, q1, q2⟩ := id hC1
  go_wp2_with fail
  refine (HRG.out _ hbel1).mono ?_
  rintro e w2 ⟨rfl, hb2⟩
  have hC2 := hC1.more hb2
  clear hb2 hC1 hbel1 hlt1 p0 p1 p2 q0 q1 q2
  obtain ⟨hbel2, hlt2, ⟨p0, p1, p2⟩, q0, q1, q2⟩ := id hC2
  go_wp2_with fail
  refine (HBR.out _ hbel2).mono ?_
  rintro e w3 ⟨rfl, hb3⟩
  have hC3 := hC2.more hb3
  clear hb3 hC2 hbel2 hlt2 p0 p1 p2 q0 q1 q2
  obtain ⟨hbel3, hlt3, ⟨p0, p1, p2⟩, q0, q1, q2⟩ := id hC3
  go_wp2_with fail
  refine (HER.out _ hbel3).mono ?_
  rintro e w4 ⟨rfl, hb4⟩
  have hC4 := hC3.more hb4
  clear hb4 hC3 hbel3 hlt3 p0 p1 p2 q0 q1 q2
  obtain ⟨hbel4, hlt4, ⟨p0, p1, p2⟩, q0, q1, q2⟩ := id hC4
  go_wp2_with fail
  refine (HEX.out _ hbel4).mono ?_
  rintro e w5 ⟨rfl, hb5⟩
  have hC5 := hC4.more hb5
  clear hb5 hC4 hbel4 hlt4 p0 p1 p2 q0 q1 q2
  obtain ⟨hbel5, hlt5, ⟨p0, p1, p2⟩, q0, q1, q2⟩ := id hC5
  go_wp2_with fail
  refine (HSC.out _).mono ?_
  rintro e w6 ⟨rfl, hb6⟩
  have hC6 := hC5.more hb6
  clear hb6 hC5 hbel5 hlt5 p0 p1 p2 q0 q1 q2
  obtain ⟨hbel6, hlt6, ⟨p0, p1, p2⟩, q0, q1, q2⟩ := id hC6
  go_wp2_with fail
  go_ret
  exact ⟨rfl, hbel6⟩
set_option maxHeartbeats 4000000 in
theorem law_kind (kind : Int) (a1 a2 : Option Addr) (p cp s cs : Nat) (sa : Nat → Option Addr) (sn sc : Nat → Nat) (sf : Nat → Nat → Int) (lo hi st width height : Int) (w : World) (hrows : RowsF w a2 s sa sn sc sf) (he : chErr kind p s sn sf = 0) (hk : SP.chk lo hi st = 0) (h3 : kind = 3) :
    Calls Try.prog 3 #[.agg #[.int .i64 kind, .slice a1 p cp, .slice a2 s cs], .agg #[.int .i64 lo, .int .i64 hi, .int .i64 st], .int .i64 width, .int .i64 height] w fun e w' => e = .returned (.bool true) ∧ Below w.heap.size w w' := by
  have hbr := fun w1 (hb : Below w.heap.size w w1) => bars_kind a1 a2 p cp s cs sa sn sc sf lo hi st width height w1 (hrows.below (Nat.le_refl _) hb) (by rw [← h3]; exact he) hk
  rw [← h3] at hbr
  have k3 : (kind == 3) = true := by simpa using h3
  have hrg := fun w1 (hb : Below w.heap.size w w1) => range_ok kind a1 a2 p cp s cs sa sn sc sf w1 (hrows.below (Nat.le_refl _) hb) he
  unfold RangeOk at hrg
  have her := fun w1 (hb : Below w.heap.size w w1) => error_any kind a1 a2 p cp s cs sa sn sc sf w1 (hrows.below (Nat.le_refl _) hb)
  rw [he] at her
  have hex := fun w1 (hb : Below w.heap.size w w1) => ext_any kind a1 a2 p cp s cs sa sn sc sf w1 (hrows.below (Nat.le_refl _) hb) he
  have hsc := fun w1 => SP.check_any lo hi st w1
  have hC0 := CS.start (w := w) (kind := kind) (a1 := a1) (a2 := a2) (p := p) (cp := cp) (s := s) (cs := cs) (lo := lo) (hi := hi) (st := st) 25 27
  rw [hk] at hsc
  obtain ⟨L, hL⟩ : ∃ L, L = lowL (x0 kind sf) (extL kind sf s p) := ⟨_, rfl⟩
  obtain ⟨H, hH⟩ : ∃ H, H = highL (x0 kind sf) (extL kind sf s p) := ⟨_, rfl⟩
  rw [← hL, ← hH] at hrg hex
  have l1 : (L != L) = false := by simp
  have l2 : (H != H) = false := by simp
  have HRG := Lib.hid hrg
  have HER := Lib.hid her
  have HEX := Lib.hid hex
  have HBR := Lib.hid hbr
  have HSC := Lib.hid hsc
  clear he hk hrows hrg hbr her hex hsc hL hH h3
  go_enter Try.func3, Try.ntmps3
  go_wp2_with fail
  refine (charted_any _).mono ?_
  rintro e w1 ⟨rfl, hb1⟩
  have hC1 := hC0.more hb1
  clear hb1 hC0
  obtain ⟨hbel1, hlt1, ⟨p0, p1, p2⟩, q0, q1, q2⟩ := id hC1
  go_wp2_with fail
  refine (HRG.out _ hbel1).mono ?_
  rintro e w2 ⟨rfl, hb2⟩
  have hC2 := hC1.more hb2
  clear hb2 hC1 hbel1 hlt1 p0 p1 p2 q0 q1 q2
  obtain ⟨hbel2, hlt2, ⟨p0, p1, p2⟩, q0, q1, q2⟩ := id hC2
  go_wp2_with fail
  refine (HBR.out _ hbel2).mono ?_
  rintro e w3 ⟨rfl, hb3⟩
  have hC3 := hC2.more hb3
  clear hb3 hC2 hbel2 hlt2 p0 p1 p2 q0 q1 q2
  obtain ⟨hbel3, hlt3, ⟨p0, p1, p2⟩, q0, q1, q2⟩ := id hC3
  go_wp2_with fail
  refine (HER.out _ hbel3).mono ?_
  rintro e w4 ⟨rfl, hb4⟩
  have hC4 := hC3.more hb4
  clear hb4 hC3 hbel3 hlt3 p0 p1 p2 q0 q1 q2
  obtain ⟨hbel4, hlt4, ⟨p0, p1, p2⟩, q0, q1, q2⟩ := id hC4
  go_wp2_with fail
  refine (HEX.out _ hbel4).mono ?_
  rintro e w5 ⟨rfl, hb5⟩
  have hC5 := hC4.more hb5
  clear hb5 hC4 hbel4 hlt4 p0 p1 p2 q0 q1 q2
  obtain ⟨hbel5, hlt5, ⟨p0, p1, p2⟩, q0, q1, q2⟩ := id hC5
  go_wp2_with fail
  refine (HSC.out _).mono ?_
  rintro e w6 ⟨rfl, hb6⟩
  have hC6 := hC5.more hb6
  clear hb6 hC5 hbel5 hlt5 p0 p1 p2 q0 q1 q2
  obtain ⟨hbel6, hlt6, ⟨p0, p1, p2⟩, q0, q1, q2⟩ := id hC6
  go_wp2_with fail
  go_ret
  exact ⟨rfl, hbel6⟩
set_option maxHeartbeats 4000000 in
theorem law_out (kind : Int) (a1 a2 : Option Addr) (p cp s cs : Nat) (sa : Nat → Option Addr) (sn sc : Nat → Nat) (sf : Nat → Nat → Int) (lo hi st width height : Int) (w : World) (hrows : RowsF w a2 s sa sn sc sf) (he : chErr kind p s sn sf = 0) (hk : SP.chk lo hi st = 0) (h3 : kind ≠ 3)
    (hio : ¬ InB width height lo hi (lowL (x0 kind sf) (extL kind sf s p)) (highL (x0 kind sf) (extL kind sf s p))) :
    Calls Try.prog 3 #[.agg #[.int .i64 kind, .slice a1 p cp, .slice a2 s cs], .agg #[.int .i64 lo, .int .i64 hi, .int .i64 st], .int .i64 width, .int .i64 height] w fun e w' => e = .returned (.bool true) ∧ Below w.heap.size w w' := by
  have hbr := fun w1 (hb : Below w.heap.size w w1) => bars_out kind a1 a2 p cp s cs sa sn sc sf lo hi st width height w1 (hrows.below (Nat.le_refl _) hb) he hk h3 hio
  have k3 : (kind == 3) = false := by simpa using h3
  have hrg := fun w1 (hb : Below w.heap.size w w1) => range_ok kind a1 a2 p cp s cs sa sn sc sf w1 (hrows.below (Nat.le_refl _) hb) he
  unfold RangeOk at hrg
  have her := fun w1 (hb : Below w.heap.size w w1) => error_any kind a1 a2 p cp s cs sa sn sc sf w1 (hrows.below (Nat.le_refl _) hb)
  rw [he] at her
  have hex := fun w1 (hb : Below w.heap.size w w1) => ext_any kind a1 a2 p cp s cs sa sn sc sf w1 (hrows.below (Nat.le_refl _) hb) he
  have hsc := fun w1 => SP.check_any lo hi st w1
  have hC0 := CS.start (w := w) (kind := kind) (a1 := a1) (a2 := a2) (p := p) (cp := cp) (s := s) (cs := cs) (lo := lo) (hi := hi) (st := st) 25 27
  rw [hk] at hsc
  obtain ⟨L, hL⟩ : ∃ L, L = lowL (x0 kind sf) (extL kind sf s p) := ⟨_, rfl⟩
  obtain ⟨H, hH⟩ : ∃ H, H = highL (x0 kind sf) (extL kind sf s p) := ⟨_, rfl⟩
  rw [← hL, ← hH] at hrg hex
  have l1 : (L != L) = false := by simp
  have l2 : (H != H) = false := by simp
  have HRG := Lib.hid hrg
  have HER := Lib.hid her
  have HEX := Lib.hid hex
  rw [← hL, ← hH] at hio
  have HIO := Lib.hid hio
  have HBR := Lib.hid hbr
  have HSC := Lib.hid hsc
  have HW := Lib.hid (@inB_true width 1 100000)
  have HH := Lib.hid (@inB_true height 1 100000)
  obtain ⟨B1, hB1⟩ : ∃ B1, B1 = inB width 1 100000 := ⟨_, rfl⟩
  obtain ⟨B2, hB2⟩ : ∃ B2, B2 = inB height 1 100000 := ⟨_, rfl⟩
  have HI1 := Lib.hid (show ∀ w, Calls Try.prog 16 #[.int .i64 width, .int .i64 1, .int .i64 100000] w fun e w' => e = .returned (.bool B1) ∧ w = w' from fun w => by rw [hB1]; exact in_any _ _ _ w)
  have HI2 := Lib.hid (show ∀ w, Calls Try.prog 16 #[.int .i64 height, .int .i64 1, .int .i64 100000] w fun e w' => e = .returned (.bool B2) ∧ w = w' from fun w => by rw [hB2]; exact in_any _ _ _ w)
  rw [← hB1] at HW
  rw [← hB2] at HH
  clear he hk hrows hrg hbr her hex hsc hL hH h3 hio hB1 hB2
  go_enter Try.func3, Try.ntmps3
  go_wp2_with fail
  refine (charted_any _).mono ?_
  rintro e w1 ⟨rfl, hb1⟩
  have hC1 := hC0.more hb1
  clear hb1 hC0
  obtain ⟨hbel1, hlt1, ⟨p0, p1, p2⟩, q0, q1, q2⟩ := id hC1
  go_wp2_with fail
  refine (HRG.out _ hbel1).mono ?_
  rintro e w2 ⟨rfl, hb2⟩
  have hC2 := hC1.more hb2
  clear hb2 hC1 hbel1 hlt1 p0 p1 p2 q0 q1 q2
  obtain ⟨hbel2, hlt2, ⟨p0, p1, p2⟩, q0, q1, q2⟩ := id hC2
  go_wp2_with fail
  refine (HBR.out _ hbel2).mono ?_
  rintro e w3 ⟨rfl, hb3⟩
  have hC3 := hC2.more hb3
  clear hb3 hC2 hbel2 hlt2 p0 p1 p2 q0 q1 q2
  obtain ⟨hbel3, hlt3, ⟨p0, p1, p2⟩, q0, q1, q2⟩ := id hC3
  go_wp2_with fail
  refine (HER.out _ hbel3).mono ?_
  rintro e w4 ⟨rfl, hb4⟩
  have hC4 := hC3.more hb4
  clear hb4 hC3 hbel3 hlt3 p0 p1 p2 q0 q1 q2
  obtain ⟨hbel4, hlt4, ⟨p0, p1, p2⟩, q0, q1, q2⟩ := id hC4
  go_wp2_with fail
  refine (HEX.out _ hbel4).mono ?_
  rintro e w5 ⟨rfl, hb5⟩
  have hC5 := hC4.more hb5
  clear hb5 hC4 hbel4 hlt4 p0 p1 p2 q0 q1 q2
  obtain ⟨hbel5, hlt5, ⟨p0, p1, p2⟩, q0, q1, q2⟩ := id hC5
  go_wp2_with fail
  refine (HSC.out _).mono ?_
  rintro e w6 ⟨rfl, hb6⟩
  have hC6 := hC5.more hb6
  clear hb6 hC5 hbel5 hlt5 p0 p1 p2 q0 q1 q2
  obtain ⟨hbel6, hlt6, ⟨p0, p1, p2⟩, q0, q1, q2⟩ := id hC6
  cases B1
  · go_wp2_with fail
    refine (HI1.out _).mono ?_
    rintro e w7 ⟨rfl, rfl⟩
    go_wp2_with fail
    go_ret
    exact ⟨rfl, hbel6⟩
  · cases B2
    · go_wp2_with fail
      refine (HI1.out _).mono ?_
      rintro e w7 ⟨rfl, rfl⟩
      go_wp2_with fail
      refine (HI2.out _).mono ?_
      rintro e w7 ⟨rfl, rfl⟩
      go_wp2_with fail
      go_ret
      exact ⟨rfl, hbel6⟩
    · have hw1 := HW.out.1 rfl
      have hh1 := HH.out.1 rfl
      by_cases hl : L < lo
      · go_wp2_with fail
        refine (HI1.out _).mono ?_
        rintro e w7 ⟨rfl, rfl⟩
        go_wp2_with fail
        refine (HI2.out _).mono ?_
        rintro e w7 ⟨rfl, rfl⟩
        go_wp2_with fail
        go_ret
        exact ⟨rfl, hbel6⟩
      · have hh : hi < H := by
          rcases Int.lt_or_le hi H with h | h
          · exact h
          · exact absurd ⟨hw1, hh1, by omega, h⟩ HIO.out
        go_wp2_with fail
        refine (HI1.out _).mono ?_
        rintro e w7 ⟨rfl, rfl⟩
        go_wp2_with fail
        refine (HI2.out _).mono ?_
        rintro e w7 ⟨rfl, rfl⟩
        go_wp2_with fail
        go_ret
        exact ⟨rfl, hbel6⟩
end Go.Proofs.Ytnigebnibikolaa.CB
