

/-
  chart.Bars.
-/
import Derived.Test.YtnigebnibikolaaCbEnv
namespace Go.Proofs.Ytnigebnibikolaa.CB
open Go.RowKit Go.Law Go.Law.Cb Ref CH
set_option linter.unusedVariables false
set_option linter.unusedSimpArgs false
set_option maxRecDepth 100000
theorem bars_range (kind : Int) (a1 a2 : Option Addr) (p cp s cs : Nat) (sa : Nat → Option Addr) (sn sc : Nat → Nat) (sf : Nat → Nat → Int) (lo hi st width height : Int) (w : World) (hrows : RowsF w a2 s sa sn sc sf) (he : chErr kind p s sn sf ≠ 0) :
    Calls Try.prog 11 #[.agg #[.int .i64 kind, .slice a1 p cp, .slice a2 s cs], .agg #[.int .i64 lo, .int .i64 hi, .int .i64 st], .int .i64 width, .int .i64 height] w fun e w' => e = .returned (.tuple #[.slice none 0 0, .int .i64 (chErr kind p s sn sf)]) ∧ Below w.heap.size w w' := by
  have hck := fun w1 (hb : Below w.heap.size w w1) => range_bad kind a1 a2 p cp s cs sa sn sc sf w1 (hrows.below (Nat.le_refl _) hb) he
  obtain ⟨V, hV⟩ : ∃ V, V = chErr kind p s sn sf := ⟨_, rfl⟩
  rw [← hV] at hck he ⊢
  have v2 : (V != 0) = true := by simpa using he
  have HC := Lib.hid hck
  have hC0 := CS.start (w := w) (kind := kind) (a1 := a1) (a2 := a2) (p := p) (cp := cp) (s := s) (cs := cs) (lo := lo) (hi := hi) (st := st) 25 27
  clear hV hck he hrows
  go_enter Try.func11, Try.ntmps11
  go_wp2_with fail
  refine (HC.out _ hC0.bel).mono ?_
  rintro e w1 ⟨rfl, hb1⟩
  have hC1 := hC0.more hb1
  go_wp2_with fail
  go_ret2
  exact ⟨rfl, hC1.bel⟩
theorem bars_scale (kind : Int) (a1 a2 : Option Addr) (p cp s cs : Nat) (sa : Nat → Option Addr) (sn sc : Nat → Nat) (sf : Nat → Nat → Int) (lo hi st width height : Int) (w : World) (hrows : RowsF w a2 s sa sn sc sf) (he : chErr kind p s sn sf = 0) (hk : SP.chk lo hi st ≠ 0) :
    Calls Try.prog 11 #[.agg #[.int .i64 kind, .slice a1 p cp, .slice a2 s cs], .agg #[.int .i64 lo, .int .i64 hi, .int .i64 st], .int .i64 width, .int .i64 height] w fun e w' => e = .returned (.tuple #[.slice none 0 0, .int .i64 (SP.chk lo hi st)]) ∧ Below w.heap.size w w' := by
  have hck := fun w1 (hb : Below w.heap.size w w1) => range_ok kind a1 a2 p cp s cs sa sn sc sf w1 (hrows.below (Nat.le_refl _) hb) he
  unfold RangeOk at hck
  have HC := Lib.hid hck
  have HSC := Lib.hid (fun w1 => SP.check_any lo hi st w1)
  have hC0 := CS.start (w := w) (kind := kind) (a1 := a1) (a2 := a2) (p := p) (cp := cp) (s := s) (cs := cs) (lo := lo) (hi := hi) (st := st) 25 27
  obtain ⟨V, hV⟩ : ∃ V, V = SP.chk lo hi st := ⟨_, rfl⟩
  rw [← hV] at HSC hk ⊢
  have v2 : (V != 0) = true := by simpa using hk
  clear hV hck hk he hrows
  go_enter Try.func11, Try.ntmps11
  go_wp2_with fail
  refine (HC.out _ hC0.bel).mono ?_
  rintro e w1 ⟨rfl, hb1⟩
  have hC1 := hC0.more hb1
  obtain ⟨hbel1, hlt1, ⟨p0, p1, p2⟩, q0, q1, q2⟩ := id hC1
  clear hb1 hC0 HC
  go_wp2_with fail
  refine (HSC.out _).mono ?_
  rintro e w2 ⟨rfl, hb2⟩
  have hC2 := hC1.more hb2
  clear hb2 hC1 HSC hbel1 hlt1 p0 p1 p2 q0 q1 q2
  go_wp2_with fail
  go_ret2
  exact ⟨rfl, hC2.bel⟩
theorem bars_kind (a1 a2 : Option Addr) (p cp s cs : Nat) (sa : Nat → Option Addr) (sn sc : Nat → Nat) (sf : Nat → Nat → Int) (lo hi st width height : Int) (w : World) (hrows : RowsF w a2 s sa sn sc sf) (he : chErr 3 p s sn sf = 0) (hk : SP.chk lo hi st = 0) :
    Calls Try.prog 11 #[.agg #[.int .i64 3, .slice a1 p cp, .slice a2 s cs], .agg #[.int .i64 lo, .int .i64 hi, .int .i64 st], .int .i64 width, .int .i64 height] w fun e w' => e = .returned (.tuple #[.slice none 0 0, .int .i64 8]) ∧ Below w.heap.size w w' := by
  obtain ⟨kind, hkd⟩ : ∃ kind : Int, kind = 3 := ⟨_, rfl⟩
  rw [← hkd] at he ⊢
  have hck := fun w1 (hb : Below w.heap.size w w1) => range_ok kind a1 a2 p cp s cs sa sn sc sf w1 (hrows.below (Nat.le_refl _) hb) he
  unfold RangeOk at hck
  have HC := Lib.hid hck
  have HSC := Lib.hid (fun w1 => SP.check_any lo hi st w1)
  have hC0 := CS.start (w := w) (kind := kind) (a1 := a1) (a2 := a2) (p := p) (cp := cp) (s := s) (cs := cs) (lo := lo) (hi := hi) (st := st) 25 27
  rw [hk] at HSC
  have k3 : (kind == 3) = true := by simpa using hkd
  clear hck hk he hrows hkd
  go_enter Try.func11, Try.ntmps11
  go_wp2_with fail
  refine (HC.out _ hC0.bel).mono ?_
  rintro e w1 ⟨rfl, hb1⟩
  have hC1 := hC0.more hb1
  obtain ⟨hbel1, hlt1, ⟨p0, p1, p2⟩, q0, q1, q2⟩ := id hC1
  clear hb1 hC0 HC
  go_wp2_with fail
  refine (HSC.out _).mono ?_
  rintro e w2 ⟨rfl, hb2⟩
  have hC2 := hC1.more hb2
  clear hb2 hC1 HSC hbel1 hlt1 p0 p1 p2 q0 q1 q2
  obtain ⟨hbel2, hlt2, ⟨p0, p1, p2⟩, q0, q1, q2⟩ := id hC2
  go_wp2_with fail
  go_ret2
  exact ⟨rfl, hC2.bel⟩
/-- a width, a height, and a scale that holds the numbers -/
def InB (width height : Int) (lo hi L H : Int) : Prop := (1 ≤ width ∧ width ≤ 100000) ∧ (1 ≤ height ∧ height ≤ 100000) ∧ lo ≤ L ∧ H ≤ hi
set_option maxHeartbeats 4000000 in
theorem bars_out (kind : Int) (a1 a2 : Option Addr) (p cp s cs : Nat) (sa : Nat → Option Addr) (sn sc : Nat → Nat) (sf : Nat → Nat → Int) (lo hi st width height : Int) (w : World) (hrows : RowsF w a2 s sa sn sc sf) (he : chErr kind p s sn sf = 0) (hk : SP.chk lo hi st = 0) (h3 : kind ≠ 3)
    (hi' : ¬ InB width height lo hi (lowL (x0 kind sf) (extL kind sf s p)) (highL (x0 kind sf) (extL kind sf s p))) :
    Calls Try.prog 11 #[.agg #[.int .i64 kind, .slice a1 p cp, .slice a2 s cs], .agg #[.int .i64 lo, .int .i64 hi, .int .i64 st], .int .i64 width, .int .i64 height] w fun e w' => e = .returned (.tuple #[.slice none 0 0, .int .i64 2]) ∧ Below w.heap.size w w' := by
  have hck := fun w1 (hb : Below w.heap.size w w1) => range_ok kind a1 a2 p cp s cs sa sn sc sf w1 (hrows.below (Nat.le_refl _) hb) he
  unfold RangeOk at hck
  have HC := Lib.hid hck
  have HSC := Lib.hid (fun w1 => SP.check_any lo hi st w1)
  have hC0 := CS.start (w := w) (kind := kind) (a1 := a1) (a2 := a2) (p := p) (cp := cp) (s := s) (cs := cs) (lo := lo) (hi := hi) (st := st) 25 27
  rw [hk] at HSC
  have k3 : (kind == 3) = false := by simpa using h3
  obtain ⟨L, hL⟩ : ∃ L, L = lowL (x0 kind sf) (extL kind sf s p) := ⟨_, rfl⟩
  obtain ⟨H, hH⟩ : ∃ H, H = highL (x0 kind sf) (extL kind sf s p) := ⟨_, rfl⟩
  rw [← hL, ← hH] at HC hi'
  have HI := Lib.hid hi'
  clear hck hk he hrows h3 hL hH hi'
  go_enter Try.func11, Try.ntmps11
  go_wp2_with fail
  refine (HC.out _ hC0.bel).mono ?_
  rintro e w1 ⟨rfl, hb1⟩
  have hC1 := hC0.more hb1
  obtain ⟨hbel1, hlt1, ⟨p0, p1, p2⟩, q0, q1, q2⟩ := id hC1
  clear hb1 hC0 HC
  go_wp2_with fail
  refine (HSC.out _).mono ?_
  rintro e w2 ⟨rfl, hb2⟩
  have hC2 := hC1.more hb2
  clear hb2 hC1 HSC hbel1 hlt1 p0 p1 p2 q0 q1 q2
  obtain ⟨hbel2, hlt2, ⟨p0, p1, p2⟩, q0, q1, q2⟩ := id hC2
  go_wp2_with fail
  all_goals first | (exfalso; have := HI.out; unfold InB at this; omega) | skip
  all_goals
    go_ret2
    exact ⟨rfl, hC2.bel⟩
end Go.Proofs.Ytnigebnibikolaa.CB
