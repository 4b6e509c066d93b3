

/-
  The law's broken, sameLines and partsError.
-/
import Derived.Test.YtnigebnibikolaaLnBreak
import Derived.Test.YtnigebnibikolaaLnCheckR
import Derived.Test.YtnigebnibikolaaLnShapeR
namespace Go.Proofs.Ytnigebnibikolaa.LN
open Go.RowKit Go.Law Go.Law.Ln
set_option linter.unusedVariables false
set_option linter.unusedSimpArgs false
set_option maxRecDepth 100000
def BL : Nat → Part
  | 0 => ⟨0, 30, 0, 0, 0, false⟩
  | 1 => ⟨1, 10, 5, 3, 0, false⟩
  | 2 => ⟨0, 30, 0, 0, 0, false⟩
  | _ => ⟨2, 0, 0, 0, -10000, false⟩
def BW : Nat → Int := fun _ => 68
theorem br_err : bothE 4 BL 1 BW 0 = 0 := by decide +kernel
theorem br_path : pathF 4 BL 1 BW 0 (begF 4 BL 0) 0 false = [⟨0, 3, 70, 5, 3, 68⟩] := by kernel_rfl
theorem br_cost : (bestF 4 BL 1 BW 0 (begF 4 BL 0) 0 false).2.1 = 1521 := by decide +kernel
theorem br_cells {w : World} {q : Nat} {T : TypeId} (h : Blk w q #[.int .i64 0, .int .i64 30, .int .i64 0, .int .i64 0, .int .i64 0, .bool false, .int .i64 1, .int .i64 10, .int .i64 5, .int .i64 3, .int .i64 0, .bool false, .int .i64 0, .int .i64 30, .int .i64 0, .int .i64 0, .int .i64 0, .bool false, .int .i64 2, .int .i64 0, .int .i64 0, .int .i64 0, .int .i64 (-10000), .bool false] T) :
    CellsF w (some ⟨q, 0, none⟩) 4 6 (fun i => (BL i).V) := by
  intro _
  refine ⟨q, 0, rfl, fun i hi j hj => ?_⟩
  match i, hi with
  | 0, _ => match j, hj with
    | 0, _ => exact Blk.cell h (i := 0) rfl
    | 1, _ => exact Blk.cell h (i := 1) rfl
    | 2, _ => exact Blk.cell h (i := 2) rfl
    | 3, _ => exact Blk.cell h (i := 3) rfl
    | 4, _ => exact Blk.cell h (i := 4) rfl
    | 5, _ => exact Blk.cell h (i := 5) rfl
  | 1, _ => match j, hj with
    | 0, _ => exact Blk.cell h (i := 6) rfl
    | 1, _ => exact Blk.cell h (i := 7) rfl
    | 2, _ => exact Blk.cell h (i := 8) rfl
    | 3, _ => exact Blk.cell h (i := 9) rfl
    | 4, _ => exact Blk.cell h (i := 10) rfl
    | 5, _ => exact Blk.cell h (i := 11) rfl
  | 2, _ => match j, hj with
    | 0, _ => exact Blk.cell h (i := 12) rfl
    | 1, _ => exact Blk.cell h (i := 13) rfl
    | 2, _ => exact Blk.cell h (i := 14) rfl
    | 3, _ => exact Blk.cell h (i := 15) rfl
    | 4, _ => exact Blk.cell h (i := 16) rfl
    | 5, _ => exact Blk.cell h (i := 17) rfl
  | 3, _ => match j, hj with
    | 0, _ => exact Blk.cell h (i := 18) rfl
    | 1, _ => exact Blk.cell h (i := 19) rfl
    | 2, _ => exact Blk.cell h (i := 20) rfl
    | 3, _ => exact Blk.cell h (i := 21) rfl
    | 4, _ => exact Blk.cell h (i := 22) rfl
    | 5, _ => exact Blk.cell h (i := 23) rfl
set_option maxHeartbeats 4000000 in
theorem broken_any (w : World) : Calls Try.prog 23 #[] w fun e w' => e = .returned (.bool true) ∧ Below w.heap.size w w' := by
  have hb := fun aP aW cP cW w1 (h1 : CellsF w1 aP 4 6 (fun i => (BL i).V)) (h2 : IntsF w1 aW 1 BW) => break_ok 4 BL 1 BW 0 aP aW cP cW w1 h1 h2 (by decide) br_err
  rw [br_path, br_cost] at hb
  have HB := Lib.hid hb
  clear hb
  go_enter Try.func23, Try.ntmps23
  go_wp2_with fail
  obtain ⟨w1, hw1⟩ : ∃ w1, w1 = w.alloc (Obj.cells #[.int .i64 0, .int .i64 30, .int .i64 0, .int .i64 0, .int .i64 0, .bool false, .int .i64 1, .int .i64 10, .int .i64 5, .int .i64 3, .int .i64 0, .bool false, .int .i64 0, .int .i64 30, .int .i64 0, .int .i64 0, .int .i64 0, .bool false, .int .i64 2, .int .i64 0, .int .i64 0, .int .i64 0, .int .i64 (-10000), .bool false] 108) := ⟨_, rfl⟩
  have q1 : Blk w1 w.heap.size #[.int .i64 0, .int .i64 30, .int .i64 0, .int .i64 0, .int .i64 0, .bool false, .int .i64 1, .int .i64 10, .int .i64 5, .int .i64 3, .int .i64 0, .bool false, .int .i64 0, .int .i64 30, .int .i64 0, .int .i64 0, .int .i64 0, .bool false, .int .i64 2, .int .i64 0, .int .i64 0, .int .i64 0, .int .i64 (-10000), .bool false] 108 := by rw [hw1]; exact Blk.new _ _ _
  have hb1 : Below w.heap.size w w1 := by rw [hw1]; exact (Below.refl _ _).alloc (Nat.le_refl _) _
  have hs1 : w1.heap.size = w.heap.size + 1 := by rw [hw1]; simp
  rw [← hw1, ← hs1]
  clear hw1
  have hb2 : Below w.heap.size w (w1.alloc (Obj.cells #[.int .i64 68] 3)) := hb1.alloc hb1.size _
  refine (HB.out _ _ _ _ _ (br_cells (q1.alloc _)) ?hI).mono ?_
  case hI =>
    intro _
    refine ⟨w1.heap.size, 0, rfl, fun i hi => ?_⟩
    obtain rfl : i = 0 := by omega
    exact Blk.cell (Blk.new w1 #[.int .i64 68] 3) (i := 0) rfl
  rintro e w3 ⟨v, rfl, hrow, hb3⟩
  have hb3' := hb2.trans (hb3.mono hb2.size)
  obtain ⟨g, cap, rfl, _, _, _, _, _, hc⟩ := RowL.at hrow (by decide)
  have d2 : w3.cell? ⟨g, 2, none⟩ = some (.int .i64 70) := hc 2 _ rfl
  rw [show ([(⟨0, 3, 70, 5, 3, 68⟩ : Line)] : List Line).length = 1 from rfl]
  clear hc hrow hb3 hb2 q1 hs1
  go_wp2_with fail
  go_ret
  exact ⟨rfl, hb3'⟩
theorem lawErr_any (n : Nat) (L : Nat → Part) (nw : Nat) (W : Nat → Int) (D : Int) (aP aW : Option Addr) (cP cW : Nat) (w : World) (hp : CellsF w aP n 6 (fun i => (L i).V)) (ha : IntsF w aW nw W) (hn : n ≤ 1000000000000000000) :
    Calls Try.prog 25 #[.slice aP n cP, .agg #[.slice aW nw cW, .int .i64 D]] w fun e w' => e = .returned (.int .i64 (bothE n L nw W D)) ∧ Below w.heap.size w w' := by
  have HA := Lib.hid ha
  have HP := Lib.hid hp
  obtain ⟨E, hE⟩ : ∃ E, E = partsE n L := ⟨_, rfl⟩
  have HE := Lib.hid hE
  by_cases h0 : E = 0
  · have HV := Lib.hid (show bothE n L nw W D = shapeE nw W D by unfold bothE; rw [if_neg (by rw [← hE]; simpa using h0)])
    subst h0
    clear hE ha hp
    go_enter Try.func25, Try.ntmps25
    go_wp2_with fail
    have hb0 : Below w.heap.size w (w.alloc (Obj.cells #[.slice aW nw cW, .int .i64 D] 60)) := (Below.refl _ _).alloc (Nat.le_refl _) _
    have q0 : Blk (w.alloc (Obj.cells #[.slice aW nw cW, .int .i64 D] 60)) w.heap.size #[.slice aW nw cW, .int .i64 D] 60 := Blk.new _ _ _
    obtain ⟨w1, hw1⟩ : ∃ w1, w1 = w.alloc (Obj.cells #[.slice aW nw cW, .int .i64 D] 60) := ⟨_, rfl⟩
    rw [← hw1] at hb0 q0 ⊢
    clear hw1
    refine (partsError_any n L aP cP w1 (HP.out.below (Nat.le_refl _) hb0) hn).mono ?_
    rintro e w2 ⟨rfl, hb2⟩
    rw [← HE.out]
    have q2 := q0.below hb2 q0.lt
    have hb02 := hb0.trans (hb2.mono hb0.size)
    have s0 : w2.cell? ⟨w.heap.size, 0, none⟩ = some (.slice aW nw cW) := q2.cell (i := 0) rfl
    have s1 : w2.cell? ⟨w.heap.size, 1, none⟩ = some (.int .i64 D) := q2.cell (i := 1) rfl
    have zs := q2.lt
    clear q0 hb2 hb0
    go_wp2_with fail
    refine (shapeError_any nw W D aW cW _ (HA.out.below (Nat.le_refl _) hb02)).mono ?_
    rintro e w3 ⟨rfl, hb3⟩
    rw [← HV.out]
    go_wp2_with fail
    go_ret
    exact ⟨rfl, hb02.trans (hb3.mono hb02.size)⟩
  · have HV := Lib.hid (show bothE n L nw W D = E by unfold bothE; rw [if_pos (by rw [← hE]; exact h0), hE])
    have g0 : (E != 0) = true := by simpa using h0
    clear hE ha hp h0
    go_enter Try.func25, Try.ntmps25
    go_wp2_with fail
    refine (partsError_any n L aP cP _ (HP.out.below (Nat.le_refl _) ((Below.refl _ _).alloc (Nat.le_refl _) _)) hn).mono ?_
    rintro e w2 ⟨rfl, hb2⟩
    rw [← HE.out]
    go_wp2_with fail
    go_ret
    exact ⟨by rw [HV.out]; rfl, ((Below.refl w.heap.size w).alloc (Nat.le_refl _) _).trans (hb2.mono (by simp))⟩
/-- a row that holds lines -/
def HasL (w : World) (a : Option Addr) (xs : List Line) : Prop := 0 < xs.length → ∃ g, a = some ⟨g, 0, none⟩ ∧ ∀ i u, (linesC xs)[i]? = some u → w.cell? ⟨g, i, none⟩ = some u
theorem HasL.of {w : World} {base : Nat} {e : TypeId} {a : Option Addr} {c : Nat} {xs : List Line} (h : RowL w base e 6 (.slice a xs.length c) xs.length (linesC xs)) : HasL w a xs := fun hp => by
  obtain ⟨g, cap, hv, _, _, _, _, _, hc⟩ := RowL.at h hp
  cases hv
  exact ⟨g, rfl, hc⟩
theorem HasL.below {w w' : World} {a : Option Addr} {xs : List Line} (h : HasL w a xs) (hb : Below w.heap.size w w') : HasL w' a xs := fun hp => by
  obtain ⟨g, hg, hc⟩ := h hp
  exact ⟨g, hg, fun i u hu => cell_below (hc i u hu) (Nat.le_refl _) hb⟩
set_option maxHeartbeats 2000000 in
theorem sameLines_same (xs : List Line) (a1 a2 : Option Addr) (c1 c2 : Nat) (w : World) (h1 : HasL w a1 xs) (h2 : HasL w a2 xs) (hl : xs.length ≤ 1000000) :
    Calls Try.prog 27 #[.slice a1 xs.length c1, .slice a2 xs.length c2] w fun e w' => e = .returned (.bool true) ∧ Below w.heap.size w w' := by
  have H1 := Lib.hid h1
  have H2 := Lib.hid h2
  obtain ⟨N, hN⟩ : ∃ N, N = xs.length := ⟨_, rfl⟩
  have HN := Lib.hid hN
  rw [← hN] at hl ⊢
  have e1 : ((N : Int) != (N : Int)) = false := by simp
  clear h1 h2 hN
  go_enter Try.func27, Try.ntmps27
  go_wp2_with fail
  go_loopw [13] (fun iv wx => ∃ (i q : Nat), iv = .int .i64 i ∧ i ≤ N ∧ wx = w.drewN q) (fun iv _ => N - (intOf iv).toNat)
  case atStart => exact ⟨0, 0, rfl, by omega, rfl⟩
  case round =>
    obtain ⟨i, q, rfl, hi, rfl⟩ := hrel
    by_cases hiN : i < N
    · obtain ⟨g5, rfl, hx5⟩ := H1.out (by rw [← HN.out]; omega)
      obtain ⟨g8, rfl, hx8⟩ := H2.out (by rw [← HN.out]; omega)
      have hlt : i < xs.length := by rw [← HN.out]; exact hiN
      obtain ⟨x, hx⟩ : ∃ x, xs[i]? = some x := ⟨_, List.getElem?_eq_getElem hlt⟩
      obtain ⟨xa, xz, y2, y3, y4, y5⟩ := x
      have d0 := hx5 _ _ (linesC_get hx (j := 0) rfl)
      have d1 := hx5 _ _ (linesC_get hx (j := 1) rfl)
      have d2 := hx5 _ _ (linesC_get hx (j := 2) rfl)
      have d3 := hx5 _ _ (linesC_get hx (j := 3) rfl)
      have d4 := hx5 _ _ (linesC_get hx (j := 4) rfl)
      have d5 := hx5 _ _ (linesC_get hx (j := 5) rfl)
      have f0 := hx8 _ _ (linesC_get hx (j := 0) rfl)
      have f1 := hx8 _ _ (linesC_get hx (j := 1) rfl)
      have f2 := hx8 _ _ (linesC_get hx (j := 2) rfl)
      have f3 := hx8 _ _ (linesC_get hx (j := 3) rfl)
      have f4 := hx8 _ _ (linesC_get hx (j := 4) rfl)
      have f5 := hx8 _ _ (linesC_get hx (j := 5) rfl)
      rw [Nat.add_zero] at d0 f0
      simp only at d0 d1 d2 d3 d4 d5 f0 f1 f2 f3 f4 f5
      have i1 : (0 : Int) ≤ (i : Int) := by omega
      have i2 : (i : Int) < (N : Int) := by omega
      have z0 : ((xa : Int) != (xa : Int)) = false := by simp
      have z1 : ((xz : Int) != (xz : Int)) = false := by simp
      have z2 : (y2 != y2) = false := by simp
      have z3 : (y3 != y3) = false := by simp
      have z4 : (y4 != y4) = false := by simp
      have z5 : (y5 != y5) = false := by simp
      clear hx5 hx8 hx hlt
      go_wp2_with fail
      go_quiet (fail)
      go_wp2_with fail
      go_roundw
      case rel => exact ⟨i + 1, q + nq, by go_num, by omega, by simp [World.drewN_drewN]⟩
      case measure => simp [intOf]; omega
    · obtain rfl : N = i := by omega
      go_wp2_with fail
      go_ret
      exact ⟨rfl, below_drewN (Below.refl _ _) _⟩
end Go.Proofs.Ytnigebnibikolaa.LN
