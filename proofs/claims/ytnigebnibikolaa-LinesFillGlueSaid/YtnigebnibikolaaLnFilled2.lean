

/-
  The reference's Filled: a line without parts.
-/
import Derived.Test.YtnigebnibikolaaLnFilled
namespace Go.Proofs.Ytnigebnibikolaa.LN
open Go.RowKit Go.Law Go.Law.Ln
set_option linter.unusedVariables false
set_option linter.unusedSimpArgs false
set_option maxRecDepth 100000
set_option maxHeartbeats 8000000 in
theorem filled_none (n : Nat) (L : Nat → Part) (aP : Option Addr) (cP z : Nat) (N0 S0 R0 X : Int) (just : Bool) (w : World) (mP : CellsF w aP n 6 (fun i => (L i).V)) (hcP : n ≤ cP) (hcM : cP ≤ 1000000000000000) (hz : z ≤ n) (hX : 1 ≤ X ∧ X ≤ 100000) (hE : partsE n L = 0) :
    Calls Try.prog 35 #[.slice aP n cP, .agg #[.int .i64 z, .int .i64 z, .int .i64 N0, .int .i64 S0, .int .i64 R0, .int .i64 X], .bool just] w (FdPost w (fillF n L X z z just)) := by
  obtain ⟨hn, hok⟩ := partsE_zero hE
  have HPS := Lib.hid mP
  have HOK := Lib.hid hok
  obtain ⟨R, hR⟩ : ∃ R, R = fillF n L X z z just := ⟨_, rfl⟩
  have HR2 := Lib.hid (show R = [] by rw [hR]; unfold fillF; rw [Nat.sub_self]; rfl)
  rw [← hR]
  have hbd := line_bd (nw := 1) (W := fun _ => X) (num := 0) hn hok (show z ≤ z by omega) hz
  have hx : lineF n L 1 (fun _ => X) z z 0 = ⟨z, z, wdF L z - wdF L z + addF n L z, 0, 0, X⟩ := by unfold lineF; rw [Int.sub_self (grF L z), Int.sub_self (ylF L z)]
  obtain ⟨M, hM⟩ : ∃ y, y = wdF L z - wdF L z + addF n L z := ⟨_, rfl⟩
  rw [hx] at hbd
  rw [← hM] at hx
  rw [← hM] at hbd
  simp only at hbd
  obtain ⟨b1, b2, b3⟩ := hbd
  have HX := Lib.hid hx
  have HNB := Lib.hid hn
  obtain ⟨w1, hw1⟩ : ∃ w1, w1 = w.alloc (Obj.cells #[.int .i64 z, .int .i64 z, .int .i64 N0, .int .i64 S0, .int .i64 R0, .int .i64 X] 74) := ⟨_, rfl⟩
  have hq1 : FlB w z z N0 S0 R0 X w1 := by rw [hw1]; exact ⟨(Below.refl _ _).alloc (Nat.le_refl _) _, Blk.new _ _ _⟩
  have HQ1 := Lib.hid hq1
  clear mP hok hR hM hx hq1
  have e2 : (z : Int) ≤ (cP : Int) := by omega
  go_enter Try.func35, Try.ntmps35
  go_upto_region 1 with fail
  rw [← hw1]
  clear hw1
  have x0 := HQ1.out.box.cell (i := 0) rfl
  have x1 := HQ1.out.box.cell (i := 1) rfl
  have x5 := HQ1.out.box.cell (i := 5) rfl
  have zx := HQ1.out.box.lt
  go_wp2_with fail
  have hb2 : Below w1.heap.size w1 (w1.alloc (Obj.cells #[.int .i64 X] 3)) := (Below.refl _ _).alloc (Nat.le_refl _) _
  have HQ2 := HQ1.out.under hb2
  refine (oneLine_any n L 1 (fun _ => X) 0 aP (some ⟨w1.heap.size, 0, none⟩) cP 1 z z 0 _ (HPS.out.below (Nat.le_refl _) HQ2.below) ?hI HNB.out hcP hcM (by omega) hz HOK.out (by omega) (by omega)).mono ?_
  case hI =>
    intro _
    refine ⟨w1.heap.size, 0, rfl, fun i hi => ?_⟩
    obtain rfl : i = 0 := by omega
    exact Blk.cell (Blk.new w1 #[.int .i64 X] 3) (i := 0) rfl
  rintro e w3 ⟨rfl, hb3⟩
  rw [HX.out]
  rw [show lineV ⟨z, z, M, 0, 0, X⟩ = .agg #[.int .i64 z, .int .i64 z, .int .i64 M, .int .i64 0, .int .i64 0, .int .i64 X] from rfl]
  have HQ3 := Lib.hid (HQ2.under hb3)
  clear hb2 hb3 HQ1 HQ2 x0 x1 x5 zx HX
  go_upto_region 2 with fail
  obtain ⟨w4, hw4⟩ : ∃ w4, w4 = w3.alloc (Obj.cells #[.int .i64 z, .int .i64 z, .int .i64 M, .int .i64 0, .int .i64 0, .int .i64 X] 74) := ⟨_, rfl⟩
  rw [← hw4]
  have q4 : Blk w4 w3.heap.size #[.int .i64 z, .int .i64 z, .int .i64 M, .int .i64 0, .int .i64 0, .int .i64 X] 74 := by rw [hw4]; exact Blk.new _ _ _
  have HQ4 := Lib.hid (HQ3.out.under (w' := w4) (by rw [hw4]; exact (Below.refl _ _).alloc (Nat.le_refl _) _))
  obtain ⟨q, hq⟩ : ∃ q, q = w3.heap.size := ⟨_, rfl⟩
  rw [← hq] at q4 ⊢
  clear hw4 hq HQ3
  have y2 := q4.cell (i := 2) rfl
  have y3 := q4.cell (i := 3) rfl
  have y4 := q4.cell (i := 4) rfl
  have y5 := q4.cell (i := 5) rfl
  have zy := q4.lt
  have x0 := HQ4.out.box.cell (i := 0) rfl
  have x1 := HQ4.out.box.cell (i := 1) rfl
  have zx := HQ4.out.box.lt
  clear q4
  by_cases hl : X - M < 0
  · have f1 : IntKind.i64.wrap (-(X - M)) = -(X - M) := IntWalk.i64_in _ ⟨by omega, by omega⟩
    go_wp2_with fail
    go_quiet (fail)
    obtain ⟨w5, hw5⟩ : ∃ w5, w5 = w4.drewN nq := ⟨_, rfl⟩
    rw [← hw5]
    have HQ5 := Lib.hid (HQ4.out.under (w' := w5) (by rw [hw5]; exact below_drewN (Below.refl _ _) _))
    have v0 : w5.cell? ⟨w.heap.size, 0, none⟩ = some (.int .i64 z) := by rw [hw5]; exact x0
    have v1 : w5.cell? ⟨w.heap.size, 1, none⟩ = some (.int .i64 z) := by rw [hw5]; exact x1
    clear hw5 f1 y2 y3 y4 y5 zy x0 x1
    have zx := HQ5.out.box.lt
    have hm : 0 < -(X - M) := by omega
    by_cases hzc : z = cP
    · have hc1 : ¬ z < cP := by omega
      clear hzc
      go_wp2_with fail
      refine wp_loop_rounds 1 ?_
      rw [rounds_succ]
      go_wp2_with fail
      go_ret
      exact ⟨_, rfl, by rw [HR2.out]; exact RowL.nil _ _ _ _, (HQ5.out).below⟩
    · have hc1 : z < cP := by omega
      clear hzc
      go_wp2_with fail
      refine wp_loop_rounds 1 ?_
      rw [rounds_succ]
      go_wp2_with fail
      go_ret
      exact ⟨_, rfl, by rw [HR2.out]; exact RowL.nil _ _ _ _, (HQ5.out).below⟩
  · by_cases hzc : z = cP
    · have hc1 : ¬ z < cP := by omega
      clear hzc
      cases just
      · go_wp2_with fail
        refine wp_loop_rounds 1 ?_
        rw [rounds_succ]
        go_wp2_with fail
        go_ret
        exact ⟨_, rfl, by rw [HR2.out]; exact RowL.nil _ _ _ _, (HQ4.out).below⟩
      · go_wp2_with fail
        refine wp_loop_rounds 1 ?_
        rw [rounds_succ]
        go_wp2_with fail
        go_ret
        exact ⟨_, rfl, by rw [HR2.out]; exact RowL.nil _ _ _ _, (HQ4.out).below⟩
    · have hc1 : z < cP := by omega
      clear hzc
      cases just
      · go_wp2_with fail
        refine wp_loop_rounds 1 ?_
        rw [rounds_succ]
        go_wp2_with fail
        go_ret
        exact ⟨_, rfl, by rw [HR2.out]; exact RowL.nil _ _ _ _, (HQ4.out).below⟩
      · go_wp2_with fail
        refine wp_loop_rounds 1 ?_
        rw [rounds_succ]
        go_wp2_with fail
        go_ret
        exact ⟨_, rfl, by rw [HR2.out]; exact RowL.nil _ _ _ _, (HQ4.out).below⟩
theorem filled_any (n : Nat) (L : Nat → Part) (aP : Option Addr) (cP a z : Nat) (N0 S0 R0 X : Int) (just : Bool) (w : World) (mP : CellsF w aP n 6 (fun i => (L i).V)) (hcP : n ≤ cP) (hcM : cP ≤ 1000000000000000) (haz : a ≤ z) (hz : z ≤ n) (hX : 1 ≤ X ∧ X ≤ 100000) (hE : partsE n L = 0) :
    Calls Try.prog 35 #[.slice aP n cP, .agg #[.int .i64 a, .int .i64 z, .int .i64 N0, .int .i64 S0, .int .i64 R0, .int .i64 X], .bool just] w (FdPost w (fillF n L X a z just)) := by
  by_cases h : a < z
  · exact filled_some n L aP cP a z N0 S0 R0 X just w mP hcP hcM h hz hX hE
  · obtain rfl : z = a := by omega
    exact filled_none n L aP cP z N0 S0 R0 X just w mP hcP hcM hz hX hE
end Go.Proofs.Ytnigebnibikolaa.LN
