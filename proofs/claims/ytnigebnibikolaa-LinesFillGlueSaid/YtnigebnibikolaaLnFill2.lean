

/-
  Fill: a line without parts; errors.
-/
import Derived.Test.YtnigebnibikolaaLnFill
namespace Go.Proofs.Ytnigebnibikolaa.LN
open Go.RowKit Go.Law Go.Law.Ln
set_option linter.unusedVariables false
set_option linter.unusedSimpArgs false
set_option maxRecDepth 100000
/-- the first error -/
def fillE (n : Nat) (L : Nat → Part) (xa xz X : Int) : Int := if partsE n L ≠ 0 then partsE n L else if 0 ≤ xa ∧ xa ≤ xz ∧ xz ≤ n ∧ 1 ≤ X ∧ X ≤ 100000 then 0 else 2
set_option maxHeartbeats 8000000 in
theorem fill_none (n : Nat) (L : Nat → Part) (aP : Option Addr) (cP z : Nat) (N0 S0 R0 X : Int) (just : Bool) (w : World) (mP : CellsF w aP n 6 (fun i => (L i).V)) (hcP : n ≤ cP) (hcM : cP ≤ 1000000000000000) (hz : z ≤ n) (hX : 1 ≤ X ∧ X ≤ 100000) (hE : partsE n L = 0) :
    Calls Try.prog 34 #[.slice aP n cP, .agg #[.int .i64 z, .int .i64 z, .int .i64 N0, .int .i64 S0, .int .i64 R0, .int .i64 X], .bool just] w (FlPost w (fillF n L X z z just)) := by
  obtain ⟨hn, hok⟩ := partsE_zero hE
  have HPS := Lib.hid mP
  have HOK := Lib.hid hok
  have HE := Lib.hid hE
  obtain ⟨R, hR⟩ : ∃ R, R = fillF n L X z z just := ⟨_, rfl⟩
  have HR2 := Lib.hid (show R = [] by rw [hR]; unfold fillF; rw [Nat.sub_self]; rfl)
  rw [← hR]
  have hq0 : FlB w z z N0 S0 R0 X (w.alloc (Obj.cells #[.int .i64 z, .int .i64 z, .int .i64 N0, .int .i64 S0, .int .i64 R0, .int .i64 X] 74)) := ⟨(Below.refl _ _).alloc (Nat.le_refl _) _, Blk.new _ _ _⟩
  have HQ0 := Lib.hid hq0
  clear mP hok hE hR hq0
  have e2 : (z : Int) ≤ (cP : Int) := by omega
  have e3 : (z : Int) ≤ (n : Int) := by omega
  go_enter Try.func34, Try.ntmps34
  go_wp2_with fail
  refine (check_any n L aP cP _ (HPS.out.below (Nat.le_refl _) HQ0.out.below) (by omega)).mono ?_
  rintro e w2 ⟨rfl, hb2⟩
  rw [HE.out]
  have HQ2 := Lib.hid (HQ0.out.under hb2)
  clear hb2 HQ0
  have x0 := HQ2.out.box.cell (i := 0) rfl
  have x1 := HQ2.out.box.cell (i := 1) rfl
  have x5 := HQ2.out.box.cell (i := 5) rfl
  have zx := HQ2.out.box.lt
  by_cases hzn : z = n
  · have hnl : ¬ (z : Int) < (n : Int) := by omega
    clear hzn
    by_cases hzc : z = cP
    · have hc1 : ¬ z < cP := by omega
      clear hzc
      go_wp2_with fail
      refine wp_loop_rounds 1 ?_
      rw [rounds_succ]
      go_wp2_with fail
      all_goals
        refine wp_loop_rounds 1 ?_
        rw [rounds_succ]
        go_wp2_with fail
        go_ret2
        exact ⟨_, rfl, by rw [HR2.out]; exact RowL.nil _ _ _ _, HQ2.out.below⟩
    · have hc1 : z < cP := by omega
      clear hzc
      go_wp2_with fail
      refine wp_loop_rounds 1 ?_
      rw [rounds_succ]
      go_wp2_with fail
      all_goals
        refine wp_loop_rounds 1 ?_
        rw [rounds_succ]
        go_wp2_with fail
        go_ret2
        exact ⟨_, rfl, by rw [HR2.out]; exact RowL.nil _ _ _ _, HQ2.out.below⟩
  · have hltz : (z : Int) < (n : Int) := by omega
    have hc1 : z < cP := by omega
    obtain ⟨b, off, rfl, hcell⟩ := HPS.out.below (Nat.le_refl _) HQ2.out.below (by omega)
    have d0 : w2.cell? ⟨b, off + z * 6 + 0, none⟩ = some ((L z).V 0) := hcell z (by omega) 0 (by omega)
    have d1 : w2.cell? ⟨b, off + z * 6 + 1, none⟩ = some ((L z).V 1) := hcell z (by omega) 1 (by omega)
    have b4 := (HOK.out z (by omega)).width
    obtain ⟨p, hp⟩ : ∃ p, p = L z := ⟨_, rfl⟩
    rw [← hp] at d0 d1 b4
    have zb := lt_of_cell d0
    simp only at zb
    obtain ⟨K, Wi, St, Rs, C, F⟩ := p
    simp only [Part.V] at d0 d1
    simp only at b4
    rw [Nat.add_zero] at d0
    clear hcell hp hzn
    by_cases hk : K = 2
    · subst hk
      go_wp2_with fail
      refine wp_loop_rounds 1 ?_
      rw [rounds_succ]
      go_wp2_with fail
      all_goals
        refine wp_loop_rounds 1 ?_
        rw [rounds_succ]
        go_wp2_with fail
        go_ret2
        exact ⟨_, rfl, by rw [HR2.out]; exact RowL.nil _ _ _ _, HQ2.out.below⟩
    · have hk2 : (K == 2) = false := by simpa using hk
      clear hk
      go_wp2_with fail
      refine wp_loop_rounds 1 ?_
      rw [rounds_succ]
      go_wp2_with fail
      all_goals
        refine wp_loop_rounds 1 ?_
        rw [rounds_succ]
        go_wp2_with fail
        go_ret2
        exact ⟨_, rfl, by rw [HR2.out]; exact RowL.nil _ _ _ _, HQ2.out.below⟩
set_option maxHeartbeats 8000000 in
theorem fill_bad (n : Nat) (L : Nat → Part) (aP : Option Addr) (cP : Nat) (xa xz N0 S0 R0 X : Int) (just : Bool) (w : World) (mP : CellsF w aP n 6 (fun i => (L i).V)) (hn : n ≤ 1000000000000000) (hE : fillE n L xa xz X ≠ 0) :
    Calls Try.prog 34 #[.slice aP n cP, .agg #[.int .i64 xa, .int .i64 xz, .int .i64 N0, .int .i64 S0, .int .i64 R0, .int .i64 X], .bool just] w fun e w' => e = .returned (.tuple #[.slice none 0 0, .int .i64 (fillE n L xa xz X)]) ∧ Below w.heap.size w w' := by
  have HPS := Lib.hid mP
  obtain ⟨E, hE1⟩ : ∃ E, E = partsE n L := ⟨_, rfl⟩
  have HE := Lib.hid hE1
  unfold fillE at hE ⊢
  rw [← hE1] at hE ⊢
  obtain ⟨V, hV⟩ : ∃ V, V = (if E ≠ 0 then E else if 0 ≤ xa ∧ xa ≤ xz ∧ xz ≤ n ∧ 1 ≤ X ∧ X ≤ 100000 then 0 else 2) := ⟨_, rfl⟩
  rw [← hV] at hE ⊢
  have hb0 : Below w.heap.size w (w.alloc (Obj.cells #[.int .i64 xa, .int .i64 xz, .int .i64 N0, .int .i64 S0, .int .i64 R0, .int .i64 X] 74)) := (Below.refl _ _).alloc (Nat.le_refl _) _
  have q0 : Blk (w.alloc (Obj.cells #[.int .i64 xa, .int .i64 xz, .int .i64 N0, .int .i64 S0, .int .i64 R0, .int .i64 X] 74)) w.heap.size #[.int .i64 xa, .int .i64 xz, .int .i64 N0, .int .i64 S0, .int .i64 R0, .int .i64 X] 74 := Blk.new _ _ _
  have HB0 := Lib.hid hb0
  have Q0 := Lib.hid q0
  have HVV := Lib.hid hV
  clear mP hE1 hV hb0 q0
  go_enter Try.func34, Try.ntmps34
  go_wp2_with fail
  refine (check_any n L aP cP _ (HPS.out.below (Nat.le_refl _) HB0.out) (by omega)).mono ?_
  rintro e w2 ⟨rfl, hb2⟩
  rw [← HE.out]
  have HQ2 := Lib.hid (HB0.out.trans (hb2.mono HB0.out.size))
  have Q2 := Lib.hid (Q0.out.below hb2 Q0.out.lt)
  clear hb2 HB0 Q0
  by_cases h0 : E = 0
  · have HV := Lib.hid (show V = 2 by
      have h := HVV.out
      rw [if_neg (by simpa using h0)] at h
      rw [h]
      refine if_neg (fun hh => hE ?_)
      rw [h, if_pos hh])
    subst h0
    have x0 := Q2.out.cell (i := 0) rfl
    have x1 := Q2.out.cell (i := 1) rfl
    have x5 := Q2.out.cell (i := 5) rfl
    have zx := Q2.out.lt
    have hN : ¬ (0 ≤ xa ∧ xa ≤ xz ∧ xz ≤ n ∧ 1 ≤ X ∧ X ≤ 100000) := by
      intro hh
      have h := HVV.out
      rw [if_neg (by simp), if_pos hh] at h
      exact hE h
    clear hE HVV
    by_cases c1 : xa < 0
    · clear hN
      go_wp2_with fail
      go_ret2
      exact ⟨by rw [HV.out]; rfl, HQ2.out⟩
    · by_cases c2 : xz < xa
      · clear hN
        go_wp2_with fail
        go_ret2
        exact ⟨by rw [HV.out]; rfl, HQ2.out⟩
      · by_cases c3 : (n : Int) < xz
        · clear hN
          go_wp2_with fail
          go_ret2
          exact ⟨by rw [HV.out]; rfl, HQ2.out⟩
        · by_cases c4 : X < 1
          · clear hN
            go_wp2_with fail
            go_ret2
            exact ⟨by rw [HV.out]; rfl, HQ2.out⟩
          · have c5 : 100000 < X := by omega
            clear hN
            go_wp2_with fail
            go_ret2
            exact ⟨by rw [HV.out]; rfl, HQ2.out⟩
  · have HV := Lib.hid (show V = E by rw [HVV.out]; exact if_pos h0)
    have g0 : (E != 0) = true := by simpa using h0
    clear h0 hE
    go_wp2_with fail
    go_ret2
    exact ⟨by rw [HV.out]; rfl, HQ2.out⟩
end Go.Proofs.Ytnigebnibikolaa.LN
