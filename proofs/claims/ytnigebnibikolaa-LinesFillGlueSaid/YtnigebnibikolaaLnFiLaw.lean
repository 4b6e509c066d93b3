

/-
  LinesFillGlue: the walk.
-/
import Derived.Test.YtnigebnibikolaaLnFillA
import Derived.Test.YtnigebnibikolaaLnFilled2
import Derived.Test.YtnigebnibikolaaLnBroken
import Derived.Test.YtnigebnibikolaaSameInts
import Derived.Test.YtnigebnibikolaaIn
namespace Go.Proofs.Ytnigebnibikolaa.LN
open Go.RowKit Go.Law Go.Law.Ln
set_option linter.unusedVariables false
set_option linter.unusedSimpArgs false
set_option maxRecDepth 100000
set_option maxHeartbeats 8000000 in
theorem fiLaw_any (n : Nat) (L : Nat → Part) (aP : Option Addr) (cP : Nat) (xa xz N0 S0 R0 X : Int) (just : Bool) (w : World) (mP : CellsF w aP n 6 (fun i => (L i).V)) (hcP : n ≤ cP) (hcM : cP ≤ 1000000000000000) :
    Calls Try.prog 7 #[.slice aP n cP, .agg #[.int .i64 xa, .int .i64 xz, .int .i64 N0, .int .i64 S0, .int .i64 R0, .int .i64 X], .bool just] w fun e w' => e = .returned (.bool true) ∧ Below w.heap.size w w' := by
  have HPS := Lib.hid mP
  obtain ⟨E, hE⟩ : ∃ E, E = partsE n L := ⟨_, rfl⟩
  have HE := Lib.hid hE
  clear mP hE
  go_enter Try.func7, Try.ntmps7
  go_wp2_with fail
  obtain ⟨w1, hw1⟩ : ∃ w1, w1 = w.alloc (Obj.cells #[.int .i64 xa, .int .i64 xz, .int .i64 N0, .int .i64 S0, .int .i64 R0, .int .i64 X] 74) := ⟨_, rfl⟩
  have hb1 : Below w.heap.size w w1 := by rw [hw1]; exact (Below.refl _ _).alloc (Nat.le_refl _) _
  have q1 : Blk w1 w.heap.size #[.int .i64 xa, .int .i64 xz, .int .i64 N0, .int .i64 S0, .int .i64 R0, .int .i64 X] 74 := by rw [hw1]; exact Blk.new _ _ _
  rw [← hw1]
  clear hw1
  refine (broken_any w1).mono ?_
  rintro e w2 ⟨rfl, hb2⟩
  have Q2 := Lib.hid (q1.below hb2 q1.lt)
  have HB2 := Lib.hid (hb1.trans (hb2.mono hb1.size))
  clear q1 hb1 hb2
  have x0 := (Q2.out).cell (i := 0) rfl
  have x1 := (Q2.out).cell (i := 1) rfl
  have x2 := (Q2.out).cell (i := 2) rfl
  have x3 := (Q2.out).cell (i := 3) rfl
  have x4 := (Q2.out).cell (i := 4) rfl
  have x5 := (Q2.out).cell (i := 5) rfl
  have zx := (Q2.out).lt
  by_cases hF : fillE n L xa xz X = 0
  · obtain ⟨hE0, hr⟩ : E = 0 ∧ (0 ≤ xa ∧ xa ≤ xz ∧ xz ≤ n ∧ 1 ≤ X ∧ X ≤ 100000) := by
      unfold fillE at hF
      rw [← HE.out] at hF
      by_cases h0 : E = 0
      · rw [if_neg (by simpa using h0)] at hF
        refine ⟨h0, Classical.byContradiction fun h => ?_⟩
        rw [if_neg h] at hF
        omega
      · rw [if_pos h0] at hF
        exact absurd hF h0
    have HE0 := Lib.hid (show partsE n L = 0 by rw [← HE.out, hE0])
    obtain ⟨h1, h2, h3, h4, h5⟩ := hr
    obtain ⟨a, rfl⟩ : ∃ a : Nat, xa = a := ⟨xa.toNat, by omega⟩
    obtain ⟨z, rfl⟩ : ∃ z : Nat, xz = z := ⟨xz.toNat, by omega⟩
    clear hF hE0
    obtain ⟨F, hF⟩ : ∃ F, F = fillF n L X a z just := ⟨_, rfl⟩
    have HF := Lib.hid hF
    have hFl : F.length ≤ 1000000000000000 := by
      rw [hF]; unfold fillF
      exact Nat.le_trans (glueF_len _ _ _ _ _ _ _) (by omega)
    clear hF
    have HIN := Lib.hid (show Ref.inB X 1 100000 = true from Ref.inB_true.2 ⟨h4, h5⟩)
    go_wp2_with fail
    refine (fill_any n L aP cP a z N0 S0 R0 X just w2 (HPS.out.below (Nat.le_refl _) HB2.out) hcP hcM (by omega) (by omega) ⟨h4, h5⟩ HE0.out).mono ?_
    rintro e w3 ⟨v3, rfl, hrow3, hb3⟩
    rw [← HF.out] at hrow3
    obtain ⟨a3, c3, rfl, _, _, hI3⟩ := RowL.ints hrow3 rfl
    have HI3 := Lib.hid hI3
    have hs3 := hb3.size
    clear hI3 hrow3
    have Q3 := Lib.hid (Q2.out.below hb3 Q2.out.lt)
    have HB3 := Lib.hid (HB2.out.trans ((hb3).mono HB2.out.size))
    clear x0 x1 x2 x3 x4 x5 zx hb3 Q2 HB2
    have x0 := (Q3.out).cell (i := 0) rfl
    have x1 := (Q3.out).cell (i := 1) rfl
    have x2 := (Q3.out).cell (i := 2) rfl
    have x3 := (Q3.out).cell (i := 3) rfl
    have x4 := (Q3.out).cell (i := 4) rfl
    have x5 := (Q3.out).cell (i := 5) rfl
    have zx := (Q3.out).lt
    go_wp2_with fail
    refine (partsError_any n L aP cP w3 (HPS.out.below (Nat.le_refl _) HB3.out) (by omega)).mono ?_
    rintro e w4 ⟨rfl, hb4⟩
    rw [HE0.out]
    have HI4 := Lib.hid (HI3.out.below (Nat.le_refl _) hb4)
    clear HI3
    have Q4 := Lib.hid (Q3.out.below hb4 Q3.out.lt)
    have HB4 := Lib.hid (HB3.out.trans ((hb4).mono HB3.out.size))
    clear x0 x1 x2 x3 x4 x5 zx hb4 Q3 HB3
    have x0 := (Q4.out).cell (i := 0) rfl
    have x1 := (Q4.out).cell (i := 1) rfl
    have x2 := (Q4.out).cell (i := 2) rfl
    have x3 := (Q4.out).cell (i := 3) rfl
    have x4 := (Q4.out).cell (i := 4) rfl
    have x5 := (Q4.out).cell (i := 5) rfl
    have zx := (Q4.out).lt
    go_wp2_with fail
    refine (Ref.in_any X 1 100000 _).mono ?_
    rintro e w5 ⟨rfl, rfl⟩
    rw [HIN.out]
    go_wp2_with fail
    refine (filled_any n L aP cP a z N0 S0 R0 X just w4 (HPS.out.below (Nat.le_refl _) HB4.out) hcP hcM (by omega) (by omega) ⟨h4, h5⟩ HE0.out).mono ?_
    rintro e w6 ⟨v6, rfl, hrow6, hb6⟩
    rw [← HF.out] at hrow6
    obtain ⟨a6, c6, rfl, _, _, hI6⟩ := RowL.ints hrow6 rfl
    have HI6 := Lib.hid hI6
    have HJ6 := Lib.hid (HI4.out.below (Nat.le_refl _) hb6)
    have HB6 := Lib.hid (HB4.out.trans (hb6.mono HB4.out.size))
    clear hI6 hrow6 hb6 HI4 x0 x1 x2 x3 x4 x5 zx
    go_wp2_with fail
    have hsame : Ref.sameB F.length F.length (fun i => F.getD i 0) (fun i => F.getD i 0) = true := Ref.sameB_true.2 ⟨rfl, fun _ _ => rfl⟩
    refine (Ref.same_any F.length F.length (fun i => F.getD i 0) (fun i => F.getD i 0) a3 a6 c3 c6 w6 HJ6.out HI6.out (by omega) (by omega)).mono ?_
    rintro e w7 ⟨rfl, hb7⟩
    rw [hsame]
    have HB7 := Lib.hid (HB6.out.trans (hb7.mono HB6.out.size))
    clear hsame hb7
    go_wp2_with fail
    go_ret
    exact ⟨rfl, HB7.out⟩
  · obtain ⟨V, hV⟩ : ∃ V, V = fillE n L xa xz X := ⟨_, rfl⟩
    have HV := Lib.hid hV
    have HF0 := Lib.hid hF
    clear hF hV
    go_wp2_with fail
    refine (fill_bad n L aP cP xa xz N0 S0 R0 X just w2 (HPS.out.below (Nat.le_refl _) HB2.out) (by omega) HF0.out).mono ?_
    rintro e w3 ⟨rfl, hb3⟩
    rw [← HV.out]
    have Q3 := Lib.hid (Q2.out.below hb3 Q2.out.lt)
    have HB3 := Lib.hid (HB2.out.trans ((hb3).mono HB2.out.size))
    clear x0 x1 x2 x3 x4 x5 zx hb3 Q2 HB2
    have x0 := (Q3.out).cell (i := 0) rfl
    have x1 := (Q3.out).cell (i := 1) rfl
    have x2 := (Q3.out).cell (i := 2) rfl
    have x3 := (Q3.out).cell (i := 3) rfl
    have x4 := (Q3.out).cell (i := 4) rfl
    have x5 := (Q3.out).cell (i := 5) rfl
    have zx := (Q3.out).lt
    go_wp2_with fail
    refine (partsError_any n L aP cP w3 (HPS.out.below (Nat.le_refl _) HB3.out) (by omega)).mono ?_
    rintro e w4 ⟨rfl, hb4⟩
    rw [← HE.out]
    have Q4 := Lib.hid (Q3.out.below hb4 Q3.out.lt)
    have HB4 := Lib.hid (HB3.out.trans ((hb4).mono HB3.out.size))
    clear x0 x1 x2 x3 x4 x5 zx hb4 Q3 HB3
    have x0 := (Q4.out).cell (i := 0) rfl
    have x1 := (Q4.out).cell (i := 1) rfl
    have x2 := (Q4.out).cell (i := 2) rfl
    have x3 := (Q4.out).cell (i := 3) rfl
    have x4 := (Q4.out).cell (i := 4) rfl
    have x5 := (Q4.out).cell (i := 5) rfl
    have zx := (Q4.out).lt
    by_cases h0 : E = 0
    · have hN : ¬ (0 ≤ xa ∧ xa ≤ xz ∧ xz ≤ n ∧ 1 ≤ X ∧ X ≤ 100000) := by
        intro hh
        refine HF0.out ?_
        unfold fillE
        rw [← HE.out, h0, if_neg (by simp), if_pos hh]
      have h2 : V = 2 := by
        rw [HV.out]
        unfold fillE
        rw [← HE.out, h0, if_neg (by simp), if_neg hN]
      subst h0
      subst h2
      clear HF0
      by_cases c1 : xa < 0
      · clear hN
        go_wp2_with fail
        go_ret
        exact ⟨rfl, HB4.out⟩
      · by_cases c2 : xz < xa
        · clear hN
          go_wp2_with fail
          go_ret
          exact ⟨rfl, HB4.out⟩
        · by_cases c3 : (n : Int) < xz
          · clear hN
            go_wp2_with fail
            go_ret
            exact ⟨rfl, HB4.out⟩
          · have HIN := Lib.hid (show Ref.inB X 1 100000 = false from Ref.inB_false.2 (by omega))
            clear hN
            go_wp2_with fail
            refine (Ref.in_any X 1 100000 _).mono ?_
            rintro e w5 ⟨rfl, rfl⟩
            rw [HIN.out]
            go_wp2_with fail
            go_ret
            exact ⟨rfl, HB4.out⟩
    · have h2 : V = E := by
        rw [HV.out]
        unfold fillE
        rw [← HE.out, if_pos h0]
      have g0 : (E == 0) = false := by simpa using h0
      have g1 : (E != 0) = true := by simpa using h0
      have g2 : (E == E) = true := by simp
      subst h2
      clear h0 HF0
      go_wp2_with fail
      go_ret
      exact ⟨rfl, HB4.out⟩
end Go.Proofs.Ytnigebnibikolaa.LN
