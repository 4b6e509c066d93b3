
/-
  metric.round, advance, pair, kern, and the reference's Half, Wide, Nearer.
-/
import Derived.Test.YtnigebnibikolaaDoorMeRef
import Derived.Test.YtnigebnibikolaaDoorMePlain
import Derived.BigQuiet
import Derived.IntWalk
namespace Go.Proofs.YtnigebnibikolaaDoor.ME
open Go.RowKit Go.Law Go.Law.Me Ref
set_option linter.unusedVariables false
set_option linter.unusedSimpArgs false
set_option maxRecDepth 100000
def lookV (k : Look) : Value := .agg #[.int .i64 k.size, .bool k.bold, .bool k.fixed]
theorem round_any (a : Int) (w : World) (ha : 0 ≤ a ∧ a ≤ 100000000) : Calls Tryd.prog 59 #[.int .i64 a, .int .i64 1000] w fun e w' => e = .returned (.int .i64 (half a)) ∧ w = w' := by
  obtain ⟨h1, h2⟩ := ha
  go_enter Tryd.func59, Tryd.ntmps59
  go_wp2_with fail
  go_ret
  exact ⟨rfl, rfl⟩
theorem half_any (a : Int) (w : World) (ha : 0 ≤ a ∧ a ≤ 100000000) : Calls Tryd.prog 49 #[.int .i64 a, .int .i64 1000] w fun e w' => e = .returned (.int .i64 (half a)) ∧ ∃ m, w' = w.drewN m := by
  obtain ⟨h1, h2⟩ := ha
  obtain ⟨V, hV⟩ : ∃ V, V = half a := ⟨_, rfl⟩
  rw [← hV]
  have HV := Lib.hid hV
  clear hV
  go_enter Tryd.func49, Tryd.ntmps49
  have hz : ¬ (1000 : Int) = 0 := by omega
  have w4 : Int.tdiv a 1000 = a / 1000 := Int.tdiv_eq_ediv_of_nonneg h1
  have w5 : Int.tmod a 1000 = a % 1000 := Int.tmod_eq_emod_of_nonneg h1
  have w6 : IntKind.i64.wrap (a / 1000) = a / 1000 := IntWalk.i64_in _ (by omega)
  go_wp2_with fail
  go_quiet (fail)
  clear w4 w5 w6
  go_wp2_with fail
  all_goals
    go_ret
    refine ⟨retI ?_, _, rfl⟩
    rw [HV.out]
    unfold half
    omega
set_option maxHeartbeats 4000000 in
theorem advance_any (c : Int) (k : Look) (w : World) (ht : Tabs w) (hk : k.ok) :
    Calls Tryd.prog 47 #[.int .i64 c, lookV k] w fun e w' => e = .returned (.int .i64 (adv c k)) ∧ Below w.heap.size w w' := by
  have HT := Lib.hid ht
  clear ht
  obtain ⟨s, bold, fixed⟩ := k
  unfold lookV Look.ok at *
  simp only at hk ⊢
  have hE := em_bd c
  have hadv := show adv c ⟨s, bold, fixed⟩ = half (advE (emC c) bold fixed * s) from rfl
  obtain ⟨e, he⟩ : ∃ e, e = emC c := ⟨_, rfl⟩
  rw [← he] at hE hadv
  obtain ⟨V, hV⟩ : ∃ V, V = adv c ⟨s, bold, fixed⟩ := ⟨_, rfl⟩
  rw [← hV] at hadv ⊢
  have HV := Lib.hid hadv
  have HEM := Lib.hid he
  clear he hV hadv
  have hem := fun w1 (hb : Below w.heap.size w w1) => em_any c w1 (HT.out.below (Nat.le_refl _) hb)
  rw [← HEM.out] at hem
  have HQ := Lib.hid hem
  clear hem
  by_cases h0 : e = 0
  · have HE := Lib.hid (show V = 0 by rw [HV.out, h0]; unfold advE half; simp)
    have h0' : (e == 0) = true := by simpa using h0
    clear h0
    go_enter Tryd.func47, Tryd.ntmps47
    go_wp2_with fail
    refine (HQ.out _ ((Below.refl _ _).alloc (Nat.le_refl _) _)).mono ?_
    rintro e w1 ⟨rfl, hb1⟩
    have hs1 := hb1.size
    simp at hs1
    have z1 : w.heap.size < w1.heap.size := by omega
    have c0 : w1.cell? ⟨w.heap.size, 0, none⟩ = some (.int .i64 s) := (hb1.cell (by simp)).trans (by simp)
    have c1 : w1.cell? ⟨w.heap.size, 1, none⟩ = some (.bool bold) := (hb1.cell (by simp)).trans (by simp)
    have c2 : w1.cell? ⟨w.heap.size, 2, none⟩ = some (.bool fixed) := (hb1.cell (by simp)).trans (by simp)
    have hbel : Below w.heap.size w w1 := ((Below.refl _ _).alloc (Nat.le_refl _) _).trans (hb1.mono (by simp))
    clear hb1
    go_wp2_with fail
    go_ret
    exact ⟨retI HE.out.symm, hbel⟩
  · have h0' : (e == 0) = false := by simpa using h0
    have hmul := mul_bd (advE_bd hE bold fixed) hk
    have hadE := show advE e bold fixed = if fixed = true then (if e = 1000 then 1200 else 600) else if bold = true then e + 40 else e by unfold advE; rw [if_neg h0]
    obtain ⟨hk1, hk2⟩ := hk
    obtain ⟨hE1, hE2⟩ := hE
    clear h0
    by_cases hf : fixed = true
    · by_cases h1 : e = 1000
      · have h1' : (e == 1000) = true := by simpa using h1
        have hx : advE e bold fixed = 1200 := by rw [hadE, if_pos hf, if_pos h1]
        subst hf
        clear h1
        rw [hx] at hmul HV
        obtain ⟨hm1, hm2⟩ := hmul
        clear hadE hx
        go_enter Tryd.func47, Tryd.ntmps47
        go_wp2_with fail
        refine (HQ.out _ ((Below.refl _ _).alloc (Nat.le_refl _) _)).mono ?_
        rintro e9 w1 ⟨rfl, hb1⟩
        have hs1 := hb1.size
        simp at hs1
        have z1 : w.heap.size < w1.heap.size := by omega
        have c0 : w1.cell? ⟨w.heap.size, 0, none⟩ = some (.int .i64 s) := (hb1.cell (by simp)).trans (by simp)
        have c1 : w1.cell? ⟨w.heap.size, 1, none⟩ = some (.bool bold) := (hb1.cell (by simp)).trans (by simp)
        have c2 : w1.cell? ⟨w.heap.size, 2, none⟩ = some (.bool true) := (hb1.cell (by simp)).trans (by simp)
        have hbel : Below w.heap.size w w1 := ((Below.refl _ _).alloc (Nat.le_refl _) _).trans (hb1.mono (by simp))
        clear hb1
        go_wp2_with fail
        refine (round_any (1200 * s) _ ⟨by omega, by omega⟩).mono ?_
        rintro e9 w2 ⟨rfl, rfl⟩
        go_wp2_with fail
        go_ret
        exact ⟨retI HV.out.symm, hbel⟩
      · have h1' : (e == 1000) = false := by simpa using h1
        have hx : advE e bold fixed = 600 := by rw [hadE, if_pos hf, if_neg h1]
        subst hf
        clear h1
        rw [hx] at hmul HV
        obtain ⟨hm1, hm2⟩ := hmul
        clear hadE hx
        go_enter Tryd.func47, Tryd.ntmps47
        go_wp2_with fail
        refine (HQ.out _ ((Below.refl _ _).alloc (Nat.le_refl _) _)).mono ?_
        rintro e9 w1 ⟨rfl, hb1⟩
        have hs1 := hb1.size
        simp at hs1
        have z1 : w.heap.size < w1.heap.size := by omega
        have c0 : w1.cell? ⟨w.heap.size, 0, none⟩ = some (.int .i64 s) := (hb1.cell (by simp)).trans (by simp)
        have c1 : w1.cell? ⟨w.heap.size, 1, none⟩ = some (.bool bold) := (hb1.cell (by simp)).trans (by simp)
        have c2 : w1.cell? ⟨w.heap.size, 2, none⟩ = some (.bool true) := (hb1.cell (by simp)).trans (by simp)
        have hbel : Below w.heap.size w w1 := ((Below.refl _ _).alloc (Nat.le_refl _) _).trans (hb1.mono (by simp))
        clear hb1
        go_wp2_with fail
        refine (round_any (600 * s) _ ⟨by omega, by omega⟩).mono ?_
        rintro e9 w2 ⟨rfl, rfl⟩
        go_wp2_with fail
        go_ret
        exact ⟨retI HV.out.symm, hbel⟩
    · have hf' : fixed = false := by simpa using hf
      by_cases hb : bold = true
      · have hx : advE e bold fixed = e + 40 := by rw [hadE, if_neg hf, if_pos hb]
        subst hf'
        subst hb
        clear hf
        rw [hx] at hmul HV
        obtain ⟨hm1, hm2⟩ := hmul
        clear hadE hx
        go_enter Tryd.func47, Tryd.ntmps47
        go_wp2_with fail
        refine (HQ.out _ ((Below.refl _ _).alloc (Nat.le_refl _) _)).mono ?_
        rintro e9 w1 ⟨rfl, hb1⟩
        have hs1 := hb1.size
        simp at hs1
        have z1 : w.heap.size < w1.heap.size := by omega
        have c0 : w1.cell? ⟨w.heap.size, 0, none⟩ = some (.int .i64 s) := (hb1.cell (by simp)).trans (by simp)
        have c1 : w1.cell? ⟨w.heap.size, 1, none⟩ = some (.bool true) := (hb1.cell (by simp)).trans (by simp)
        have c2 : w1.cell? ⟨w.heap.size, 2, none⟩ = some (.bool false) := (hb1.cell (by simp)).trans (by simp)
        have hbel : Below w.heap.size w w1 := ((Below.refl _ _).alloc (Nat.le_refl _) _).trans (hb1.mono (by simp))
        clear hb1
        go_wp2_with fail
        refine (round_any ((e + 40) * s) _ ⟨by omega, by omega⟩).mono ?_
        rintro e9 w2 ⟨rfl, rfl⟩
        go_wp2_with fail
        go_ret
        exact ⟨retI HV.out.symm, hbel⟩
      · have hx : advE e bold fixed = e := by rw [hadE, if_neg hf, if_neg hb]
        have hb' : bold = false := by simpa using hb
        subst hf'
        subst hb'
        clear hf hb
        rw [hx] at hmul HV
        obtain ⟨hm1, hm2⟩ := hmul
        clear hadE hx
        go_enter Tryd.func47, Tryd.ntmps47
        go_wp2_with fail
        refine (HQ.out _ ((Below.refl _ _).alloc (Nat.le_refl _) _)).mono ?_
        rintro e9 w1 ⟨rfl, hb1⟩
        have hs1 := hb1.size
        simp at hs1
        have z1 : w.heap.size < w1.heap.size := by omega
        have c0 : w1.cell? ⟨w.heap.size, 0, none⟩ = some (.int .i64 s) := (hb1.cell (by simp)).trans (by simp)
        have c1 : w1.cell? ⟨w.heap.size, 1, none⟩ = some (.bool false) := (hb1.cell (by simp)).trans (by simp)
        have c2 : w1.cell? ⟨w.heap.size, 2, none⟩ = some (.bool false) := (hb1.cell (by simp)).trans (by simp)
        have hbel : Below w.heap.size w w1 := ((Below.refl _ _).alloc (Nat.le_refl _) _).trans (hb1.mono (by simp))
        clear hb1
        go_wp2_with fail
        refine (round_any (e * s) _ ⟨by omega, by omega⟩).mono ?_
        rintro e9 w2 ⟨rfl, rfl⟩
        go_wp2_with fail
        go_ret
        exact ⟨retI HV.out.symm, hbel⟩
theorem lean_any (c : Int) (w : World) : Calls Tryd.prog 68 #[.int .i64 c] w fun e w' => e = .returned (.bool (lean c)) ∧ w = w' := by
  obtain ⟨B, hB⟩ : ∃ B, B = lean c := ⟨_, rfl⟩
  rw [← hB]
  have HB := Lib.hid hB
  clear hB
  go_enter Tryd.func68, Tryd.ntmps68
  go_wp2_with fail
  all_goals
    go_ret
    have e1 := HB.out
    clear HB
    go_tidy
    simp only [lean, leanR, anyR, one, List.any_cons, List.any_nil, inR_one] at e1
    simp [*] at e1
    subst e1
    first | exact ⟨rfl, rfl⟩ | (refine ⟨retB ?_, rfl⟩; rw [Bool.eq_iff_iff]; simp [*]; done) | (refine ⟨retB ?_, rfl⟩; simp_all; done)
theorem pair_eq (a b : Int) : pair a b = if ((lean a && decide (b = 65)) || (decide (a = 65) && lean b)) = true then 70 else if ((lean a || decide (a = 80)) && (decide (b = 46) || decide (b = 44))) = true then 90 else 0 := by
  unfold pair
  simp
set_option maxHeartbeats 2000000 in
theorem pair_any (a b : Int) (w : World) : Calls Tryd.prog 60 #[.int .i64 a, .int .i64 b] w fun e w' => e = .returned (.int .i64 (pair a b)) ∧ w = w' := by
  have hp := pair_eq a b
  have ha := fun w => lean_any a w
  have hb := fun w => lean_any b w
  obtain ⟨V, hV⟩ : ∃ V, V = pair a b := ⟨_, rfl⟩
  obtain ⟨LA, hLA⟩ : ∃ LA, LA = lean a := ⟨_, rfl⟩
  obtain ⟨LB, hLB⟩ : ∃ LB, LB = lean b := ⟨_, rfl⟩
  rw [← hV, ← hLA, ← hLB] at hp
  rw [← hLA] at ha
  rw [← hLB] at hb
  rw [← hV]
  have HV := Lib.hid hp
  have HLA := Lib.hid ha
  have HLB := Lib.hid hb
  clear hp ha hb hV hLA hLB
  have hcase : a = 65 ∨ (a == 65) = false := by
    by_cases h : a = 65
    · exact .inl h
    · exact .inr (by simpa using h)
  rcases hcase with rfl | ha65
  all_goals cases LA <;> cases LB
  all_goals
    go_enter Tryd.func60, Tryd.ntmps60
    go_wp2_with (go_at_call 68; first | ((with_reducible refine (HLA.out _).mono ?_); rintro e w3 ⟨rfl, rfl⟩) | ((with_reducible refine (HLB.out _).mono ?_); rintro e w3 ⟨rfl, rfl⟩))
    all_goals
      go_ret
      have e1 := HV.out
      clear HV
      go_tidy
      simp [*] at e1
      subst e1
      first | exact ⟨rfl, rfl⟩ | (refine ⟨retI ?_, rfl⟩; simp [*]; done) | (refine ⟨retI ?_, rfl⟩; simp_all; done)
end Go.Proofs.YtnigebnibikolaaDoor.ME
