
/-
  metric.kern, and the reference's Wide and Nearer.
-/
import Derived.Test.YtnigebnibikolaaDoorMeAdv
namespace Go.Proofs.YtnigebnibikolaaDoor.ME
open Go.RowKit Go.Law Go.Law.Me Ref
set_option linter.unusedVariables false
set_option linter.unusedSimpArgs false
set_option maxRecDepth 100000
set_option maxHeartbeats 2000000 in
theorem kern_any (a b : Int) (k : Look) (w : World) (hk : k.ok) :
    Calls Tryd.prog 48 #[.int .i64 a, .int .i64 b, lookV k] w fun e w' => e = .returned (.int .i64 (-nearer a b k)) ∧ Below w.heap.size w w' := by
  obtain ⟨s, bold, fixed⟩ := k
  unfold lookV Look.ok at *
  simp only at hk ⊢
  have hn := show nearer a b ⟨s, bold, fixed⟩ = if fixed = true then 0 else half (pair a b * s) from rfl
  obtain ⟨V, hV⟩ : ∃ V, V = nearer a b ⟨s, bold, fixed⟩ := ⟨_, rfl⟩
  rw [← hV] at hn ⊢
  have hpb := pair_bd a b
  have hm := mul_bd (e := pair a b) (by omega) hk
  have hp := fun w => pair_any a b w
  obtain ⟨P, hP⟩ : ∃ P, P = pair a b := ⟨_, rfl⟩
  rw [← hP] at hn hm hp hpb
  have HP := Lib.hid hp
  obtain ⟨hm1, hm2⟩ := hm
  clear hV hP hp
  cases fixed
  · have hq : half (P * s) = V := by rw [hn]; simp
    have hhb := half_bd (a := P * s) ⟨hm1, hm2⟩
    obtain ⟨hh1, hh2⟩ := hhb
    rw [hq] at hh1 hh2
    have hr := fun w => round_any (P * s) w ⟨by omega, by omega⟩
    rw [hq] at hr
    have HR := Lib.hid hr
    have w1 : IntKind.i64.wrap (P * s) = P * s := IntWalk.i64_in _ ⟨by omega, by omega⟩
    have w2 : IntKind.i64.wrap (-V) = -V := IntWalk.i64_in _ ⟨by omega, by omega⟩
    clear hn hq hr
    go_enter Tryd.func48, Tryd.ntmps48
    go_wp2_with fail
    go_quiet ((first | (go_at_call 60; exact quiet_call (HP.out _)) | (go_at_call 59; exact quiet_call (HR.out _))))
    clear w1 w2
    go_wp2_with fail
    go_ret
    exact ⟨rfl, below_drewN ((Below.refl _ _).alloc (Nat.le_refl _) _) _⟩
  · have hq : V = 0 := by rw [hn]; simp
    subst hq
    clear hn
    go_enter Tryd.func48, Tryd.ntmps48
    go_wp2_with fail
    go_ret
    exact ⟨rfl, (Below.refl _ _).alloc (Nat.le_refl _) _⟩
set_option maxHeartbeats 4000000 in
theorem wide_any (c : Int) (k : Look) (w : World) (hk : k.ok) :
    Calls Tryd.prog 24 #[.int .i64 c, lookV k] w fun e w' => e = .returned (.int .i64 (adv c k)) ∧ Below w.heap.size w w' := by
  obtain ⟨s, bold, fixed⟩ := k
  unfold lookV Look.ok at *
  simp only at hk ⊢
  have hE := em_bd c
  have hadv := show adv c ⟨s, bold, fixed⟩ = half (advE (emC c) bold fixed * s) from rfl
  obtain ⟨e, he⟩ : ∃ e, e = emC c := ⟨_, rfl⟩
  rw [← he] at hE hadv
  obtain ⟨V, hV⟩ : ∃ V, V = adv c ⟨s, bold, fixed⟩ := ⟨_, rfl⟩
  rw [← hV] at hadv ⊢
  have HV := Lib.hid hadv
  have HEM := Lib.hid he
  clear he hV hadv
  have hem := fun w1 => emRef_any c w1
  rw [← HEM.out] at hem
  have HQ := Lib.hid hem
  clear hem
  have hmul := mul_bd (advE_bd hE bold fixed) hk
  by_cases h0 : e = 0
  · have hadE : True := trivial
    have hx : advE e bold fixed = 0 := by rw [h0]; rfl
    subst h0
    obtain ⟨hk1, hk2⟩ := hk
    rw [hx] at hmul HV
    obtain ⟨hm1, hm2⟩ := hmul
    clear hadE hx
    go_enter Tryd.func24, Tryd.ntmps24
    go_wp2_with fail
    refine (HQ.out _).mono ?_
    rintro e9 w1 ⟨rfl, hb1⟩
    have hs1 := hb1.size
    simp at hs1
    have z1 : w.heap.size < w1.heap.size := by omega
    have c0 : w1.cell? ⟨w.heap.size, 0, none⟩ = some (.int .i64 s) := (hb1.cell (by simp)).trans (by simp)
    have c1 : w1.cell? ⟨w.heap.size, 1, none⟩ = some (.bool bold) := (hb1.cell (by simp)).trans (by simp)
    have c2 : w1.cell? ⟨w.heap.size, 2, none⟩ = some (.bool fixed) := (hb1.cell (by simp)).trans (by simp)
    have hbel : Below w.heap.size w w1 := ((Below.refl _ _).alloc (Nat.le_refl _) _).trans (hb1.mono (by simp))
    clear hb1
    go_wp2_with fail
    refine (half_any 0 _ ⟨by omega, by omega⟩).mono ?_
    rintro e9 w2 ⟨rfl, m, rfl⟩
    go_wp2_with fail
    go_ret
    exact ⟨retI (by rw [HV.out, Int.zero_mul]), below_drewN hbel _⟩
  · have h0' : 0 < e := by omega
    have hadE := show advE e bold fixed = if fixed = true then (if e = 1000 then 1200 else 600) else if bold = true then e + 40 else e by unfold advE; rw [if_neg h0]
    obtain ⟨hk1, hk2⟩ := hk
    obtain ⟨hE1, hE2⟩ := hE
    clear h0
    by_cases hf : fixed = true
    · by_cases h1 : e = 1000
      · have h1' : (e == 1000) = true := by simpa using h1
        have hx : advE e bold fixed = 1200 := by rw [hadE, if_pos hf, if_pos h1]
        subst hf
        clear h1
        rw [hx] at hmul HV
        obtain ⟨hm1, hm2⟩ := hmul
        clear hadE hx
        go_enter Tryd.func24, Tryd.ntmps24
        go_wp2_with fail
        refine (HQ.out _).mono ?_
        rintro e9 w1 ⟨rfl, hb1⟩
        have hs1 := hb1.size
        simp at hs1
        have z1 : w.heap.size < w1.heap.size := by omega
        have c0 : w1.cell? ⟨w.heap.size, 0, none⟩ = some (.int .i64 s) := (hb1.cell (by simp)).trans (by simp)
        have c1 : w1.cell? ⟨w.heap.size, 1, none⟩ = some (.bool bold) := (hb1.cell (by simp)).trans (by simp)
        have c2 : w1.cell? ⟨w.heap.size, 2, none⟩ = some (.bool true) := (hb1.cell (by simp)).trans (by simp)
        have hbel : Below w.heap.size w w1 := ((Below.refl _ _).alloc (Nat.le_refl _) _).trans (hb1.mono (by simp))
        clear hb1
        go_wp2_with fail
        refine (HQ.out _).mono ?_
        rintro e9 w2 ⟨rfl, hb2⟩
        have hs2 := hb2.size
        have y0 : w2.cell? ⟨w.heap.size, 0, none⟩ = some (.int .i64 s) := (hb2.cell (by exact z1)).trans c0
        have y1 : w2.cell? ⟨w.heap.size, 1, none⟩ = some (.bool bold) := (hb2.cell (by exact z1)).trans c1
        have y2 : w2.cell? ⟨w.heap.size, 2, none⟩ = some (.bool true) := (hb2.cell (by exact z1)).trans c2
        have hbel := hbel.trans (hb2.mono (by omega))
        clear hb2 c0 c1 c2
        go_wp2_with fail
        refine (half_any (1200 * s) _ ⟨by omega, by omega⟩).mono ?_
        rintro e9 w2 ⟨rfl, m, rfl⟩
        go_wp2_with fail
        go_ret
        exact ⟨retI HV.out.symm, below_drewN hbel _⟩
      · have h1' : (e == 1000) = false := by simpa using h1
        have hx : advE e bold fixed = 600 := by rw [hadE, if_pos hf, if_neg h1]
        subst hf
        clear h1
        rw [hx] at hmul HV
        obtain ⟨hm1, hm2⟩ := hmul
        clear hadE hx
        go_enter Tryd.func24, Tryd.ntmps24
        go_wp2_with fail
        refine (HQ.out _).mono ?_
        rintro e9 w1 ⟨rfl, hb1⟩
        have hs1 := hb1.size
        simp at hs1
        have z1 : w.heap.size < w1.heap.size := by omega
        have c0 : w1.cell? ⟨w.heap.size, 0, none⟩ = some (.int .i64 s) := (hb1.cell (by simp)).trans (by simp)
        have c1 : w1.cell? ⟨w.heap.size, 1, none⟩ = some (.bool bold) := (hb1.cell (by simp)).trans (by simp)
        have c2 : w1.cell? ⟨w.heap.size, 2, none⟩ = some (.bool true) := (hb1.cell (by simp)).trans (by simp)
        have hbel : Below w.heap.size w w1 := ((Below.refl _ _).alloc (Nat.le_refl _) _).trans (hb1.mono (by simp))
        clear hb1
        go_wp2_with fail
        refine (HQ.out _).mono ?_
        rintro e9 w2 ⟨rfl, hb2⟩
        have hs2 := hb2.size
        have y0 : w2.cell? ⟨w.heap.size, 0, none⟩ = some (.int .i64 s) := (hb2.cell (by exact z1)).trans c0
        have y1 : w2.cell? ⟨w.heap.size, 1, none⟩ = some (.bool bold) := (hb2.cell (by exact z1)).trans c1
        have y2 : w2.cell? ⟨w.heap.size, 2, none⟩ = some (.bool true) := (hb2.cell (by exact z1)).trans c2
        have hbel := hbel.trans (hb2.mono (by omega))
        clear hb2 c0 c1 c2
        go_wp2_with fail
        refine (half_any (600 * s) _ ⟨by omega, by omega⟩).mono ?_
        rintro e9 w2 ⟨rfl, m, rfl⟩
        go_wp2_with fail
        go_ret
        exact ⟨retI HV.out.symm, below_drewN hbel _⟩
    · have hf' : fixed = false := by simpa using hf
      by_cases hb : bold = true
      · have hx : advE e bold fixed = e + 40 := by rw [hadE, if_neg hf, if_pos hb]
        subst hf'
        subst hb
        clear hf
        rw [hx] at hmul HV
        obtain ⟨hm1, hm2⟩ := hmul
        clear hadE hx
        go_enter Tryd.func24, Tryd.ntmps24
        go_wp2_with fail
        refine (HQ.out _).mono ?_
        rintro e9 w1 ⟨rfl, hb1⟩
        have hs1 := hb1.size
        simp at hs1
        have z1 : w.heap.size < w1.heap.size := by omega
        have c0 : w1.cell? ⟨w.heap.size, 0, none⟩ = some (.int .i64 s) := (hb1.cell (by simp)).trans (by simp)
        have c1 : w1.cell? ⟨w.heap.size, 1, none⟩ = some (.bool true) := (hb1.cell (by simp)).trans (by simp)
        have c2 : w1.cell? ⟨w.heap.size, 2, none⟩ = some (.bool false) := (hb1.cell (by simp)).trans (by simp)
        have hbel : Below w.heap.size w w1 := ((Below.refl _ _).alloc (Nat.le_refl _) _).trans (hb1.mono (by simp))
        clear hb1
        go_wp2_with fail
        refine (half_any ((e + 40) * s) _ ⟨by omega, by omega⟩).mono ?_
        rintro e9 w2 ⟨rfl, m, rfl⟩
        go_wp2_with fail
        go_ret
        exact ⟨retI HV.out.symm, below_drewN hbel _⟩
      · have hx : advE e bold fixed = e := by rw [hadE, if_neg hf, if_neg hb]
        have hb' : bold = false := by simpa using hb
        subst hf'
        subst hb'
        clear hf hb
        rw [hx] at hmul HV
        obtain ⟨hm1, hm2⟩ := hmul
        clear hadE hx
        go_enter Tryd.func24, Tryd.ntmps24
        go_wp2_with fail
        refine (HQ.out _).mono ?_
        rintro e9 w1 ⟨rfl, hb1⟩
        have hs1 := hb1.size
        simp at hs1
        have z1 : w.heap.size < w1.heap.size := by omega
        have c0 : w1.cell? ⟨w.heap.size, 0, none⟩ = some (.int .i64 s) := (hb1.cell (by simp)).trans (by simp)
        have c1 : w1.cell? ⟨w.heap.size, 1, none⟩ = some (.bool false) := (hb1.cell (by simp)).trans (by simp)
        have c2 : w1.cell? ⟨w.heap.size, 2, none⟩ = some (.bool false) := (hb1.cell (by simp)).trans (by simp)
        have hbel : Below w.heap.size w w1 := ((Below.refl _ _).alloc (Nat.le_refl _) _).trans (hb1.mono (by simp))
        clear hb1
        go_wp2_with fail
        refine (half_any (e * s) _ ⟨by omega, by omega⟩).mono ?_
        rintro e9 w2 ⟨rfl, m, rfl⟩
        go_wp2_with fail
        go_ret
        exact ⟨retI HV.out.symm, below_drewN hbel _⟩
end Go.Proofs.YtnigebnibikolaaDoor.ME
