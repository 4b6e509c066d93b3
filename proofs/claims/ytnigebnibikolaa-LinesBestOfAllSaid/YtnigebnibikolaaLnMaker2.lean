

/-
  More methods of a maker of lines: may, badness, full, line.
-/
import Derived.Test.YtnigebnibikolaaLnMaker
import Derived.Test.YtnigebnibikolaaTakes
import Derived.StillTailTactics
namespace Go.Proofs.Ytnigebnibikolaa.LN
open Go.RowKit Go.Law Go.Law.Ln
set_option linter.unusedVariables false
set_option linter.unusedSimpArgs false
set_option maxRecDepth 100000
set_option maxHeartbeats 1000000 in
theorem may_any (m n : Nat) (L : Nat → Part) (nw : Nat) (W : Nat → Int) (D : Int) (i : Nat) (w : World) (hm : Mk w m n L nw W D) (hn : n ≤ 8000) (hi : i ≤ n) (hok : ∀ i, i < n → (L i).Ok) :
    Calls Try.prog 79 #[.pointer (some ⟨m, 0, none⟩), .int .i64 i] w fun e w' => e = .returned (.bool (mayB n L i)) ∧ Below w.heap.size w w' := by
  obtain ⟨aP, cP, aW, cW, gw, gg, gy, gb, ⟨m0, m1, m2, m3, m4, m5, m6⟩, mP, mW, mwd, mgr, myl, mbg⟩ := hm
  have zm := lt_of_cell m0
  simp only at zm
  by_cases hin : i = n
  · subst hin
    have HV := Lib.hid (mayB_end i L)
    clear mP mW mwd mgr myl mbg hok
    go_enter Try.func79, Try.ntmps79
    go_wp2_with fail
    go_ret
    refine ⟨by rw [HV.out]; rfl, ?_⟩
    first | exact Below.refl _ _ | exact (Below.refl _ _).alloc (Nat.le_refl _) _
  · have hlt : i < n := by omega
    have ne : ((i : Int) == (n : Int)) = false := by simp; omega
    have hkk := (hok i hlt).kind
    obtain ⟨b, off, rfl, hcell⟩ := mP (by omega)
    have d0 : w.cell? ⟨b, off + i * 6 + 0, none⟩ = some ((L i).V 0) := hcell i (by omega) 0 (by omega)
    have d1 : w.cell? ⟨b, off + i * 6 + 1, none⟩ = some ((L i).V 1) := hcell i (by omega) 1 (by omega)
    have d2 : w.cell? ⟨b, off + i * 6 + 2, none⟩ = some ((L i).V 2) := hcell i (by omega) 2 (by omega)
    have d3 : w.cell? ⟨b, off + i * 6 + 3, none⟩ = some ((L i).V 3) := hcell i (by omega) 3 (by omega)
    have d4 : w.cell? ⟨b, off + i * 6 + 4, none⟩ = some ((L i).V 4) := hcell i (by omega) 4 (by omega)
    have d5 : w.cell? ⟨b, off + i * 6 + 5, none⟩ = some ((L i).V 5) := hcell i (by omega) 5 (by omega)
    obtain ⟨p, hp⟩ : ∃ p, p = L i := ⟨_, rfl⟩
    rw [← hp] at d0 d1 d2 d3 d4 d5 hkk
    have HP := Lib.hid hp
    have zb := lt_of_cell d0
    simp only at zb
    clear hp hok
    obtain ⟨K, Wi, S, R, C, F⟩ := p
    simp only [Part.V] at d0 d1 d2 d3 d4 d5
    simp only at hkk
    rw [Nat.add_zero] at d0
    have hk3 : K = 0 ∨ K = 1 ∨ K = 2 := by omega
    clear hkk
    rcases hk3 with rfl | rfl | rfl
    · have HV := Lib.hid (show mayB n L i = false by unfold mayB; rw [← HP.out]; simp [hin])
      clear mP mW mwd mgr myl mbg hcell hin
      go_enter Try.func79, Try.ntmps79
      go_wp2_with fail
      go_ret
      refine ⟨by rw [HV.out]; rfl, ?_⟩
      first | exact Below.refl _ _ | exact (Below.refl _ _).alloc (Nat.le_refl _) _
    · rcases i with _ | i
      · have HV := Lib.hid (show mayB n L 0 = false by unfold mayB; rw [← HP.out]; simp [hin])
        have z0 : ((0 : Nat) : Int) = 0 := rfl
        rw [z0] at ne ⊢
        rw [Nat.zero_mul, Nat.add_zero] at d0 d1 d2 d3 d4 d5
        clear z0
        clear mP mW mwd mgr myl mbg hcell hin
        go_enter Try.func79, Try.ntmps79
        go_wp2_with fail
        go_ret
        refine ⟨by rw [HV.out]; rfl, ?_⟩
        first | exact Below.refl _ _ | exact (Below.refl _ _).alloc (Nat.le_refl _) _
      · have q0 : w.cell? ⟨b, off + i * 6 + 0, none⟩ = some ((L i).V 0) := hcell i (by omega) 0 (by omega)
        rw [Nat.add_zero] at q0
        simp only [Part.V] at q0
        obtain ⟨K2, hK2⟩ : ∃ k, k = (L i).kind := ⟨_, rfl⟩
        rw [← hK2] at q0
        have HV := Lib.hid (show mayB n L (i + 1) = decide (K2 = 0) by unfold mayB; rw [← HP.out]; simp [hin, hK2])
        have e1 : (((i + 1 : Nat) : Int) - 1) = (i : Int) := by omega
        have e2 : (0 : Int) < ((i + 1 : Nat) : Int) := by omega
        clear mP mW mwd mgr myl mbg hcell hin hK2
        by_cases hz : K2 = 0
        · subst hz
          go_enter Try.func79, Try.ntmps79
          go_wp2_with fail
          go_ret
          refine ⟨by rw [HV.out]; rfl, ?_⟩
          first | exact Below.refl _ _ | exact (Below.refl _ _).alloc (Nat.le_refl _) _
        · have hz2 : (K2 == 0) = false := by simpa using hz
          have HV2 := Lib.hid (show mayB n L (i + 1) = false by rw [HV.out]; simpa using hz)
          clear HV
          have HV := HV2
          clear HV2
          go_enter Try.func79, Try.ntmps79
          go_wp2_with fail
          go_ret
          refine ⟨by rw [HV.out]; rfl, ?_⟩
          first | exact Below.refl _ _ | exact (Below.refl _ _).alloc (Nat.le_refl _) _
    · have HV := Lib.hid (show mayB n L i = decide (C < 10000) by unfold mayB; rw [← HP.out]; simp [hin])
      clear mP mW mwd mgr myl mbg hcell hin
      go_enter Try.func79, Try.ntmps79
      go_wp2_with fail
      go_ret
      refine ⟨by rw [HV.out]; rfl, ?_⟩
      first | exact Below.refl _ _ | exact (Below.refl _ _).alloc (Nat.le_refl _) _
theorem badness_any (d c : Int) (w : World) (hd : 0 ≤ d ∧ d ≤ 1000000000000) (hc : 0 ≤ c ∧ c ≤ 1000000000000) :
    Calls Try.prog 83 #[.int .i64 d, .int .i64 c] w fun e w' => e = .returned (.int .i64 (badF d c)) ∧ w = w' := by
  by_cases h1 : d = 0
  · have HV := Lib.hid (show badF d c = 0 by unfold badF; rw [if_pos h1])
    subst h1
    go_enter Try.func83, Try.ntmps83
    go_wp2_with fail
    go_ret
    exact ⟨by rw [HV.out]; rfl, rfl⟩
  by_cases h2 : c = 0
  · have HV := Lib.hid (show badF d c = 10000 by unfold badF; rw [if_neg h1, if_pos h2])
    subst h2
    have h1' : (d == 0) = false := by simpa using h1
    go_enter Try.func83, Try.ntmps83
    go_wp2_with fail
    go_ret
    exact ⟨by rw [HV.out]; rfl, rfl⟩
  · obtain ⟨q, hq⟩ : ∃ q, q = min (1000 * d / c) 5000 := ⟨_, rfl⟩
    have hq0 : 0 ≤ 1000 * d / c := Int.ediv_nonneg (by omega) hc.1
    have hq1 : 0 ≤ q ∧ q ≤ 5000 := by omega
    have q2 : 0 ≤ q * q ∧ q * q ≤ 25000000 := ⟨Int.mul_nonneg hq1.1 hq1.1, Int.mul_le_mul hq1.2 hq1.2 hq1.1 (by omega)⟩
    have q3 : 0 ≤ q * q * q ∧ q * q * q ≤ 125000000000 := ⟨Int.mul_nonneg q2.1 hq1.1, Int.mul_le_mul q2.2 hq1.2 hq1.1 (by omega)⟩
    have HV := Lib.hid (show badF d c = min (q * q * q / 10000000) 10000 by unfold badF; rw [if_neg h1, if_neg h2, hq])
    have h1' : (d == 0) = false := by simpa using h1
    have h2' : (c == 0) = false := by simpa using h2
    have e1 : (1000 * d).tdiv c = 1000 * d / c := Int.tdiv_eq_ediv_of_nonneg (by omega)
    obtain ⟨r, hr⟩ : ∃ r, r = 1000 * d / c := ⟨_, rfl⟩
    have hr1 : r ≤ 1000000000000000 := by rw [hr]; exact Int.le_trans (Int.ediv_le_self _ (by omega)) (by omega)
    rw [← hr] at e1 hq hq0
    have e2 : (if 5000 < r then 5000 else r) = q := by rw [hq]; split <;> omega
    have e3 : IntKind.i64.wrap r = r := IntWalk.i64_in _ ⟨by omega, by omega⟩
    obtain ⟨t, ht⟩ : ∃ t, t = q * q * q := ⟨_, rfl⟩
    have e5 : (if 10000 < t / 10000000 then 10000 else t / 10000000) = min (t / 10000000) 10000 := by split <;> omega
    have e6 : t.tdiv 10000000 = t / 10000000 := Int.tdiv_eq_ediv_of_nonneg (by rw [ht]; exact q3.1)
    have e7 : wrap64 (wrap64 (q * q) * q) = t := by rw [ht, ← IntWalk.i64_left, ← IntWalk.i64_left, IntWalk.i64_in (q * q) ⟨by omega, by omega⟩]; exact IntWalk.i64_in _ ⟨by omega, by omega⟩
    rw [← ht] at HV q3
    clear hq ht hr h1 q2
    go_enter Try.func83, Try.ntmps83
    go_wp2_with fail
    go_ret

    exact ⟨by rw [HV.out]; rfl, rfl⟩
theorem full_any (x : Line) (ad : Int) (w : World) (h1 : 0 ≤ x.nat ∧ x.nat ≤ 1000000000) (h2 : 0 ≤ x.shr ∧ x.shr ≤ 1000000000) (h3 : 0 ≤ ad ∧ ad ≤ 1000000000) :
    Calls Try.prog 81 #[.agg #[.int .i64 x.a, .int .i64 x.z, .int .i64 x.nat, .int .i64 x.str, .int .i64 x.shr, .int .i64 x.wid], .int .i64 ad] w fun e w' => e = .returned (.tuple #[.bool (fullB x), .bool (bareB x ad)]) ∧ Below w.heap.size w w' := by
  obtain ⟨a, z, N, S, R, Wd⟩ := x
  simp only at h1 h2
  have HV := Lib.hid (show fullB ⟨a, z, N, S, R, Wd⟩ = decide (Wd < N - R) from rfl)
  have HV2 := Lib.hid (show bareB ⟨a, z, N, S, R, Wd⟩ ad = decide (Wd < N - ad - R) from rfl)
  have f1 : IntKind.i64.wrap (N - R) = N - R := IntWalk.i64_in _ ⟨by omega, by omega⟩
  have f2 : IntKind.i64.wrap (N - ad) = N - ad := IntWalk.i64_in _ ⟨by omega, by omega⟩
  have f3 : IntKind.i64.wrap (N - ad - R) = N - ad - R := IntWalk.i64_in _ ⟨by omega, by omega⟩
  have hb0 := (Below.refl w.heap.size w).alloc (Nat.le_refl _) (Obj.cells #[.int .i64 a, .int .i64 z, .int .i64 N, .int .i64 S, .int .i64 R, .int .i64 Wd] 74)
  go_enter Try.func81, Try.ntmps81
  go_wp2_with fail
  go_quiet (fail)
  go_wp2_with fail
  go_ret2
  refine ⟨by rw [HV.out, HV2.out]; rfl, below_drewN hb0 _⟩
end Go.Proofs.Ytnigebnibikolaa.LN
