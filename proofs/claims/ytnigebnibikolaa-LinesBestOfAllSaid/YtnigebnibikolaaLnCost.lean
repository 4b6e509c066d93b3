

/-
  cost.
-/
import Derived.Test.YtnigebnibikolaaLnLine
namespace Go.Law.Ln
open Go.Law
theorem badF_bd (d c : Int) (hd : 0 ≤ d) (hc : 0 ≤ c) : 0 ≤ badF d c ∧ badF d c ≤ 10000 := by
  unfold badF
  split
  · omega
  · split
    · omega
    · have hq0 : 0 ≤ 1000 * d / c := Int.ediv_nonneg (by omega) hc
      have hq1 : 0 ≤ min (1000 * d / c) 5000 := by omega
      have := Int.ediv_nonneg (Int.mul_nonneg (Int.mul_nonneg hq1 hq1) hq1) (show (0 : Int) ≤ 10000000 by omega)
      omega
end Go.Law.Ln
namespace Go.Proofs.Ytnigebnibikolaa.LN
open Go.RowKit Go.Law Go.Law.Ln
set_option linter.unusedVariables false
set_option linter.unusedSimpArgs false
set_option maxRecDepth 100000
set_option maxHeartbeats 4000000 in
theorem cost_any (m n : Nat) (L : Nat → Part) (nw : Nat) (W : Nat → Int) (D : Int) (a z : Nat) (Nt S R Wd : Int) (w : World) (hm : Mk w m n L nw W D) (hn : n ≤ 8000) (hz : z ≤ n) (hok : ∀ i, i < n → (L i).Ok)
    (b1 : 0 ≤ Nt ∧ Nt ≤ 1000000000) (b2 : 0 ≤ S ∧ S ≤ 1000000000) (b3 : 0 ≤ R ∧ R ≤ 1000000000) (b4 : 1 ≤ Wd ∧ Wd ≤ 100000) :
    Calls Try.prog 64 #[.pointer (some ⟨m, 0, none⟩), lineV ⟨a, z, Nt, S, R, Wd⟩] w fun e w' => e = .returned (.int .i64 (costF n L ⟨a, z, Nt, S, R, Wd⟩)) ∧ Below w.heap.size w w' := by
  have hb0 := (Below.refl w.heap.size w).alloc (Nat.le_refl _) (Obj.cells #[.int .i64 a, .int .i64 z, .int .i64 Nt, .int .i64 S, .int .i64 R, .int .i64 Wd] 74)
  have HM0 := Lib.hid (hm.below (Nat.le_refl _) hb0)
  have B0 := Lib.hid (Blk.new w #[.int .i64 a, .int .i64 z, .int .i64 Nt, .int .i64 S, .int .i64 R, .int .i64 Wd] 74)
  have HCF := Lib.hid (show costF n L ⟨a, z, Nt, S, R, Wd⟩ = bareC n L ⟨a, z, Nt, S, R, Wd⟩ + penC n L z from rfl)
  rw [HCF.out]
  change Calls _ _ #[.pointer (some ⟨m, 0, none⟩), .agg #[.int .i64 a, .int .i64 z, .int .i64 Nt, .int .i64 S, .int .i64 R, .int .i64 Wd]] w _
  clear hm HCF
  by_cases c1 : Wd - Nt < -R
  · obtain ⟨N, hN⟩ : ∃ N, N = 1099511627776 + 1000 * (-(Wd - Nt) - R) := ⟨_, rfl⟩
    have HN := Lib.hid (show bareC n L ⟨a, z, Nt, S, R, Wd⟩ = N by unfold bareC; rw [if_pos c1, hN])
    have HNN := Lib.hid hN.symm
    have hNb : 0 ≤ N ∧ N ≤ 10000000000000 := by omega
    clear hN
    go_enter Try.func64, Try.ntmps64
    go_wp2_with fail
    rw [HNN.out]
    obtain ⟨wq, hwq⟩ : ∃ wq, wq = w.alloc (Obj.cells #[.int .i64 a, .int .i64 z, .int .i64 Nt, .int .i64 S, .int .i64 R, .int .i64 Wd] 74) := ⟨_, rfl⟩
    rw [← hwq] at HM0 B0 hb0 ⊢
    have HMq := HM0
    have HBq := B0
    have hbq := hb0
    clear HNN hwq HM0 B0 hb0 c1
    obtain ⟨aP, cP, aW, cW, gw, gg, gy, gb, ⟨m0, m1, m2, m3, m4, m5, m6⟩, mP, mW, mwd, mgr, myl, mbg⟩ := HMq.out
    have zm := lt_of_cell m0
    simp only at zm
    have l1 : wq.cell? ⟨w.heap.size, 1, none⟩ = some (.int .i64 z) := HBq.out.cell (i := 1) rfl
    have zl := HBq.out.lt
    clear m1 m2 m3 m4 m5 m6 mW mwd mgr myl mbg
    by_cases hzn : z = n
    · have HPN := Lib.hid (show penC n L z = 0 by unfold penC; rw [if_neg (by omega)])
      subst hzn
      clear mP
      go_quiet (fail)
      go_wp2_with fail
      go_ret
      exact ⟨by rw [HN.out, HPN.out, Int.add_zero]; rfl, below_drewN hbq _⟩
    · have hlt : z < n := by omega
      have hlz : (z : Int) < (n : Int) := by omega
      obtain ⟨b, off, rfl, hcell⟩ := mP (by omega)
      have d0 : wq.cell? ⟨b, off + z * 6 + 0, none⟩ = some ((L z).V 0) := hcell z (by omega) 0 (by omega)
      have d1 : wq.cell? ⟨b, off + z * 6 + 1, none⟩ = some ((L z).V 1) := hcell z (by omega) 1 (by omega)
      have d2 : wq.cell? ⟨b, off + z * 6 + 2, none⟩ = some ((L z).V 2) := hcell z (by omega) 2 (by omega)
      have d3 : wq.cell? ⟨b, off + z * 6 + 3, none⟩ = some ((L z).V 3) := hcell z (by omega) 3 (by omega)
      have d4 : wq.cell? ⟨b, off + z * 6 + 4, none⟩ = some ((L z).V 4) := hcell z (by omega) 4 (by omega)
      have d5 : wq.cell? ⟨b, off + z * 6 + 5, none⟩ = some ((L z).V 5) := hcell z (by omega) 5 (by omega)
      obtain ⟨p, hp⟩ : ∃ p, p = L z := ⟨_, rfl⟩
      rw [← hp] at d0 d1 d2 d3 d4 d5
      have HP := Lib.hid hp
      have zb := lt_of_cell d0
      simp only at zb
      clear hp
      obtain ⟨K, Wi, S, R, C, F⟩ := p
      simp only [Part.V] at d0 d1 d2 d3 d4 d5
      rw [Nat.add_zero] at d0
      have hco := (hok z hlt).cost
      rw [← HP.out] at hco
      simp only at hco
      have hc2 : 0 ≤ C * C ∧ C * C ≤ 100000000 := by
        rcases Int.le_total 0 C with h | h
        · exact ⟨Int.mul_nonneg h h, Int.mul_le_mul hco.2 hco.2 h (by omega)⟩
        · have e : C * C = (-C) * (-C) := by rw [Int.neg_mul_neg]
          rw [e]
          exact ⟨Int.mul_nonneg (by omega) (by omega), Int.le_trans (Int.mul_le_mul (c := 10000) (d := 10000) (by omega) (by omega) (by omega) (by omega)) (by omega)⟩
      clear hcell mP hok
      by_cases hk : K = 2
      · subst hk
        by_cases hc : C = -10000
        · have HPN := Lib.hid (show penC n L z = 0 by unfold penC; rw [if_neg (by rw [← HP.out]; exact fun h => h.2.2 hc)])
          subst hc
          go_quiet (fail)
          go_wp2_with fail
          go_ret
          exact ⟨by rw [HN.out, HPN.out, Int.add_zero]; rfl, below_drewN hbq _⟩
        · have hc' : (C != -10000) = true := by simpa using hc
          have HPN := Lib.hid (show penC n L z = if C < 0 then -(C * C) else C * C by unfold penC; rw [if_pos (by rw [← HP.out]; exact ⟨hlt, rfl, hc⟩), ← HP.out])
          go_quiet (fail)
          obtain ⟨wy, hwy⟩ : ∃ wy, wy = wq.drewN nq := ⟨_, rfl⟩
          rw [← hwy]
          have hby := below_drewN hbq nq
          have hcl := fun p => (below_drewN (Below.refl wq.heap.size wq) nq).cell (p := p)
          rw [← hwy] at hby hcl
          have d4' := (hcl ⟨b, off + z * 6 + 4, none⟩ zb).trans d4
          have m0' := (hcl ⟨m, 0, none⟩ zm).trans m0
          have l1' := (hcl ⟨w.heap.size, 1, none⟩ zl).trans l1
          have zb' : b < wy.heap.size := lt_of_cell d4'
          have zm' : m < wy.heap.size := lt_of_cell m0'
          have zl' : w.heap.size < wy.heap.size := lt_of_cell l1'
          clear hwy hcl d0 d1 d2 d3 d4 d5 m0 l1 zb zm zl
          go_wp2_with fail
          go_quiet (fail)
          by_cases hneg : C < 0
          · have HPN2 := Lib.hid (show penC n L z = -(C * C) by rw [HPN.out, if_pos hneg])
            go_wp2_with fail
            go_ret
            exact ⟨by rw [HN.out, HPN2.out]; first | rfl | (rw [← Int.sub_eq_add_neg]; rfl), below_drewN hby _⟩
          · have HPN2 := Lib.hid (show penC n L z = C * C by rw [HPN.out, if_neg hneg])
            go_wp2_with fail
            go_ret
            exact ⟨by rw [HN.out, HPN2.out]; rfl, below_drewN hby _⟩
      · have hk2 : (K == 2) = false := by simpa using hk
        have HPN := Lib.hid (show penC n L z = 0 by unfold penC; rw [if_neg (by rw [← HP.out]; exact fun h => hk h.2.1)])
        go_quiet (fail)
        go_wp2_with fail
        go_ret
        exact ⟨by rw [HN.out, HPN.out, Int.add_zero]; rfl, below_drewN hbq _⟩
  · have hbf := badF_bd
    by_cases c2 : Wd - Nt < 0
    · obtain ⟨q, hq⟩ : ∃ q, q = badF (-(Wd - Nt)) R := ⟨_, rfl⟩
      have hqb := hbf (-(Wd - Nt)) R (by omega) b3.1
      rw [← hq] at hqb
      obtain ⟨N, hN⟩ : ∃ N, N = (10 + q) * (10 + q) := ⟨_, rfl⟩
      have HN := Lib.hid (show bareC n L ⟨a, z, Nt, S, R, Wd⟩ = N by unfold bareC; rw [if_neg c1, if_pos c2, hN, hq])
      have hNb : 0 ≤ N ∧ N ≤ 10000000000000 := by rw [hN]; exact ⟨Int.mul_nonneg (by omega) (by omega), Int.le_trans (Int.mul_le_mul (c := 10010) (d := 10010) (by omega) (by omega) (by omega) (by omega)) (by omega)⟩
      have HNN := Lib.hid (show wrap64 ((10 + q) * (10 + q)) = N by rw [← hN, ← IntWalk.i64_left]; exact IntWalk.i64_in _ ⟨by omega, by omega⟩)
      have HQ := Lib.hid hq
      clear hN hq hbf
      go_enter Try.func64, Try.ntmps64
      go_wp2_with fail
      refine (badness_any _ _ _ ⟨by omega, by omega⟩ ⟨by omega, by omega⟩).mono ?_
      rintro e w1 ⟨rfl, rfl⟩
      rw [← HQ.out]
      go_wp2_with fail
      rw [HNN.out]
      obtain ⟨wq, hwq⟩ : ∃ wq, wq = (w.alloc (Obj.cells #[.int .i64 a, .int .i64 z, .int .i64 Nt, .int .i64 S, .int .i64 R, .int .i64 Wd] 74)) := ⟨_, rfl⟩
      rw [← hwq]
      have HMq := Lib.hid (show Mk wq m n L nw W D by rw [hwq]; first | exact HM0.out | exact HM0.out.below (Nat.le_refl _) (below_drewN (Below.refl _ _) _))
      have HBq := Lib.hid (show Blk wq w.heap.size #[.int .i64 a, .int .i64 z, .int .i64 Nt, .int .i64 S, .int .i64 R, .int .i64 Wd] 74 by rw [hwq]; first | exact B0.out | exact B0.out.drewN _)
      have hbq : Below w.heap.size w wq := by rw [hwq]; first | exact hb0 | exact below_drewN hb0 _
      clear hwq HM0 B0 hb0
      clear HNN c1 c2 HQ
      obtain ⟨aP, cP, aW, cW, gw, gg, gy, gb, ⟨m0, m1, m2, m3, m4, m5, m6⟩, mP, mW, mwd, mgr, myl, mbg⟩ := HMq.out
      have zm := lt_of_cell m0
      simp only at zm
      have l1 : wq.cell? ⟨w.heap.size, 1, none⟩ = some (.int .i64 z) := HBq.out.cell (i := 1) rfl
      have zl := HBq.out.lt
      clear m1 m2 m3 m4 m5 m6 mW mwd mgr myl mbg
      by_cases hzn : z = n
      · have HPN := Lib.hid (show penC n L z = 0 by unfold penC; rw [if_neg (by omega)])
        subst hzn
        clear mP
        go_quiet (fail)
        go_wp2_with fail
        go_ret
        exact ⟨by rw [HN.out, HPN.out, Int.add_zero]; rfl, below_drewN hbq _⟩
      · have hlt : z < n := by omega
        have hlz : (z : Int) < (n : Int) := by omega
        obtain ⟨b, off, rfl, hcell⟩ := mP (by omega)
        have d0 : wq.cell? ⟨b, off + z * 6 + 0, none⟩ = some ((L z).V 0) := hcell z (by omega) 0 (by omega)
        have d1 : wq.cell? ⟨b, off + z * 6 + 1, none⟩ = some ((L z).V 1) := hcell z (by omega) 1 (by omega)
        have d2 : wq.cell? ⟨b, off + z * 6 + 2, none⟩ = some ((L z).V 2) := hcell z (by omega) 2 (by omega)
        have d3 : wq.cell? ⟨b, off + z * 6 + 3, none⟩ = some ((L z).V 3) := hcell z (by omega) 3 (by omega)
        have d4 : wq.cell? ⟨b, off + z * 6 + 4, none⟩ = some ((L z).V 4) := hcell z (by omega) 4 (by omega)
        have d5 : wq.cell? ⟨b, off + z * 6 + 5, none⟩ = some ((L z).V 5) := hcell z (by omega) 5 (by omega)
        obtain ⟨p, hp⟩ : ∃ p, p = L z := ⟨_, rfl⟩
        rw [← hp] at d0 d1 d2 d3 d4 d5
        have HP := Lib.hid hp
        have zb := lt_of_cell d0
        simp only at zb
        clear hp
        obtain ⟨K, Wi, S, R, C, F⟩ := p
        simp only [Part.V] at d0 d1 d2 d3 d4 d5
        rw [Nat.add_zero] at d0
        have hco := (hok z hlt).cost
        rw [← HP.out] at hco
        simp only at hco
        have hc2 : 0 ≤ C * C ∧ C * C ≤ 100000000 := by
          rcases Int.le_total 0 C with h | h
          · exact ⟨Int.mul_nonneg h h, Int.mul_le_mul hco.2 hco.2 h (by omega)⟩
          · have e : C * C = (-C) * (-C) := by rw [Int.neg_mul_neg]
            rw [e]
            exact ⟨Int.mul_nonneg (by omega) (by omega), Int.le_trans (Int.mul_le_mul (c := 10000) (d := 10000) (by omega) (by omega) (by omega) (by omega)) (by omega)⟩
        clear hcell mP hok
        by_cases hk : K = 2
        · subst hk
          by_cases hc : C = -10000
          · have HPN := Lib.hid (show penC n L z = 0 by unfold penC; rw [if_neg (by rw [← HP.out]; exact fun h => h.2.2 hc)])
            subst hc
            go_quiet (fail)
            go_wp2_with fail
            go_ret
            exact ⟨by rw [HN.out, HPN.out, Int.add_zero]; rfl, below_drewN hbq _⟩
          · have hc' : (C != -10000) = true := by simpa using hc
            have HPN := Lib.hid (show penC n L z = if C < 0 then -(C * C) else C * C by unfold penC; rw [if_pos (by rw [← HP.out]; exact ⟨hlt, rfl, hc⟩), ← HP.out])
            go_quiet (fail)
            obtain ⟨wy, hwy⟩ : ∃ wy, wy = wq.drewN nq := ⟨_, rfl⟩
            rw [← hwy]
            have hby := below_drewN hbq nq
            have hcl := fun p => (below_drewN (Below.refl wq.heap.size wq) nq).cell (p := p)
            rw [← hwy] at hby hcl
            have d4' := (hcl ⟨b, off + z * 6 + 4, none⟩ zb).trans d4
            have m0' := (hcl ⟨m, 0, none⟩ zm).trans m0
            have l1' := (hcl ⟨w.heap.size, 1, none⟩ zl).trans l1
            have zb' : b < wy.heap.size := lt_of_cell d4'
            have zm' : m < wy.heap.size := lt_of_cell m0'
            have zl' : w.heap.size < wy.heap.size := lt_of_cell l1'
            clear hwy hcl d0 d1 d2 d3 d4 d5 m0 l1 zb zm zl
            go_wp2_with fail
            go_quiet (fail)
            by_cases hneg : C < 0
            · have HPN2 := Lib.hid (show penC n L z = -(C * C) by rw [HPN.out, if_pos hneg])
              go_wp2_with fail
              go_ret
              exact ⟨by rw [HN.out, HPN2.out]; first | rfl | (rw [← Int.sub_eq_add_neg]; rfl), below_drewN hby _⟩
            · have HPN2 := Lib.hid (show penC n L z = C * C by rw [HPN.out, if_neg hneg])
              go_wp2_with fail
              go_ret
              exact ⟨by rw [HN.out, HPN2.out]; rfl, below_drewN hby _⟩
        · have hk2 : (K == 2) = false := by simpa using hk
          have HPN := Lib.hid (show penC n L z = 0 by unfold penC; rw [if_neg (by rw [← HP.out]; exact fun h => hk h.2.1)])
          go_quiet (fail)
          go_wp2_with fail
          go_ret
          exact ⟨by rw [HN.out, HPN.out, Int.add_zero]; rfl, below_drewN hbq _⟩
    · have HMU := Lib.hid (fun w1 (h : Mk w1 m n L nw W D) => must_any m n L nw W D z w1 h hn hz)
      have HLA := Lib.hid (fun w1 (h : Mk w1 m n L nw W D) => last_any m n L nw W D z w1 h hn hz)
      have HBC := Lib.hid (show bareC n L ⟨a, z, Nt, S, R, Wd⟩ = if (mustB n L z || lastB n L z) = true then 100 else (10 + badF (Wd - Nt) S) * (10 + badF (Wd - Nt) S) by unfold bareC; rw [if_neg c1, if_neg c2])
      obtain ⟨q, hq⟩ : ∃ q, q = badF (Wd - Nt) S := ⟨_, rfl⟩
      have hqb := hbf (Wd - Nt) S (by omega) b2.1
      rw [← hq] at hqb HBC
      have HQ := Lib.hid hq
      clear hq hbf
      obtain ⟨bm, hbm⟩ : ∃ b, b = mustB n L z := ⟨_, rfl⟩
      obtain ⟨bl, hbl⟩ : ∃ b, b = lastB n L z := ⟨_, rfl⟩
      rw [← hbm] at HMU HBC
      rw [← hbl] at HLA HBC
      clear hbm hbl
      cases bm
      · cases bl
        · obtain ⟨N, hN⟩ : ∃ N, N = (10 + q) * (10 + q) := ⟨_, rfl⟩
          have HN := Lib.hid (show bareC n L ⟨a, z, Nt, S, R, Wd⟩ = N by rw [HBC.out, if_neg (by decide), hN])
          have hNb : 0 ≤ N ∧ N ≤ 10000000000000 := by rw [hN]; exact ⟨Int.mul_nonneg (by omega) (by omega), Int.le_trans (Int.mul_le_mul (c := 10010) (d := 10010) (by omega) (by omega) (by omega) (by omega)) (by omega)⟩
          have HNN := Lib.hid (show wrap64 ((10 + q) * (10 + q)) = N by rw [← hN, ← IntWalk.i64_left]; exact IntWalk.i64_in _ ⟨by omega, by omega⟩)
          clear hN HBC
          go_enter Try.func64, Try.ntmps64
          go_wp2_with fail
          refine (HMU.out _ HM0.out).mono ?_
          rintro e w1 ⟨rfl, rfl⟩
          go_wp2_with fail
          refine (HLA.out _ HM0.out).mono ?_
          rintro e w1 ⟨rfl, kk, rfl⟩
          go_wp2_with fail
          refine (badness_any _ _ _ ⟨by omega, by omega⟩ ⟨by omega, by omega⟩).mono ?_
          rintro e w1 ⟨rfl, rfl⟩
          rw [← HQ.out]
          go_wp2_with fail
          rw [HNN.out]
          obtain ⟨wq, hwq⟩ : ∃ wq, wq = ((w.alloc (Obj.cells #[.int .i64 a, .int .i64 z, .int .i64 Nt, .int .i64 S, .int .i64 R, .int .i64 Wd] 74)).drewN kk) := ⟨_, rfl⟩
          rw [← hwq]
          have HMq := Lib.hid (show Mk wq m n L nw W D by rw [hwq]; first | exact HM0.out | exact HM0.out.below (Nat.le_refl _) (below_drewN (Below.refl _ _) _))
          have HBq := Lib.hid (show Blk wq w.heap.size #[.int .i64 a, .int .i64 z, .int .i64 Nt, .int .i64 S, .int .i64 R, .int .i64 Wd] 74 by rw [hwq]; first | exact B0.out | exact B0.out.drewN _)
          have hbq : Below w.heap.size w wq := by rw [hwq]; first | exact hb0 | exact below_drewN hb0 _
          clear hwq HM0 B0 hb0
          clear HNN c1 c2 HQ
          obtain ⟨aP, cP, aW, cW, gw, gg, gy, gb, ⟨m0, m1, m2, m3, m4, m5, m6⟩, mP, mW, mwd, mgr, myl, mbg⟩ := HMq.out
          have zm := lt_of_cell m0
          simp only at zm
          have l1 : wq.cell? ⟨w.heap.size, 1, none⟩ = some (.int .i64 z) := HBq.out.cell (i := 1) rfl
          have zl := HBq.out.lt
          clear m1 m2 m3 m4 m5 m6 mW mwd mgr myl mbg
          by_cases hzn : z = n
          · have HPN := Lib.hid (show penC n L z = 0 by unfold penC; rw [if_neg (by omega)])
            subst hzn
            clear mP
            go_quiet (fail)
            go_wp2_with fail
            go_ret
            exact ⟨by rw [HN.out, HPN.out, Int.add_zero]; rfl, below_drewN hbq _⟩
          · have hlt : z < n := by omega
            have hlz : (z : Int) < (n : Int) := by omega
            obtain ⟨b, off, rfl, hcell⟩ := mP (by omega)
            have d0 : wq.cell? ⟨b, off + z * 6 + 0, none⟩ = some ((L z).V 0) := hcell z (by omega) 0 (by omega)
            have d1 : wq.cell? ⟨b, off + z * 6 + 1, none⟩ = some ((L z).V 1) := hcell z (by omega) 1 (by omega)
            have d2 : wq.cell? ⟨b, off + z * 6 + 2, none⟩ = some ((L z).V 2) := hcell z (by omega) 2 (by omega)
            have d3 : wq.cell? ⟨b, off + z * 6 + 3, none⟩ = some ((L z).V 3) := hcell z (by omega) 3 (by omega)
            have d4 : wq.cell? ⟨b, off + z * 6 + 4, none⟩ = some ((L z).V 4) := hcell z (by omega) 4 (by omega)
            have d5 : wq.cell? ⟨b, off + z * 6 + 5, none⟩ = some ((L z).V 5) := hcell z (by omega) 5 (by omega)
            obtain ⟨p, hp⟩ : ∃ p, p = L z := ⟨_, rfl⟩
            rw [← hp] at d0 d1 d2 d3 d4 d5
            have HP := Lib.hid hp
            have zb := lt_of_cell d0
            simp only at zb
            clear hp
            obtain ⟨K, Wi, S, R, C, F⟩ := p
            simp only [Part.V] at d0 d1 d2 d3 d4 d5
            rw [Nat.add_zero] at d0
            have hco := (hok z hlt).cost
            rw [← HP.out] at hco
            simp only at hco
            have hc2 : 0 ≤ C * C ∧ C * C ≤ 100000000 := by
              rcases Int.le_total 0 C with h | h
              · exact ⟨Int.mul_nonneg h h, Int.mul_le_mul hco.2 hco.2 h (by omega)⟩
              · have e : C * C = (-C) * (-C) := by rw [Int.neg_mul_neg]
                rw [e]
                exact ⟨Int.mul_nonneg (by omega) (by omega), Int.le_trans (Int.mul_le_mul (c := 10000) (d := 10000) (by omega) (by omega) (by omega) (by omega)) (by omega)⟩
            clear hcell mP hok
            by_cases hk : K = 2
            · subst hk
              by_cases hc : C = -10000
              · have HPN := Lib.hid (show penC n L z = 0 by unfold penC; rw [if_neg (by rw [← HP.out]; exact fun h => h.2.2 hc)])
                subst hc
                go_quiet (fail)
                go_wp2_with fail
                go_ret
                exact ⟨by rw [HN.out, HPN.out, Int.add_zero]; rfl, below_drewN hbq _⟩
              · have hc' : (C != -10000) = true := by simpa using hc
                have HPN := Lib.hid (show penC n L z = if C < 0 then -(C * C) else C * C by unfold penC; rw [if_pos (by rw [← HP.out]; exact ⟨hlt, rfl, hc⟩), ← HP.out])
                go_quiet (fail)
                obtain ⟨wy, hwy⟩ : ∃ wy, wy = wq.drewN nq := ⟨_, rfl⟩
                rw [← hwy]
                have hby := below_drewN hbq nq
                have hcl := fun p => (below_drewN (Below.refl wq.heap.size wq) nq).cell (p := p)
                rw [← hwy] at hby hcl
                have d4' := (hcl ⟨b, off + z * 6 + 4, none⟩ zb).trans d4
                have m0' := (hcl ⟨m, 0, none⟩ zm).trans m0
                have l1' := (hcl ⟨w.heap.size, 1, none⟩ zl).trans l1
                have zb' : b < wy.heap.size := lt_of_cell d4'
                have zm' : m < wy.heap.size := lt_of_cell m0'
                have zl' : w.heap.size < wy.heap.size := lt_of_cell l1'
                clear hwy hcl d0 d1 d2 d3 d4 d5 m0 l1 zb zm zl
                go_wp2_with fail
                go_quiet (fail)
                by_cases hneg : C < 0
                · have HPN2 := Lib.hid (show penC n L z = -(C * C) by rw [HPN.out, if_pos hneg])
                  go_wp2_with fail
                  go_ret
                  exact ⟨by rw [HN.out, HPN2.out]; first | rfl | (rw [← Int.sub_eq_add_neg]; rfl), below_drewN hby _⟩
                · have HPN2 := Lib.hid (show penC n L z = C * C by rw [HPN.out, if_neg hneg])
                  go_wp2_with fail
                  go_ret
                  exact ⟨by rw [HN.out, HPN2.out]; rfl, below_drewN hby _⟩
            · have hk2 : (K == 2) = false := by simpa using hk
              have HPN := Lib.hid (show penC n L z = 0 by unfold penC; rw [if_neg (by rw [← HP.out]; exact fun h => hk h.2.1)])
              go_quiet (fail)
              go_wp2_with fail
              go_ret
              exact ⟨by rw [HN.out, HPN.out, Int.add_zero]; rfl, below_drewN hbq _⟩
        · obtain ⟨N, hN⟩ : ∃ N : Int, N = 100 := ⟨_, rfl⟩
          have HN := Lib.hid (show bareC n L ⟨a, z, Nt, S, R, Wd⟩ = N by rw [HBC.out, if_pos (by decide), hN])
          have hNb : 0 ≤ N ∧ N ≤ 10000000000000 := by omega
          have HNN := Lib.hid hN.symm
          clear hN HBC
          go_enter Try.func64, Try.ntmps64
          go_wp2_with fail
          refine (HMU.out _ HM0.out).mono ?_
          rintro e w1 ⟨rfl, rfl⟩
          go_wp2_with fail
          refine (HLA.out _ HM0.out).mono ?_
          rintro e w1 ⟨rfl, kk, rfl⟩
          go_wp2_with fail
          rw [HNN.out]
          obtain ⟨wq, hwq⟩ : ∃ wq, wq = ((w.alloc (Obj.cells #[.int .i64 a, .int .i64 z, .int .i64 Nt, .int .i64 S, .int .i64 R, .int .i64 Wd] 74)).drewN kk) := ⟨_, rfl⟩
          rw [← hwq]
          have HMq := Lib.hid (show Mk wq m n L nw W D by rw [hwq]; first | exact HM0.out | exact HM0.out.below (Nat.le_refl _) (below_drewN (Below.refl _ _) _))
          have HBq := Lib.hid (show Blk wq w.heap.size #[.int .i64 a, .int .i64 z, .int .i64 Nt, .int .i64 S, .int .i64 R, .int .i64 Wd] 74 by rw [hwq]; first | exact B0.out | exact B0.out.drewN _)
          have hbq : Below w.heap.size w wq := by rw [hwq]; first | exact hb0 | exact below_drewN hb0 _
          clear hwq HM0 B0 hb0
          clear HNN c1 c2 HQ
          obtain ⟨aP, cP, aW, cW, gw, gg, gy, gb, ⟨m0, m1, m2, m3, m4, m5, m6⟩, mP, mW, mwd, mgr, myl, mbg⟩ := HMq.out
          have zm := lt_of_cell m0
          simp only at zm
          have l1 : wq.cell? ⟨w.heap.size, 1, none⟩ = some (.int .i64 z) := HBq.out.cell (i := 1) rfl
          have zl := HBq.out.lt
          clear m1 m2 m3 m4 m5 m6 mW mwd mgr myl mbg
          by_cases hzn : z = n
          · have HPN := Lib.hid (show penC n L z = 0 by unfold penC; rw [if_neg (by omega)])
            subst hzn
            clear mP
            go_quiet (fail)
            go_wp2_with fail
            go_ret
            exact ⟨by rw [HN.out, HPN.out, Int.add_zero]; rfl, below_drewN hbq _⟩
          · have hlt : z < n := by omega
            have hlz : (z : Int) < (n : Int) := by omega
            obtain ⟨b, off, rfl, hcell⟩ := mP (by omega)
            have d0 : wq.cell? ⟨b, off + z * 6 + 0, none⟩ = some ((L z).V 0) := hcell z (by omega) 0 (by omega)
            have d1 : wq.cell? ⟨b, off + z * 6 + 1, none⟩ = some ((L z).V 1) := hcell z (by omega) 1 (by omega)
            have d2 : wq.cell? ⟨b, off + z * 6 + 2, none⟩ = some ((L z).V 2) := hcell z (by omega) 2 (by omega)
            have d3 : wq.cell? ⟨b, off + z * 6 + 3, none⟩ = some ((L z).V 3) := hcell z (by omega) 3 (by omega)
            have d4 : wq.cell? ⟨b, off + z * 6 + 4, none⟩ = some ((L z).V 4) := hcell z (by omega) 4 (by omega)
            have d5 : wq.cell? ⟨b, off + z * 6 + 5, none⟩ = some ((L z).V 5) := hcell z (by omega) 5 (by omega)
            obtain ⟨p, hp⟩ : ∃ p, p = L z := ⟨_, rfl⟩
            rw [← hp] at d0 d1 d2 d3 d4 d5
            have HP := Lib.hid hp
            have zb := lt_of_cell d0
            simp only at zb
            clear hp
            obtain ⟨K, Wi, S, R, C, F⟩ := p
            simp only [Part.V] at d0 d1 d2 d3 d4 d5
            rw [Nat.add_zero] at d0
            have hco := (hok z hlt).cost
            rw [← HP.out] at hco
            simp only at hco
            have hc2 : 0 ≤ C * C ∧ C * C ≤ 100000000 := by
              rcases Int.le_total 0 C with h | h
              · exact ⟨Int.mul_nonneg h h, Int.mul_le_mul hco.2 hco.2 h (by omega)⟩
              · have e : C * C = (-C) * (-C) := by rw [Int.neg_mul_neg]
                rw [e]
                exact ⟨Int.mul_nonneg (by omega) (by omega), Int.le_trans (Int.mul_le_mul (c := 10000) (d := 10000) (by omega) (by omega) (by omega) (by omega)) (by omega)⟩
            clear hcell mP hok
            by_cases hk : K = 2
            · subst hk
              by_cases hc : C = -10000
              · have HPN := Lib.hid (show penC n L z = 0 by unfold penC; rw [if_neg (by rw [← HP.out]; exact fun h => h.2.2 hc)])
                subst hc
                go_quiet (fail)
                go_wp2_with fail
                go_ret
                exact ⟨by rw [HN.out, HPN.out, Int.add_zero]; rfl, below_drewN hbq _⟩
              · have hc' : (C != -10000) = true := by simpa using hc
                have HPN := Lib.hid (show penC n L z = if C < 0 then -(C * C) else C * C by unfold penC; rw [if_pos (by rw [← HP.out]; exact ⟨hlt, rfl, hc⟩), ← HP.out])
                go_quiet (fail)
                obtain ⟨wy, hwy⟩ : ∃ wy, wy = wq.drewN nq := ⟨_, rfl⟩
                rw [← hwy]
                have hby := below_drewN hbq nq
                have hcl := fun p => (below_drewN (Below.refl wq.heap.size wq) nq).cell (p := p)
                rw [← hwy] at hby hcl
                have d4' := (hcl ⟨b, off + z * 6 + 4, none⟩ zb).trans d4
                have m0' := (hcl ⟨m, 0, none⟩ zm).trans m0
                have l1' := (hcl ⟨w.heap.size, 1, none⟩ zl).trans l1
                have zb' : b < wy.heap.size := lt_of_cell d4'
                have zm' : m < wy.heap.size := lt_of_cell m0'
                have zl' : w.heap.size < wy.heap.size := lt_of_cell l1'
                clear hwy hcl d0 d1 d2 d3 d4 d5 m0 l1 zb zm zl
                go_wp2_with fail
                go_quiet (fail)
                by_cases hneg : C < 0
                · have HPN2 := Lib.hid (show penC n L z = -(C * C) by rw [HPN.out, if_pos hneg])
                  go_wp2_with fail
                  go_ret
                  exact ⟨by rw [HN.out, HPN2.out]; first | rfl | (rw [← Int.sub_eq_add_neg]; rfl), below_drewN hby _⟩
                · have HPN2 := Lib.hid (show penC n L z = C * C by rw [HPN.out, if_neg hneg])
                  go_wp2_with fail
                  go_ret
                  exact ⟨by rw [HN.out, HPN2.out]; rfl, below_drewN hby _⟩
            · have hk2 : (K == 2) = false := by simpa using hk
              have HPN := Lib.hid (show penC n L z = 0 by unfold penC; rw [if_neg (by rw [← HP.out]; exact fun h => hk h.2.1)])
              go_quiet (fail)
              go_wp2_with fail
              go_ret
              exact ⟨by rw [HN.out, HPN.out, Int.add_zero]; rfl, below_drewN hbq _⟩
      · obtain ⟨N, hN⟩ : ∃ N : Int, N = 100 := ⟨_, rfl⟩
        have HN := Lib.hid (show bareC n L ⟨a, z, Nt, S, R, Wd⟩ = N by rw [HBC.out, if_pos (by simp), hN])
        have hNb : 0 ≤ N ∧ N ≤ 10000000000000 := by omega
        have HNN := Lib.hid hN.symm
        clear hN HBC
        go_enter Try.func64, Try.ntmps64
        go_wp2_with fail
        refine (HMU.out _ HM0.out).mono ?_
        rintro e w1 ⟨rfl, rfl⟩
        go_wp2_with fail
        rw [HNN.out]
        obtain ⟨wq, hwq⟩ : ∃ wq, wq = (w.alloc (Obj.cells #[.int .i64 a, .int .i64 z, .int .i64 Nt, .int .i64 S, .int .i64 R, .int .i64 Wd] 74)) := ⟨_, rfl⟩
        rw [← hwq]
        have HMq := Lib.hid (show Mk wq m n L nw W D by rw [hwq]; first | exact HM0.out | exact HM0.out.below (Nat.le_refl _) (below_drewN (Below.refl _ _) _))
        have HBq := Lib.hid (show Blk wq w.heap.size #[.int .i64 a, .int .i64 z, .int .i64 Nt, .int .i64 S, .int .i64 R, .int .i64 Wd] 74 by rw [hwq]; first | exact B0.out | exact B0.out.drewN _)
        have hbq : Below w.heap.size w wq := by rw [hwq]; first | exact hb0 | exact below_drewN hb0 _
        clear hwq HM0 B0 hb0
        clear HNN c1 c2 HQ
        obtain ⟨aP, cP, aW, cW, gw, gg, gy, gb, ⟨m0, m1, m2, m3, m4, m5, m6⟩, mP, mW, mwd, mgr, myl, mbg⟩ := HMq.out
        have zm := lt_of_cell m0
        simp only at zm
        have l1 : wq.cell? ⟨w.heap.size, 1, none⟩ = some (.int .i64 z) := HBq.out.cell (i := 1) rfl
        have zl := HBq.out.lt
        clear m1 m2 m3 m4 m5 m6 mW mwd mgr myl mbg
        by_cases hzn : z = n
        · have HPN := Lib.hid (show penC n L z = 0 by unfold penC; rw [if_neg (by omega)])
          subst hzn
          clear mP
          go_quiet (fail)
          go_wp2_with fail
          go_ret
          exact ⟨by rw [HN.out, HPN.out, Int.add_zero]; rfl, below_drewN hbq _⟩
        · have hlt : z < n := by omega
          have hlz : (z : Int) < (n : Int) := by omega
          obtain ⟨b, off, rfl, hcell⟩ := mP (by omega)
          have d0 : wq.cell? ⟨b, off + z * 6 + 0, none⟩ = some ((L z).V 0) := hcell z (by omega) 0 (by omega)
          have d1 : wq.cell? ⟨b, off + z * 6 + 1, none⟩ = some ((L z).V 1) := hcell z (by omega) 1 (by omega)
          have d2 : wq.cell? ⟨b, off + z * 6 + 2, none⟩ = some ((L z).V 2) := hcell z (by omega) 2 (by omega)
          have d3 : wq.cell? ⟨b, off + z * 6 + 3, none⟩ = some ((L z).V 3) := hcell z (by omega) 3 (by omega)
          have d4 : wq.cell? ⟨b, off + z * 6 + 4, none⟩ = some ((L z).V 4) := hcell z (by omega) 4 (by omega)
          have d5 : wq.cell? ⟨b, off + z * 6 + 5, none⟩ = some ((L z).V 5) := hcell z (by omega) 5 (by omega)
          obtain ⟨p, hp⟩ : ∃ p, p = L z := ⟨_, rfl⟩
          rw [← hp] at d0 d1 d2 d3 d4 d5
          have HP := Lib.hid hp
          have zb := lt_of_cell d0
          simp only at zb
          clear hp
          obtain ⟨K, Wi, S, R, C, F⟩ := p
          simp only [Part.V] at d0 d1 d2 d3 d4 d5
          rw [Nat.add_zero] at d0
          have hco := (hok z hlt).cost
          rw [← HP.out] at hco
          simp only at hco
          have hc2 : 0 ≤ C * C ∧ C * C ≤ 100000000 := by
            rcases Int.le_total 0 C with h | h
            · exact ⟨Int.mul_nonneg h h, Int.mul_le_mul hco.2 hco.2 h (by omega)⟩
            · have e : C * C = (-C) * (-C) := by rw [Int.neg_mul_neg]
              rw [e]
              exact ⟨Int.mul_nonneg (by omega) (by omega), Int.le_trans (Int.mul_le_mul (c := 10000) (d := 10000) (by omega) (by omega) (by omega) (by omega)) (by omega)⟩
          clear hcell mP hok
          by_cases hk : K = 2
          · subst hk
            by_cases hc : C = -10000
            · have HPN := Lib.hid (show penC n L z = 0 by unfold penC; rw [if_neg (by rw [← HP.out]; exact fun h => h.2.2 hc)])
              subst hc
              go_quiet (fail)
              go_wp2_with fail
              go_ret
              exact ⟨by rw [HN.out, HPN.out, Int.add_zero]; rfl, below_drewN hbq _⟩
            · have hc' : (C != -10000) = true := by simpa using hc
              have HPN := Lib.hid (show penC n L z = if C < 0 then -(C * C) else C * C by unfold penC; rw [if_pos (by rw [← HP.out]; exact ⟨hlt, rfl, hc⟩), ← HP.out])
              go_quiet (fail)
              obtain ⟨wy, hwy⟩ : ∃ wy, wy = wq.drewN nq := ⟨_, rfl⟩
              rw [← hwy]
              have hby := below_drewN hbq nq
              have hcl := fun p => (below_drewN (Below.refl wq.heap.size wq) nq).cell (p := p)
              rw [← hwy] at hby hcl
              have d4' := (hcl ⟨b, off + z * 6 + 4, none⟩ zb).trans d4
              have m0' := (hcl ⟨m, 0, none⟩ zm).trans m0
              have l1' := (hcl ⟨w.heap.size, 1, none⟩ zl).trans l1
              have zb' : b < wy.heap.size := lt_of_cell d4'
              have zm' : m < wy.heap.size := lt_of_cell m0'
              have zl' : w.heap.size < wy.heap.size := lt_of_cell l1'
              clear hwy hcl d0 d1 d2 d3 d4 d5 m0 l1 zb zm zl
              go_wp2_with fail
              go_quiet (fail)
              by_cases hneg : C < 0
              · have HPN2 := Lib.hid (show penC n L z = -(C * C) by rw [HPN.out, if_pos hneg])
                go_wp2_with fail
                go_ret
                exact ⟨by rw [HN.out, HPN2.out]; first | rfl | (rw [← Int.sub_eq_add_neg]; rfl), below_drewN hby _⟩
              · have HPN2 := Lib.hid (show penC n L z = C * C by rw [HPN.out, if_neg hneg])
                go_wp2_with fail
                go_ret
                exact ⟨by rw [HN.out, HPN2.out]; rfl, below_drewN hby _⟩
          · have hk2 : (K == 2) = false := by simpa using hk
            have HPN := Lib.hid (show penC n L z = 0 by unfold penC; rw [if_neg (by rw [← HP.out]; exact fun h => hk h.2.1)])
            go_quiet (fail)
            go_wp2_with fail
            go_ret
            exact ⟨by rw [HN.out, HPN.out, Int.add_zero]; rfl, below_drewN hbq _⟩
end Go.Proofs.Ytnigebnibikolaa.LN
