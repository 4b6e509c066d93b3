

/-
  The reference's LineCost.
-/
import Derived.Test.YtnigebnibikolaaLnOne
import Derived.Test.YtnigebnibikolaaLnCost
import Derived.Deep.CutRange
import Derived.Deep.CutBlock
namespace Go.Proofs.Ytnigebnibikolaa.LN
open Go.RowKit Go.Law Go.Law.Ln
set_option linter.unusedVariables false
set_option linter.unusedSimpArgs false
set_option maxRecDepth 100000
/-- the boxes of a shape and of a line -/
structure LcS (w : World) (a z : Nat) (Nt St Rs Wd : Int) (aW : Option Addr) (nw cW : Nat) (D : Int) (wr : World) : Prop where
  below : Below w.heap.size w wr
  shape : Blk wr w.heap.size #[.slice aW nw cW, .int .i64 D] 60
  line : Blk wr (w.heap.size + 1) #[.int .i64 a, .int .i64 z, .int .i64 Nt, .int .i64 St, .int .i64 Rs, .int .i64 Wd] 74
theorem LcS.under {w : World} {a z : Nat} {Nt St Rs Wd : Int} {aW : Option Addr} {nw cW : Nat} {D : Int} {wr w' : World} (h : LcS w a z Nt St Rs Wd aW nw cW D wr) (hb : Below wr.heap.size wr w') : LcS w a z Nt St Rs Wd aW nw cW D w' :=
  ⟨h.below.trans (hb.mono h.below.size), h.shape.below hb h.shape.lt, h.line.below hb h.line.lt⟩
theorem LcS.start (w : World) (a z : Nat) (Nt St Rs Wd : Int) (aW : Option Addr) (nw cW : Nat) (D : Int) :
    LcS w a z Nt St Rs Wd aW nw cW D ((w.alloc (Obj.cells #[.slice aW nw cW, .int .i64 D] 60)).alloc (Obj.cells #[.int .i64 a, .int .i64 z, .int .i64 Nt, .int .i64 St, .int .i64 Rs, .int .i64 Wd] 74)) := by
  have h1 := Blk.new w #[.slice aW nw cW, .int .i64 D] 60
  have h2 := Blk.new (w.alloc (Obj.cells #[.slice aW nw cW, .int .i64 D] 60)) #[.int .i64 a, .int .i64 z, .int .i64 Nt, .int .i64 St, .int .i64 Rs, .int .i64 Wd] 74
  simp only [World.size_alloc] at h2
  exact ⟨((Below.refl _ _).alloc (Nat.le_refl _) _).alloc (by simp) _, h1.alloc _, h2⟩
set_option maxHeartbeats 4000000 in
theorem lineCost_any (n : Nat) (L : Nat → Part) (nw : Nat) (W : Nat → Int) (D : Int) (aP aW : Option Addr) (cP cW a z : Nat) (Nt St Rs Wd : Int) (behind : Bool) (w : World) (mP : CellsF w aP n 6 (fun i => (L i).V)) (hn : n ≤ 8000) (hz : z ≤ n) (hok : ∀ i, i < n → (L i).Ok) (hD : 0 ≤ D ∧ D ≤ 1000000)
    (b1 : 0 ≤ Nt ∧ Nt ≤ 1000000000) (b2 : 0 ≤ St ∧ St ≤ 1000000000) (b3 : 0 ≤ Rs ∧ Rs ≤ 1000000000) (b4 : 1 ≤ Wd ∧ Wd ≤ 100000) :
    Calls Try.prog 66 #[.slice aP n cP, .agg #[.slice aW nw cW, .int .i64 D], lineV ⟨a, z, Nt, St, Rs, Wd⟩, .bool behind] w fun e w' => e = .returned (.int .i64 (costF n L ⟨a, z, Nt, St, Rs, Wd⟩ + dblF n L D behind z)) ∧ Below w.heap.size w w' := by
  change Calls _ _ #[.slice aP n cP, .agg #[.slice aW nw cW, .int .i64 D], .agg #[.int .i64 a, .int .i64 z, .int .i64 Nt, .int .i64 St, .int .i64 Rs, .int .i64 Wd], .bool behind] w _
  have HP := Lib.hid mP
  obtain ⟨V, hV⟩ : ∃ V, V = costF n L ⟨a, z, Nt, St, Rs, Wd⟩ + dblF n L D behind z := ⟨_, rfl⟩
  rw [← hV]
  obtain ⟨N, hN⟩ : ∃ N, N = bareC n L ⟨a, z, Nt, St, Rs, Wd⟩ := ⟨_, rfl⟩
  have HV := Lib.hid (show V = N + penC n L z + dblF n L D behind z by rw [hV, hN]; rfl)
  have HN := Lib.hid hN
  have HOK := Lib.hid hok
  have hst := LcS.start w a z Nt St Rs Wd aW nw cW D
  clear hV mP hN hok
  go_enter Try.func66, Try.ntmps66
  go_upto_block 0 with (fail)
  obtain ⟨wr, hwr⟩ : ∃ wr, wr = (w.alloc (Obj.cells #[.slice aW nw cW, .int .i64 D] 60)).alloc (Obj.cells #[.int .i64 a, .int .i64 z, .int .i64 Nt, .int .i64 St, .int .i64 Rs, .int .i64 Wd] 74) := ⟨_, rfl⟩
  rw [← hwr] at hst ⊢
  have HS := Lib.hid hst
  clear hst hwr
  go_cut [10] from 17 to 70 (fun nv wx => nv = .int .i64 N ∧ (0 ≤ N ∧ N ≤ 10000000000000) ∧ LcS w a z Nt St Rs Wd aW nw cW D wx)
  case first =>
    have x1 : wr.cell? ⟨w.heap.size + 1, 1, none⟩ = some (.int .i64 z) := (HS.out).line.cell (i := 1) rfl
    have x2 : wr.cell? ⟨w.heap.size + 1, 2, none⟩ = some (.int .i64 Nt) := (HS.out).line.cell (i := 2) rfl
    have x3 : wr.cell? ⟨w.heap.size + 1, 3, none⟩ = some (.int .i64 St) := (HS.out).line.cell (i := 3) rfl
    have x4 : wr.cell? ⟨w.heap.size + 1, 4, none⟩ = some (.int .i64 Rs) := (HS.out).line.cell (i := 4) rfl
    have x5 : wr.cell? ⟨w.heap.size + 1, 5, none⟩ = some (.int .i64 Wd) := (HS.out).line.cell (i := 5) rfl
    have q1 : wr.cell? ⟨w.heap.size, 1, none⟩ = some (.int .i64 D) := (HS.out).shape.cell (i := 1) rfl
    have zx := (HS.out).line.lt
    have zq := (HS.out).shape.lt
    by_cases c1 : Wd - Nt < -Rs
    · have e0 : Rs < -(Wd - Nt) := by omega
      obtain ⟨M, hM⟩ : ∃ M, M = 1099511627776 + 1000 * (-(Wd - Nt) - Rs) := ⟨_, rfl⟩
      have HE := Lib.hid (show N = M by rw [HN.out]; unfold bareC; rw [if_pos c1, hM])
      have hNb : 0 ≤ N ∧ N ≤ 10000000000000 := by rw [HE.out]; omega
      have HM := Lib.hid hM
      clear c1 hM
      go_wp2_with fail
      go_meet
      exact ⟨by rw [HE.out, HM.out], hNb, HS.out⟩
    · have e0 : ¬ Rs < -(Wd - Nt) := by omega
      by_cases c2 : Wd - Nt < 0
      · obtain ⟨q, hq⟩ : ∃ q, q = badF (-(Wd - Nt)) Rs := ⟨_, rfl⟩
        have hqb := badF_bd (-(Wd - Nt)) Rs (by omega) (by omega)
        rw [← hq] at hqb
        have HQ := Lib.hid (fun kq => show Calls Try.prog 85 #[.int .i64 (-(Wd - Nt)), .int .i64 Rs] (wr.drewN kq) fun e w' => e = .returned (.int .i64 q) ∧ wr.drewN kq = w' by rw [hq]; exact bad_any (-(Wd - Nt)) Rs _ ⟨by omega, by omega⟩ ⟨by omega, by omega⟩)
        obtain ⟨M, hM⟩ : ∃ M, M = (10 + q) * (10 + q) := ⟨_, rfl⟩
        have hMb : 0 ≤ M ∧ M ≤ 10000000000000 := by rw [hM]; exact ⟨Int.mul_nonneg (by omega) (by omega), Int.le_trans (Int.mul_le_mul (c := 10010) (d := 10010) (by omega) (by omega) (by omega) (by omega)) (by omega)⟩
        have f1 : IntKind.i64.wrap (10 + q) = 10 + q := IntWalk.i64_in _ ⟨by omega, by omega⟩
        have f2 : IntKind.i64.wrap ((10 + q) * (10 + q)) = M := by rw [← hM]; exact IntWalk.i64_in _ ⟨by omega, by omega⟩
        have HE := Lib.hid (show N = M by rw [HN.out]; unfold bareC; rw [if_neg c1, if_pos c2, hM, hq])
        have hNb : 0 ≤ N ∧ N ≤ 10000000000000 := by rw [HE.out]; omega
        clear c1 hM hq hqb
        go_wp2_with fail
        go_quiet ((go_at_call 85; exact quiet_call (HQ.out _)))
        go_wp2_with fail
        go_meet
        exact ⟨by rw [HE.out], hNb, HS.out.under (below_drewN (Below.refl _ _) _)⟩
      · have mP := HP.out.below (Nat.le_refl _) HS.out.below
        have hstop := Lib.hid (stop_any n L aP cP z wr mP hn hz)
        have hfol := Lib.hid (follow_any n L aP cP z wr mP hn hz)
        have HBC := Lib.hid (show N = if (mustB n L z || lastB n L z) = true then 100 else (10 + badF (Wd - Nt) St) * (10 + badF (Wd - Nt) St) by rw [HN.out]; unfold bareC; rw [if_neg c1, if_neg c2])
        obtain ⟨bm, hbm⟩ : ∃ b, b = mustB n L z := ⟨_, rfl⟩
        rw [← hbm] at hstop HBC
        obtain ⟨af, haf⟩ : ∃ y, y = aftF n L z := ⟨_, rfl⟩
        obtain ⟨bl, hbl⟩ : ∃ b, b = lastB n L z := ⟨_, rfl⟩
        have hafn : ((af : Int) == (n : Int)) = bl := by rw [hbl, haf]; unfold lastB; rw [Bool.eq_iff_iff]; simp; omega
        rw [← haf] at hfol
        rw [← hbl] at HBC
        clear hbm haf hbl mP c1
        cases bm
        · cases bl
          · obtain ⟨q, hq⟩ : ∃ q, q = badF (Wd - Nt) St := ⟨_, rfl⟩
            have hqb := badF_bd (Wd - Nt) St (by omega) (by omega)
            rw [← hq] at hqb
            have HQ := Lib.hid (fun kq => show Calls Try.prog 85 #[.int .i64 (Wd - Nt), .int .i64 St] (wr.drewN kq) fun e w' => e = .returned (.int .i64 q) ∧ wr.drewN kq = w' by rw [hq]; exact bad_any (Wd - Nt) St _ ⟨by omega, by omega⟩ ⟨by omega, by omega⟩)
            obtain ⟨M, hM⟩ : ∃ M, M = (10 + q) * (10 + q) := ⟨_, rfl⟩
            have hMb : 0 ≤ M ∧ M ≤ 10000000000000 := by rw [hM]; exact ⟨Int.mul_nonneg (by omega) (by omega), Int.le_trans (Int.mul_le_mul (c := 10010) (d := 10010) (by omega) (by omega) (by omega) (by omega)) (by omega)⟩
            have f1 : IntKind.i64.wrap (10 + q) = 10 + q := IntWalk.i64_in _ ⟨by omega, by omega⟩
            have f2 : IntKind.i64.wrap ((10 + q) * (10 + q)) = M := by rw [← hM]; exact IntWalk.i64_in _ ⟨by omega, by omega⟩
            have HE := Lib.hid (show N = M by rw [HBC.out, if_neg (by decide), hM, hq])
            have hNb : 0 ≤ N ∧ N ≤ 10000000000000 := by rw [HE.out]; omega
            clear hM hq hqb HBC
            go_wp2_with fail
            refine (hstop.out).mono ?_
            rintro e w1 ⟨rfl, rfl⟩
            go_wp2_with fail
            refine (hfol.out).mono ?_
            rintro e w1 ⟨rfl, rfl⟩
            go_wp2_with fail
            go_quiet ((go_at_call 85; exact quiet_call (HQ.out _)))
            go_wp2_with fail
            go_meet
            exact ⟨by rw [HE.out], hNb, HS.out.under (below_drewN (Below.refl _ _) _)⟩
          · have HE := Lib.hid (show N = 100 by rw [HBC.out, if_pos (by decide)])
            have hNb : 0 ≤ N ∧ N ≤ 10000000000000 := by rw [HE.out]; omega
            clear HBC
            go_wp2_with fail
            refine (hstop.out).mono ?_
            rintro e w1 ⟨rfl, rfl⟩
            go_wp2_with fail
            refine (hfol.out).mono ?_
            rintro e w1 ⟨rfl, rfl⟩
            go_wp2_with fail
            go_meet
            exact ⟨by rw [HE.out], hNb, HS.out⟩
        · have HE := Lib.hid (show N = 100 by rw [HBC.out, if_pos (by simp)])
          have hNb : 0 ≤ N ∧ N ≤ 10000000000000 := by rw [HE.out]; omega
          clear HBC hafn
          go_wp2_with fail
          refine (hstop.out).mono ?_
          rintro e w1 ⟨rfl, rfl⟩
          go_wp2_with fail
          go_meet
          exact ⟨by rw [HE.out], hNb, HS.out⟩
  case rest =>
  obtain ⟨rfl, hNb, hS⟩ := hcut
  have HS2 := Lib.hid hS
  clear hS HS HN
  have x1 : wc.cell? ⟨w.heap.size + 1, 1, none⟩ = some (.int .i64 z) := (HS2.out).line.cell (i := 1) rfl
  have x2 : wc.cell? ⟨w.heap.size + 1, 2, none⟩ = some (.int .i64 Nt) := (HS2.out).line.cell (i := 2) rfl
  have x3 : wc.cell? ⟨w.heap.size + 1, 3, none⟩ = some (.int .i64 St) := (HS2.out).line.cell (i := 3) rfl
  have x4 : wc.cell? ⟨w.heap.size + 1, 4, none⟩ = some (.int .i64 Rs) := (HS2.out).line.cell (i := 4) rfl
  have x5 : wc.cell? ⟨w.heap.size + 1, 5, none⟩ = some (.int .i64 Wd) := (HS2.out).line.cell (i := 5) rfl
  have q1 : wc.cell? ⟨w.heap.size, 1, none⟩ = some (.int .i64 D) := (HS2.out).shape.cell (i := 1) rfl
  have zx := (HS2.out).line.lt
  have zq := (HS2.out).shape.lt
  have hbel := HS2.out.below
  by_cases hzn : z = n
  · have HE := Lib.hid (show V = N by rw [HV.out]; unfold penC dblF flgB; rw [if_neg (by omega), if_neg (by simp; omega)]; omega)
    obtain rfl : z = n := hzn
    clear HV
    go_wp2_with fail
    go_ret
    refine ⟨by rw [HE.out]; rfl, ?_⟩
    repeat' (with_reducible first | exact Below.refl _ _ | assumption | refine Below.setCell ?_ ?_ _ | refine Below.alloc ?_ ?_ _ | refine below_drewN ?_ _ | refine Below.drew ?_)
    all_goals first | omega | (simp; done) | (simp; omega)
  · have hlt : z < n := by omega
    have ne : ((z : Int) == (n : Int)) = false := by simp; omega
    have hco := (HOK.out z hlt).cost
    have mP := HP.out.below (Nat.le_refl _) hbel
    obtain ⟨pp, hpp⟩ : ∃ pp, pp = penC n L z := ⟨_, rfl⟩
    have HPP := Lib.hid (show pp = if (L z).kind = 2 ∧ (L z).cost ≠ -10000 then (if (L z).cost < 0 then -((L z).cost * (L z).cost) else (L z).cost * (L z).cost) else 0 by rw [hpp]; unfold penC; simp only [hlt, true_and])
    have HDD := Lib.hid (show V = N + pp + (if (behind && (L z).flag) = true then D else 0) by rw [HV.out, hpp]; unfold dblF flgB; simp only [hlt, decide_true, Bool.true_and])
    obtain ⟨b, off, rfl, hcell⟩ := mP (by omega)
    have d0 : wc.cell? ⟨b, off + z * 6 + 0, none⟩ = some ((L z).V 0) := hcell z (by omega) 0 (by omega)
    have d1 : wc.cell? ⟨b, off + z * 6 + 1, none⟩ = some ((L z).V 1) := hcell z (by omega) 1 (by omega)
    have d2 : wc.cell? ⟨b, off + z * 6 + 2, none⟩ = some ((L z).V 2) := hcell z (by omega) 2 (by omega)
    have d3 : wc.cell? ⟨b, off + z * 6 + 3, none⟩ = some ((L z).V 3) := hcell z (by omega) 3 (by omega)
    have d4 : wc.cell? ⟨b, off + z * 6 + 4, none⟩ = some ((L z).V 4) := hcell z (by omega) 4 (by omega)
    have d5 : wc.cell? ⟨b, off + z * 6 + 5, none⟩ = some ((L z).V 5) := hcell z (by omega) 5 (by omega)
    obtain ⟨p, hp⟩ : ∃ p, p = L z := ⟨_, rfl⟩
    rw [← hp] at d0 d1 d2 d3 d4 d5
    have HP := Lib.hid hp
    have zb := lt_of_cell d0
    simp only at zb
    clear hp
    obtain ⟨K, Wi, S, R, C, F⟩ := p
    simp only [Part.V] at d0 d1 d2 d3 d4 d5
    rw [Nat.add_zero] at d0
    rw [← HP.out] at hco HPP HDD
    simp only at hco HPP HDD
    have hcc : 0 ≤ C * C ∧ C * C ≤ 100000000 := by
      rcases Int.le_total 0 C with h | h
      · exact ⟨Int.mul_nonneg h h, Int.mul_le_mul hco.2 hco.2 h (by omega)⟩
      · have e : C * C = (-C) * (-C) := by rw [Int.neg_mul_neg]
        rw [e]
        exact ⟨Int.mul_nonneg (by omega) (by omega), Int.le_trans (Int.mul_le_mul (c := 10000) (d := 10000) (by omega) (by omega) (by omega) (by omega)) (by omega)⟩
    clear hzn mP hcell hpp HV HOK
    by_cases hk : K = 2
    · subst hk
      by_cases hc : C = -10000
      · subst hc
        have HE := Lib.hid (show pp = 0 by rw [HPP.out, if_neg (by simp)])
        clear HPP
        cases behind
        · have HEE := Lib.hid (show V = N + (0) by rw [HDD.out, HE.out]; simp)
          clear HDD HE
          go_wp2_with fail
          go_ret
          refine ⟨by rw [HEE.out]; first | rfl | (rw [Int.add_zero]; rfl) | (rw [← Int.sub_eq_add_neg]; rfl), ?_⟩
          repeat' (with_reducible first | exact Below.refl _ _ | assumption | refine Below.setCell ?_ ?_ _ | refine Below.alloc ?_ ?_ _ | refine below_drewN ?_ _ | refine Below.drew ?_)
          all_goals first | omega | (simp; done) | (simp; omega)
        · cases F
          · have HEE := Lib.hid (show V = N + (0) by rw [HDD.out, HE.out]; simp)
            clear HDD HE
            go_wp2_with fail
            go_ret
            refine ⟨by rw [HEE.out]; first | rfl | (rw [Int.add_zero]; rfl) | (rw [← Int.sub_eq_add_neg]; rfl), ?_⟩
            repeat' (with_reducible first | exact Below.refl _ _ | assumption | refine Below.setCell ?_ ?_ _ | refine Below.alloc ?_ ?_ _ | refine below_drewN ?_ _ | refine Below.drew ?_)
            all_goals first | omega | (simp; done) | (simp; omega)
          · have HEE := Lib.hid (show V = N + (0) + D by rw [HDD.out, HE.out]; simp)
            clear HDD HE
            go_wp2_with fail
            go_ret
            refine ⟨by rw [HEE.out]; first | rfl | (rw [Int.add_zero]; rfl) | (rw [← Int.sub_eq_add_neg]; rfl), ?_⟩
            repeat' (with_reducible first | exact Below.refl _ _ | assumption | refine Below.setCell ?_ ?_ _ | refine Below.alloc ?_ ?_ _ | refine below_drewN ?_ _ | refine Below.drew ?_)
            all_goals first | omega | (simp; done) | (simp; omega)
      · have hgt : -10000 < C := by omega
        by_cases hneg : C < 0
        · have HE := Lib.hid (show pp = -(C * C) by rw [HPP.out, if_pos ⟨rfl, hc⟩, if_pos hneg])
          clear hc HPP
          cases behind
          · have HEE := Lib.hid (show V = N + (-(C * C)) by rw [HDD.out, HE.out]; simp)
            clear HDD HE
            go_wp2_with fail
            go_ret
            refine ⟨by rw [HEE.out]; first | rfl | (rw [Int.add_zero]; rfl) | (rw [← Int.sub_eq_add_neg]; rfl), ?_⟩
            repeat' (with_reducible first | exact Below.refl _ _ | assumption | refine Below.setCell ?_ ?_ _ | refine Below.alloc ?_ ?_ _ | refine below_drewN ?_ _ | refine Below.drew ?_)
            all_goals first | omega | (simp; done) | (simp; omega)
          · cases F
            · have HEE := Lib.hid (show V = N + (-(C * C)) by rw [HDD.out, HE.out]; simp)
              clear HDD HE
              go_wp2_with fail
              go_ret
              refine ⟨by rw [HEE.out]; first | rfl | (rw [Int.add_zero]; rfl) | (rw [← Int.sub_eq_add_neg]; rfl), ?_⟩
              repeat' (with_reducible first | exact Below.refl _ _ | assumption | refine Below.setCell ?_ ?_ _ | refine Below.alloc ?_ ?_ _ | refine below_drewN ?_ _ | refine Below.drew ?_)
              all_goals first | omega | (simp; done) | (simp; omega)
            · have HEE := Lib.hid (show V = N + (-(C * C)) + D by rw [HDD.out, HE.out]; simp)
              clear HDD HE
              go_wp2_with fail
              go_ret
              refine ⟨by rw [HEE.out]; first | rfl | (rw [Int.add_zero]; rfl) | (rw [← Int.sub_eq_add_neg]; rfl), ?_⟩
              repeat' (with_reducible first | exact Below.refl _ _ | assumption | refine Below.setCell ?_ ?_ _ | refine Below.alloc ?_ ?_ _ | refine below_drewN ?_ _ | refine Below.drew ?_)
              all_goals first | omega | (simp; done) | (simp; omega)
        · have HE := Lib.hid (show pp = C * C by rw [HPP.out, if_pos ⟨rfl, hc⟩, if_neg hneg])
          clear hc HPP
          cases behind
          · have HEE := Lib.hid (show V = N + (C * C) by rw [HDD.out, HE.out]; simp)
            clear HDD HE
            go_wp2_with fail
            go_ret
            refine ⟨by rw [HEE.out]; first | rfl | (rw [Int.add_zero]; rfl) | (rw [← Int.sub_eq_add_neg]; rfl), ?_⟩
            repeat' (with_reducible first | exact Below.refl _ _ | assumption | refine Below.setCell ?_ ?_ _ | refine Below.alloc ?_ ?_ _ | refine below_drewN ?_ _ | refine Below.drew ?_)
            all_goals first | omega | (simp; done) | (simp; omega)
          · cases F
            · have HEE := Lib.hid (show V = N + (C * C) by rw [HDD.out, HE.out]; simp)
              clear HDD HE
              go_wp2_with fail
              go_ret
              refine ⟨by rw [HEE.out]; first | rfl | (rw [Int.add_zero]; rfl) | (rw [← Int.sub_eq_add_neg]; rfl), ?_⟩
              repeat' (with_reducible first | exact Below.refl _ _ | assumption | refine Below.setCell ?_ ?_ _ | refine Below.alloc ?_ ?_ _ | refine below_drewN ?_ _ | refine Below.drew ?_)
              all_goals first | omega | (simp; done) | (simp; omega)
            · have HEE := Lib.hid (show V = N + (C * C) + D by rw [HDD.out, HE.out]; simp)
              clear HDD HE
              go_wp2_with fail
              go_ret
              refine ⟨by rw [HEE.out]; first | rfl | (rw [Int.add_zero]; rfl) | (rw [← Int.sub_eq_add_neg]; rfl), ?_⟩
              repeat' (with_reducible first | exact Below.refl _ _ | assumption | refine Below.setCell ?_ ?_ _ | refine Below.alloc ?_ ?_ _ | refine below_drewN ?_ _ | refine Below.drew ?_)
              all_goals first | omega | (simp; done) | (simp; omega)
    · have hk2 : (K == 2) = false := by simpa using hk
      have HE := Lib.hid (show pp = 0 by rw [HPP.out, if_neg (fun h => hk h.1)])
      clear hk HPP
      cases behind
      · have HEE := Lib.hid (show V = N + (0) by rw [HDD.out, HE.out]; simp)
        clear HDD HE
        go_wp2_with fail
        go_ret
        refine ⟨by rw [HEE.out]; first | rfl | (rw [Int.add_zero]; rfl) | (rw [← Int.sub_eq_add_neg]; rfl), ?_⟩
        repeat' (with_reducible first | exact Below.refl _ _ | assumption | refine Below.setCell ?_ ?_ _ | refine Below.alloc ?_ ?_ _ | refine below_drewN ?_ _ | refine Below.drew ?_)
        all_goals first | omega | (simp; done) | (simp; omega)
      · cases F
        · have HEE := Lib.hid (show V = N + (0) by rw [HDD.out, HE.out]; simp)
          clear HDD HE
          go_wp2_with fail
          go_ret
          refine ⟨by rw [HEE.out]; first | rfl | (rw [Int.add_zero]; rfl) | (rw [← Int.sub_eq_add_neg]; rfl), ?_⟩
          repeat' (with_reducible first | exact Below.refl _ _ | assumption | refine Below.setCell ?_ ?_ _ | refine Below.alloc ?_ ?_ _ | refine below_drewN ?_ _ | refine Below.drew ?_)
          all_goals first | omega | (simp; done) | (simp; omega)
        · have HEE := Lib.hid (show V = N + (0) + D by rw [HDD.out, HE.out]; simp)
          clear HDD HE
          go_wp2_with fail
          go_ret
          refine ⟨by rw [HEE.out]; first | rfl | (rw [Int.add_zero]; rfl) | (rw [← Int.sub_eq_add_neg]; rfl), ?_⟩
          repeat' (with_reducible first | exact Below.refl _ _ | assumption | refine Below.setCell ?_ ?_ _ | refine Below.alloc ?_ ?_ _ | refine below_drewN ?_ _ | refine Below.drew ?_)
          all_goals first | omega | (simp; done) | (simp; omega)
end Go.Proofs.Ytnigebnibikolaa.LN
