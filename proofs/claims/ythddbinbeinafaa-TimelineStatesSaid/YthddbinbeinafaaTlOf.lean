

/-
  stateOf: the reference's state of one item.
-/
import Derived.Test.YthddbinbeinafaaTlStateP
import Derived.Test.YthddbinbeinafaaTlSmall
import Derived.StillTailTactics
import Derived.Deep.CutRange
import Derived.Deep.CutBlock
import Derived.BigQuiet
namespace Go.Proofs.Ythddbinbeinafaa.TL
open Go.RowKit Go.Law Go.Law.Tl Ref
set_option linter.unusedVariables false
set_option linter.unusedSimpArgs false
set_option maxRecDepth 100000
abbrev staB (item s x y : Int) : Array Value := #[.int .i64 item, .int .i64 s, .int .i64 x, .int .i64 y]
theorem prod_bd {x p : Int} (hx : -1048576 ≤ x ∧ x ≤ 1048576) (hp : 0 ≤ p ∧ p ≤ 1000) : (-1048576000 ≤ x * p ∧ x * p ≤ 1048576000) ∧ (-1048576 ≤ (x * p).tdiv 1000 ∧ (x * p).tdiv 1000 ≤ 1048576) := by
  have a1 : x * p ≤ 1048576000 := by
    have h1 := Int.mul_le_mul_of_nonneg_right hx.2 hp.1
    have h2 := Int.mul_le_mul_of_nonneg_left hp.2 (show (0 : Int) ≤ 1048576 by omega)
    omega
  have a2 : -1048576000 ≤ x * p := by
    have h1 := Int.mul_le_mul_of_nonneg_right hx.1 hp.1
    have h2 := Int.mul_le_mul_of_nonneg_left hp.2 (show (0 : Int) ≤ 1048576 by omega)
    omega
  obtain ⟨q, hq⟩ : ∃ q, q = x * p := ⟨_, rfl⟩
  rw [← hq] at a1 a2 ⊢
  refine ⟨⟨a2, a1⟩, ?_⟩
  rcases Int.lt_or_le q 0 with h0 | h0
  · have e : q.tdiv 1000 = -((-q).tdiv 1000) := by rw [Int.neg_tdiv]; omega
    rw [e, Int.tdiv_eq_ediv_of_nonneg (by omega)]
    omega
  · rw [Int.tdiv_eq_ediv_of_nonneg h0]; omega
set_option maxHeartbeats 8000000 in
theorem stateOf_any (n : Nat) (L : Nat → Eff) (a ta : Option Addr) (c tc : Nat) (item click at' : Int) (w : World) (ha : CellsF w a n 7 (fun i => (L i).V)) (ht : CellsF w ta n 3 (fun i j => .int .i64 (TF L (i * 3 + j)))) (hn : n ≤ 200) (hok : ∀ i, i < n → (L i).Ok) (hck : 0 ≤ click ∧ click ≤ 200) (hat : 0 ≤ at' ∧ at' ≤ 10000000) :
    Calls Try.prog 10 #[.slice a n c, .slice ta n tc, .int .i64 item, .int .i64 click, .int .i64 at'] w fun e w' => e = .returned (.agg #[.int .i64 item, .int .i64 (seenF (staF L click at' item n)), .int .i64 (staF L click at' item n).x, .int .i64 (staF L click at' item n).y]) ∧ Below w.heap.size w w' := by
  have HA := Lib.hid ha
  have HT := Lib.hid ht
  have HOK := Lib.hid hok
  have hmax : ∀ x y : Int, (if x < y then y else x) = max x y := fun x y => by omega
  have hmin : ∀ x y : Int, (if y < x then y else x) = min x y := fun x y => by omega
  clear ha ht hok
  go_enter Try.func10, Try.ntmps10
  go_wp2_with fail
  obtain ⟨w0, hw0⟩ : ∃ w0, w0 = (w.alloc (Obj.cells #[.int .i64 0, .int .i64 0, .int .i64 0, .int .i64 0] 33)).alloc (Obj.cells (staB item (-1) 0 0) 33) := ⟨_, rfl⟩
  have hq1 : Blk w0 w.heap.size #[.int .i64 0, .int .i64 0, .int .i64 0, .int .i64 0] 33 := by rw [hw0]; exact (Blk.new _ _ _).alloc _
  have hq2 : Blk w0 (w.heap.size + 1) (staB item (-1) 0 0) 33 := by
    have h := Blk.new (w.alloc (Obj.cells #[.int .i64 0, .int .i64 0, .int .i64 0, .int .i64 0] 33)) (staB item (-1) 0 0) 33
    rw [World.size_alloc] at h
    rw [hw0]; exact h
  have hb0 : Below w.heap.size w w0 := by rw [hw0]; exact ((Below.refl _ _).alloc (Nat.le_refl _) _).alloc (by simp) _
  rw [← hw0]
  obtain ⟨q, hq⟩ : ∃ q, q = w.heap.size := ⟨_, rfl⟩
  obtain ⟨o, ho⟩ : ∃ o, o = w.heap.size + 1 := ⟨_, rfl⟩
  rw [← ho] at hq2 ⊢
  rw [← hq] at hq1 ⊢
  have hqa : w.heap.size ≤ q := by omega
  have hoa : w.heap.size < o := by omega
  have hne1 : ¬ q = o := by omega
  have hne2 : ¬ o = q := by omega
  have H0 := Lib.hid (And.intro hb0 (And.intro hq1 hq2))
  clear hw0 ho hq hb0 hq1 hq2
  go_loopw [12, 13, 14, 19] (fun jv xv pv iv wr => ∃ i : Nat, iv = .int .i64 i ∧ i ≤ n ∧ Below w.heap.size w wr ∧ Blk wr q #[.int .i64 0, .int .i64 0, .int .i64 0, .int .i64 0] 33 ∧ Blk wr o (staB item (staF L click at' item i).seen (staF L click at' item i).x (staF L click at' item i).y) 33) (fun _ _ _ iv _ => n - (intOf iv).toNat)
  case atStart => exact ⟨0, rfl, by omega, H0.out.1, H0.out.2.1, H0.out.2.2⟩
  case round =>
    obtain ⟨i, rfl, hi, hb, hq1, hq2⟩ := hrel
    have HB := Lib.hid hb
    have HQ := Lib.hid hq1
    have HO := Lib.hid hq2
    clear hb hq1 hq2 H0
    by_cases hin : i < n
    · have hok := HOK.out i hin
      have htb := tm_bd HOK.out hn hin
      have hsb := sta_bd (click := click) (at' := at') HOK.out hn item (i := i) (by omega)
      have hkd := hok.kind
      have hx1 := hok.x
      have hy1 := hok.y
      obtain ⟨b, off, rfl, hcell⟩ := HA.out.below (Nat.le_refl _) HB.out (by omega)
      have d0 : wr.cell? ⟨b, off + i * 7 + 0, none⟩ = some ((L i).V 0) := hcell i (by omega) 0 (by omega)
      have d1 : wr.cell? ⟨b, off + i * 7 + 1, none⟩ = some ((L i).V 1) := hcell i (by omega) 1 (by omega)
      have d2 : wr.cell? ⟨b, off + i * 7 + 2, none⟩ = some ((L i).V 2) := hcell i (by omega) 2 (by omega)
      have d3 : wr.cell? ⟨b, off + i * 7 + 3, none⟩ = some ((L i).V 3) := hcell i (by omega) 3 (by omega)
      have d4 : wr.cell? ⟨b, off + i * 7 + 4, none⟩ = some ((L i).V 4) := hcell i (by omega) 4 (by omega)
      have d5 : wr.cell? ⟨b, off + i * 7 + 5, none⟩ = some ((L i).V 5) := hcell i (by omega) 5 (by omega)
      have d6 : wr.cell? ⟨b, off + i * 7 + 6, none⟩ = some ((L i).V 6) := hcell i (by omega) 6 (by omega)
      have zb := lt_of_cell d0
      simp only at zb
      clear hcell
      obtain ⟨p, hp⟩ : ∃ p, p = L i := ⟨_, rfl⟩
      rw [← hp] at d0 d1 d2 d3 d4 d5 d6 hkd hx1 hy1
      have HP := Lib.hid hp
      clear hp hok
      obtain ⟨I, KI, S, D, T, X, Y⟩ := p
      simp only [Eff.V] at d0 d1 d2 d3 d4 d5 d6
      simp only at hkd hx1 hy1
      rw [Nat.add_zero] at d0
      have HIT := Lib.hid (show (L i).item = I by rw [← HP.out])
      go_upto_region 5 with fail
      obtain ⟨wz, hwz⟩ : ∃ wz, wz = wr.alloc (Obj.cells #[.int .i64 I, .int .i64 KI, .int .i64 S, .int .i64 D, .int .i64 T, .int .i64 X, .int .i64 Y] 36) := ⟨_, rfl⟩
      have qz : Blk wz wr.heap.size #[.int .i64 I, .int .i64 KI, .int .i64 S, .int .i64 D, .int .i64 T, .int .i64 X, .int .i64 Y] 36 := by rw [hwz]; exact Blk.new _ _ _
      have hbz : Below wr.heap.size wr wz := by rw [hwz]; exact (Below.refl _ _).alloc (Nat.le_refl _) _
      have HB2 := Lib.hid (HB.out.trans (hbz.mono HB.out.size))
      have HQ2 := Lib.hid (HQ.out.below hbz HQ.out.lt)
      have HO2 := Lib.hid (HO.out.below hbz HO.out.lt)
      have hzq : q < wr.heap.size := HQ.out.lt
      have hzo : o < wr.heap.size := HO.out.lt
      rw [← hwz]
      obtain ⟨z, hz⟩ : ∃ z, z = wr.heap.size := ⟨_, rfl⟩
      rw [← hz] at qz hzq hzo ⊢
      have hzn1 : ¬ z = q := by omega
      have hzn2 : ¬ q = z := by omega
      have hzn3 : ¬ z = o := by omega
      have hzn4 : ¬ o = z := by omega
      have HZ2 := Lib.hid qz
      clear hwz hz d0 d1 d2 d3 d4 d5 d6 zb qz hbz HB HQ HO
      have x0 : wz.cell? ⟨z, 0, none⟩ = some (.int .i64 I) := HZ2.out.cell (i := 0) rfl
      have x1 : wz.cell? ⟨z, 1, none⟩ = some (.int .i64 KI) := HZ2.out.cell (i := 1) rfl
      by_cases hit : I = item
      · subst hit
        obtain ⟨ST, hST⟩ : ∃ S, S = staF L click at' I i := ⟨_, rfl⟩
        rw [← hST] at HO2 hsb
        have HST := Lib.hid hST
        clear hST
        obtain ⟨s, sx, sy⟩ := ST
        simp only at HO2 hsb
        obtain ⟨S1, hS1⟩ : ∃ S1, S1 = if KI ≠ 2 ∧ s < 0 then 1000 * KI else s := ⟨_, rfl⟩
        have hs1b : -1 ≤ S1 ∧ S1 ≤ 1000 := by rw [hS1]; split <;> omega
        have HS1 := Lib.hid hS1
        clear hS1
        have y1 : wz.cell? ⟨o, 1, none⟩ = some (.int .i64 s) := HO2.out.cell (i := 1) rfl
        have yf1 : wz.frozen? ⟨o, 1, none⟩ = false := HO2.out.frozen 1
        obtain ⟨tb, htb1⟩ : ∃ tb, tb = decide (KI ≠ 2 ∧ s < 0) := ⟨_, rfl⟩
        have HTB := Lib.hid htb1
        clear htb1
        go_upto_region 6 with fail
        go_cut [12, 35] from 20 to 40 (fun jv tv wx => jv = .int .i64 i ∧ tv = .bool tb ∧ wx = wz)
        case first =>
          by_cases hk2 : KI = 2
          · have H := Lib.hid (show tb = false by rw [HTB.out]; exact decide_eq_false (by omega))
            go_wp2_with fail
            go_meet
            exact ⟨rfl, by rw [H.out], rfl⟩
          · by_cases hs : s < 0
            · have H := Lib.hid (show tb = true by rw [HTB.out]; exact decide_eq_true ⟨hk2, hs⟩)
              go_wp2_with fail
              go_meet
              exact ⟨rfl, by rw [H.out]; simp [hs, hk2], rfl⟩
            · have H := Lib.hid (show tb = false by rw [HTB.out]; exact decide_eq_false (by omega))
              go_wp2_with fail
              go_meet
              exact ⟨rfl, by rw [H.out]; (try simp [hs, hk2]), rfl⟩
        case rest =>
        obtain ⟨rfl, rfl, hwc⟩ := hcut
        obtain rfl : wz = wc := hwc.symm
        go_upto_if 35 with fail
        go_cut [12] from 20 to 40 (fun jv wx => jv = .int .i64 i ∧ Below w.heap.size w wx ∧ Blk wx q #[.int .i64 0, .int .i64 0, .int .i64 0, .int .i64 0] 33 ∧ Blk wx o (staB I S1 sx sy) 33 ∧ Blk wx z #[.int .i64 I, .int .i64 KI, .int .i64 S, .int .i64 D, .int .i64 T, .int .i64 X, .int .i64 Y] 36)
        case first =>
          have ht1 := HTB.out
          have h := HS1.out
          by_cases hks : KI ≠ 2 ∧ s < 0
          · rw [if_pos hks] at h
            rw [decide_eq_true hks] at ht1
            have H := Lib.hid h
            subst ht1
            clear h
            go_wp2_with fail
            go_meet
            exact ⟨rfl, HB2.out.setCell (show w.heap.size ≤ o by omega) _, HQ2.out.other hne1 _, by rw [H.out]; exact HO2.out.set 1 _, HZ2.out.other hzn3 _⟩
          · rw [if_neg hks] at h
            rw [decide_eq_false hks] at ht1
            have H := Lib.hid h
            subst ht1
            clear h hks
            go_wp2_with fail
            go_meet
            exact ⟨rfl, HB2.out, HQ2.out, by rw [H.out]; exact HO2.out, HZ2.out⟩
        case rest =>
        obtain ⟨rfl, hb3, hq3, ho3, hz3⟩ := hcut
        have HB3 := Lib.hid hb3
        have HQ3 := Lib.hid hq3
        have HO3 := Lib.hid ho3
        have HZ3 := Lib.hid hz3
        obtain ⟨tg, toff, rfl, htc⟩ := HT.out.below (Nat.le_refl _) HB3.out (by omega)
        have t0 : wc.cell? ⟨tg, toff + i * 3 + 0, none⟩ = some (.int .i64 (TF L (i * 3 + 0))) := htc i (by omega) 0 (by omega)
        have t1 : wc.cell? ⟨tg, toff + i * 3 + 1, none⟩ = some (.int .i64 (TF L (i * 3 + 1))) := htc i (by omega) 1 (by omega)
        have t2 : wc.cell? ⟨tg, toff + i * 3 + 2, none⟩ = some (.int .i64 (TF L (i * 3 + 2))) := htc i (by omega) 2 (by omega)
        rw [Nat.add_zero, Nat.add_zero, (TF_at L i).1] at t0
        rw [(TF_at L i).2.1] at t1
        rw [(TF_at L i).2.2] at t2
        obtain ⟨b1, b2, b3, b4, _⟩ := htb
        obtain ⟨PP, hPP⟩ : ∃ y, y = prI L click at' i := ⟨_, rfl⟩
        have hpb : 0 ≤ PP ∧ PP ≤ 1000 := by rw [hPP]; exact prg_bd b4.1
        have HPP := Lib.hid (show prg (tmC L i) (tmF L i) (tmT L i) click at' = PP from hPP.symm)
        have HPP2 := Lib.hid hPP
        obtain ⟨TC, hTC⟩ : ∃ y, y = tmC L i := ⟨_, rfl⟩
        obtain ⟨TF', hTF⟩ : ∃ y, y = tmF L i := ⟨_, rfl⟩
        obtain ⟨TT, hTT⟩ : ∃ y, y = tmT L i := ⟨_, rfl⟩
        rw [← hTC] at t0 b1 HPP
        rw [← hTF] at t1 b2 b4 HPP
        rw [← hTT] at t2 b3 b4 HPP
        have b5 := b4.1
        clear b4 htc hb3 hq3 ho3 hz3 hPP hTC hTF hTT HB2 HQ2 HO2 HZ2 x0 x1 y1 yf1 HTB
        go_upto_block 2 with fail
        go_cut [14] from 40 to 106 (fun pv wx => pv = .int .i64 PP ∧ Below w.heap.size w wx ∧ Blk wx q #[.int .i64 0, .int .i64 0, .int .i64 0, .int .i64 0] 33 ∧ Blk wx o (staB I S1 sx sy) 33 ∧ Blk wx z #[.int .i64 I, .int .i64 KI, .int .i64 S, .int .i64 D, .int .i64 T, .int .i64 X, .int .i64 Y] 36)
        case first =>
          have h := HPP.out
          unfold prg at h
          by_cases h1 : TC < click
          · rw [if_pos (.inl h1)] at h
            have H := Lib.hid h
            clear h
            go_wp2_with fail
            go_meet
            exact ⟨by rw [← H.out], HB3.out, HQ3.out, HO3.out, HZ3.out⟩
          by_cases h2 : TC = click
          · by_cases h3 : TT ≤ at'
            · rw [if_pos (.inr ⟨h2, h3⟩)] at h
              have H := Lib.hid h
              have h2b : (TC == click) = true := by simp [h2]
              clear h h2
              go_wp2_with fail
              go_meet
              exact ⟨by rw [← H.out], HB3.out, HQ3.out, HO3.out, HZ3.out⟩
            · rw [if_neg (by omega)] at h
              have h2b : (TC == click) = true := by simp [h2]
              by_cases h4 : TF' < at'
              · rw [if_pos ⟨h2, h4⟩] at h
                have H := Lib.hid h
                have q1 : IntKind.i64.wrap (at' - TF') = at' - TF' := IntWalk.i64_in _ ⟨by omega, by omega⟩
                have q2 : IntKind.i64.wrap (1000 * (at' - TF')) = 1000 * (at' - TF') := IntWalk.i64_in _ ⟨by omega, by omega⟩
                have q3 : IntKind.i64.wrap (TT - TF') = TT - TF' := IntWalk.i64_in _ ⟨by omega, by omega⟩
                have q4 : ¬ TT - TF' = 0 := by omega
                have q5 : (1000 * (at' - TF')).tdiv (TT - TF') = PP := by rw [Int.tdiv_eq_ediv_of_nonneg (by omega)]; exact H.out
                have q6 : IntKind.i64.wrap PP = PP := IntWalk.i64_in _ ⟨by omega, by omega⟩
                clear h h2
                go_upto_region 13 with fail
                go_quiet (fail)
                go_wp2_with fail
                go_meet
                exact ⟨rfl, ⟨HB3.out.os, HB3.out.tape, HB3.out.output, HB3.out.size, HB3.out.block⟩, HQ3.out.drewN _, HO3.out.drewN _, HZ3.out.drewN _⟩
              · rw [if_neg (by omega)] at h
                have H := Lib.hid h
                clear h h2
                go_wp2_with fail
                go_meet
                exact ⟨by rw [← H.out], HB3.out, HQ3.out, HO3.out, HZ3.out⟩
          · rw [if_neg (by omega), if_neg (by omega)] at h
            have H := Lib.hid h
            have h2b : (TC == click) = false := by simp [h2]
            clear h
            go_wp2_with fail
            go_meet
            exact ⟨by rw [← H.out], HB3.out, HQ3.out, HO3.out, HZ3.out⟩
        case rest =>
        obtain ⟨rfl, hb4, hq4, ho4, hz4⟩ := hcut
        have HB4 := Lib.hid hb4
        have HQ4 := Lib.hid hq4
        have HO4 := Lib.hid ho4
        have HZ4 := Lib.hid hz4
        have hstep : staF L click at' I (i + 1) = (if PP = 0 then ⟨S1, sx, sy⟩ else if KI = 2 then ⟨S1, sx + (X * PP).tdiv 1000, sy + (Y * PP).tdiv 1000⟩ else if KI = 0 then ⟨max S1 PP, sx, sy⟩ else ⟨min S1 (1000 - PP), sx, sy⟩) := by
          rw [staF, if_pos HIT.out, ← HST.out, ← HPP2.out, ← HP.out]
          have e := HS1.out
          subst e
          rfl
        have c0 : wc.cell? ⟨o, 0, none⟩ = some (.int .i64 I) := HO4.out.cell (i := 0) rfl
        have c1 : wc.cell? ⟨o, 1, none⟩ = some (.int .i64 S1) := HO4.out.cell (i := 1) rfl
        have c2 : wc.cell? ⟨o, 2, none⟩ = some (.int .i64 sx) := HO4.out.cell (i := 2) rfl
        have c3 : wc.cell? ⟨o, 3, none⟩ = some (.int .i64 sy) := HO4.out.cell (i := 3) rfl
        have f1 : wc.frozen? ⟨o, 1, none⟩ = false := HO4.out.frozen 1
        have f2 : wc.frozen? ⟨o, 2, none⟩ = false := HO4.out.frozen 2
        have f3 : wc.frozen? ⟨o, 3, none⟩ = false := HO4.out.frozen 3
        have z1 : wc.cell? ⟨z, 1, none⟩ = some (.int .i64 KI) := HZ4.out.cell (i := 1) rfl
        have z5 : wc.cell? ⟨z, 5, none⟩ = some (.int .i64 X) := HZ4.out.cell (i := 5) rfl
        have z6 : wc.cell? ⟨z, 6, none⟩ = some (.int .i64 Y) := HZ4.out.cell (i := 6) rfl
        clear hb4 hq4 ho4 hz4 HB3 HQ3 HO3 HZ3 t0 t1 t2 b1 b2 b3 b5 HPP
        by_cases hp0 : PP = 0
        · rw [if_pos hp0] at hstep
          have HST2 := Lib.hid hstep
          subst hp0
          clear hstep
          go_wp2_with fail
          go_roundw
          case rel => exact ⟨i + 1, by go_num, by omega, HB4.out, HQ4.out, by rw [HST2.out]; exact HO4.out⟩
          case measure => simp [intOf]; omega
        rw [if_neg hp0] at hstep
        by_cases hk2 : KI = 2
        · rw [if_pos hk2] at hstep
          have HST2 := Lib.hid hstep
          subst hk2
          obtain ⟨pb1, pb2⟩ := prod_bd hx1 hpb
          obtain ⟨pb3, pb4⟩ := prod_bd hy1 hpb
          have q1 : IntKind.i64.wrap (X * PP) = X * PP := IntWalk.i64_in _ ⟨by omega, by omega⟩
          have q2 : IntKind.i64.wrap (Y * PP) = Y * PP := IntWalk.i64_in _ ⟨by omega, by omega⟩
          have q3 : IntKind.i64.wrap ((X * PP).tdiv 1000) = (X * PP).tdiv 1000 := IntWalk.i64_in _ ⟨by omega, by omega⟩
          have q4 : IntKind.i64.wrap ((Y * PP).tdiv 1000) = (Y * PP).tdiv 1000 := IntWalk.i64_in _ ⟨by omega, by omega⟩
          have q5 : IntKind.i64.wrap (sx + (X * PP).tdiv 1000) = sx + (X * PP).tdiv 1000 := IntWalk.i64_in _ ⟨by omega, by omega⟩
          have q6 : IntKind.i64.wrap (sy + (Y * PP).tdiv 1000) = sy + (Y * PP).tdiv 1000 := IntWalk.i64_in _ ⟨by omega, by omega⟩
          clear hstep
          go_wp2_with fail
          go_roundw
          case rel => exact ⟨i + 1, by go_num, by omega, (HB4.out.setCell (show w.heap.size ≤ o by omega) _).setCell (show w.heap.size ≤ o by omega) _, (HQ4.out.other hne1 _).other hne1 _, by rw [HST2.out]; exact (HO4.out.set 2 _).set 3 _⟩
          case measure => simp [intOf]; omega
        rw [if_neg hk2] at hstep
        by_cases hk0 : KI = 0
        · rw [if_pos hk0] at hstep
          have HST2 := Lib.hid hstep
          subst hk0
          clear hstep
          go_wp2_with fail
          go_roundw
          case rel => exact ⟨i + 1, by go_num, by omega, HB4.out.setCell (show w.heap.size ≤ o by omega) _, HQ4.out.other hne1 _, by rw [HST2.out]; exact HO4.out.set 1 _⟩
          case measure => simp [intOf]; omega
        rw [if_neg hk0] at hstep
        have HST2 := Lib.hid hstep
        clear hstep
        go_wp2_with fail
        go_roundw
        case rel => exact ⟨i + 1, by go_num, by omega, HB4.out.setCell (show w.heap.size ≤ o by omega) _, HQ4.out.other hne1 _, by rw [HST2.out]; exact HO4.out.set 1 _⟩
        case measure => simp [intOf]; omega
      · have hst : staF L click at' item (i + 1) = staF L click at' item i := by rw [staF, if_neg (by rw [HIT.out]; exact hit)]
        have HST := Lib.hid hst
        clear hst
        go_wp2_with fail
        go_roundw
        case rel => exact ⟨i + 1, by go_num, by omega, HB2.out, HQ2.out, by rw [HST.out]; exact HO2.out⟩
        case measure => simp [intOf]; omega
    · obtain rfl : n = i := by omega
      have zq := HQ.out.lt
      have zo := HO.out.lt
      have zb := HB.out.size
      obtain ⟨S, hS⟩ : ∃ S, S = staF L click at' item n := ⟨_, rfl⟩
      rw [← hS] at HO
      have HS := Lib.hid hS
      clear hS
      obtain ⟨s, x, y⟩ := S
      have c0 : wr.cell? ⟨o, 0, none⟩ = some (.int .i64 item) := HO.out.cell (i := 0) rfl
      have c1 : wr.cell? ⟨o, 1, none⟩ = some (.int .i64 s) := HO.out.cell (i := 1) rfl
      have c2 : wr.cell? ⟨o, 2, none⟩ = some (.int .i64 x) := HO.out.cell (i := 2) rfl
      have c3 : wr.cell? ⟨o, 3, none⟩ = some (.int .i64 y) := HO.out.cell (i := 3) rfl
      have f1 : wr.frozen? ⟨o, 1, none⟩ = false := HO.out.frozen 1
      have e0 : wr.cell? ⟨q, 0, none⟩ = some (.int .i64 0) := HQ.out.cell (i := 0) rfl
      have e1 : wr.cell? ⟨q, 1, none⟩ = some (.int .i64 0) := HQ.out.cell (i := 1) rfl
      have e2 : wr.cell? ⟨q, 2, none⟩ = some (.int .i64 0) := HQ.out.cell (i := 2) rfl
      have e3 : wr.cell? ⟨q, 3, none⟩ = some (.int .i64 0) := HQ.out.cell (i := 3) rfl
      have k0 : wr.frozen? ⟨q, 0, none⟩ = false := HQ.out.frozen 0
      have k1 : wr.frozen? ⟨q, 1, none⟩ = false := HQ.out.frozen 1
      have k2 : wr.frozen? ⟨q, 2, none⟩ = false := HQ.out.frozen 2
      have k3 : wr.frozen? ⟨q, 3, none⟩ = false := HQ.out.frozen 3
      by_cases hs : s < 0
      · have hsf : seenF ⟨s, x, y⟩ = 1000 := if_pos hs
        have HSF := Lib.hid hsf
        clear hsf
        go_wp2_with fail
        have hfin := ((((HQ.out.other (a := ⟨o, 1, none⟩) hne1 (.int .i64 1000)).set 0 (.int .i64 item)).set 1 (.int .i64 1000)).set 2 (.int .i64 x)).set 3 (.int .i64 y)
        (try simp only [Exit.inBlock, Exit.then])
        refine bodyPost_ret (v := .agg #[.int .i64 item, .int .i64 1000, .int .i64 x, .int .i64 y]) ?rcA rfl ?_
        case rcA => exact results_cell_row rfl _ _ (q) 33 _ (0, 0) _ rfl hfin Try.underlying33 rfl (by kernel_rfl)
        refine ⟨by rw [← HS.out, HSF.out], ?_⟩
        exact ((((HB.out.setCell (show w.heap.size ≤ o by omega) _).setCell hqa _).setCell hqa _).setCell hqa _).setCell hqa _
      · have hsf : seenF ⟨s, x, y⟩ = s := if_neg hs
        have HSF := Lib.hid hsf
        clear hsf
        go_wp2_with fail
        have hfin := (((HQ.out.set 0 (.int .i64 item)).set 1 (.int .i64 s)).set 2 (.int .i64 x)).set 3 (.int .i64 y)
        (try simp only [Exit.inBlock, Exit.then])
        refine bodyPost_ret (v := .agg #[.int .i64 item, .int .i64 s, .int .i64 x, .int .i64 y]) ?rcB rfl ?_
        case rcB => exact results_cell_row rfl _ _ (q) 33 _ (0, 0) _ rfl hfin Try.underlying33 rfl (by kernel_rfl)
        refine ⟨by rw [← HS.out, HSF.out], ?_⟩
        exact (((HB.out.setCell hqa _).setCell hqa _).setCell hqa _).setCell hqa _
end Go.Proofs.Ythddbinbeinafaa.TL
