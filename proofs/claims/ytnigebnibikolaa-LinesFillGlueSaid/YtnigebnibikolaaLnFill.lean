

/-
  Fill.
-/
import Derived.Test.YtnigebnibikolaaLnFillP
import Derived.Test.YtnigebnibikolaaLnOne
import Derived.Test.YtnigebnibikolaaLnCheck
import Derived.Deep.CutRange
import Derived.Deep.QuietTactic
import Derived.BigQuiet
namespace Go.Proofs.Ytnigebnibikolaa.LN
open Go.RowKit Go.Law Go.Law.Ln
set_option linter.unusedVariables false
set_option linter.unusedSimpArgs false
set_option maxRecDepth 100000
/-- what Fill leaves -/
def FlPost (w : World) (xs : List Int) (e : Ending) (w' : World) : Prop := ∃ v, e = .returned (.tuple #[v, .int .i64 0]) ∧ RowL w' w.heap.size 3 1 v xs.length (xs.map (Value.int .i64)) ∧ Below w.heap.size w w'
def fillF (n : Nat) (L : Nat → Part) (X : Int) (a z : Nat) (just : Bool) : List Int :=
  glueF L (decide (X - (wdF L z - wdF L a + addF n L z) < 0)) (byF X (wdF L z - wdF L a + addF n L z) (grF L z - grF L a) (ylF L z - ylF L a) just) (canF X (wdF L z - wdF L a + addF n L z) (grF L z - grF L a) (ylF L z - ylF L a)) (sumF L (decide (X - (wdF L z - wdF L a + addF n L z) < 0)) a) a (z - a)
/-- the line's box -/
structure FlB (w : World) (a z : Nat) (N0 S0 R0 X : Int) (wr : World) : Prop where
  below : Below w.heap.size w wr
  box : Blk wr w.heap.size #[.int .i64 a, .int .i64 z, .int .i64 N0, .int .i64 S0, .int .i64 R0, .int .i64 X] 74
theorem FlB.under {w : World} {a z : Nat} {N0 S0 R0 X : Int} {wr w' : World} (h : FlB w a z N0 S0 R0 X wr) (hb : Below wr.heap.size wr w') : FlB w a z N0 S0 R0 X w' :=
  ⟨h.below.trans (hb.mono h.below.size), h.box.below hb h.box.lt⟩
structure FlR (w : World) (a z : Nat) (N0 S0 R0 X : Int) (v : Value) (xs : List Int) (wr : World) : Prop where
  base : FlB w a z N0 S0 R0 X wr
  row : RowL wr (w.heap.size + 1) 3 1 v xs.length (xs.map (Value.int .i64))
theorem FlR.under {w : World} {a z : Nat} {N0 S0 R0 X : Int} {v : Value} {xs : List Int} {wr w' : World} (h : FlR w a z N0 S0 R0 X v xs wr) (hb : Below wr.heap.size wr w') : FlR w a z N0 S0 R0 X v xs w' :=
  ⟨h.base.under hb, h.row.below hb (Nat.le_refl _)⟩
theorem FlR.append {w : World} {a z : Nat} {N0 S0 R0 X : Int} {v : Value} {xs : List Int} {wr w' : World} (h : FlR w a z N0 S0 R0 X v xs wr) {o : Obj} {v' : Value} {u : Int} (hg : (wr.alloc o).grownBy w' v.ownBlock) (hr : w'.ownsRow (w.heap.size + 1) 3 1 v' (xs.length + 1) (xs.map (Value.int .i64) ++ [.int .i64 u])) : FlR w a z N0 S0 R0 X v' (xs ++ [u]) w' := by
  have ha := h.under ((Below.refl _ _).alloc (Nat.le_refl _) o)
  refine ⟨⟨Below.grown (B := w.heap.size) (a := w) ha.base.below hg ha.base.below.size (fun k hk => by have := RowL.ge h.row k hk; omega), ha.base.box.block (hg.block _ ha.base.box.lt (fun he => ?_))⟩, ?_⟩
  · have := RowL.ge h.row _ he.symm
    omega
  · rw [List.map_append, List.length_append]
    exact hr
set_option maxHeartbeats 8000000 in
theorem fill_some (n : Nat) (L : Nat → Part) (aP : Option Addr) (cP a z : Nat) (N0 S0 R0 X : Int) (just : Bool) (w : World) (mP : CellsF w aP n 6 (fun i => (L i).V)) (hcP : n ≤ cP) (hcM : cP ≤ 1000000000000000) (haz : a < z) (hz : z ≤ n) (hX : 1 ≤ X ∧ X ≤ 100000) (hE : partsE n L = 0) :
    Calls Try.prog 34 #[.slice aP n cP, .agg #[.int .i64 a, .int .i64 z, .int .i64 N0, .int .i64 S0, .int .i64 R0, .int .i64 X], .bool just] w (FlPost w (fillF n L X a z just)) := by
  obtain ⟨hn, hok⟩ := partsE_zero hE
  have HPS := Lib.hid mP
  have HOK := Lib.hid hok
  have HE := Lib.hid hE
  obtain ⟨R, hR⟩ : ∃ R, R = fillF n L X a z just := ⟨_, rfl⟩
  have HR := Lib.hid (hR.trans (by unfold fillF; rfl : _ = glueF L (decide (X - (wdF L z - wdF L a + addF n L z) < 0)) (byF X (wdF L z - wdF L a + addF n L z) (grF L z - grF L a) (ylF L z - ylF L a) just) (canF X (wdF L z - wdF L a + addF n L z) (grF L z - grF L a) (ylF L z - ylF L a)) (sumF L (decide (X - (wdF L z - wdF L a + addF n L z) < 0)) a) a (z - a)))
  rw [← hR]
  obtain ⟨b, off, rfl, hcl⟩ := HPS.out (by omega)
  have HI := Lib.hid (info_parts (show (Try.prog.info? 3).map (fun i => (i.zero, i.size, i.bytes)) = some (some (.int .i64 0), 1, 8) by kernel_rfl))
  have sz := sums hok z hz
  have sa := sums hok a (by omega)
  have sm := mono hok (show a ≤ z by omega) hz
  have hq0 : FlB w a z N0 S0 R0 X (w.alloc (Obj.cells #[.int .i64 a, .int .i64 z, .int .i64 N0, .int .i64 S0, .int .i64 R0, .int .i64 X] 74)) := ⟨(Below.refl _ _).alloc (Nat.le_refl _) _, Blk.new _ _ _⟩
  have HQ0 := Lib.hid hq0
  have HSZ := Lib.hid sz
  have HSA := Lib.hid sa
  have HSM := Lib.hid sm
  clear mP hok hE hR hcl hq0 sz sa sm
  have hlt : a < cP := by omega
  have e1 : (a : Int) ≤ (z : Int) := by omega
  have e2 : (z : Int) ≤ (cP : Int) := by omega
  have e3 : (z : Int) ≤ (n : Int) := by omega
  go_enter Try.func34, Try.ntmps34
  go_wp2_with fail
  refine (check_any n L (some ⟨b, off, none⟩) cP _ (HPS.out.below (Nat.le_refl _) HQ0.out.below) (by omega)).mono ?_
  rintro e w2 ⟨rfl, hb2⟩
  rw [HE.out]
  have HQ2 := Lib.hid (HQ0.out.under hb2)
  clear hb2 HQ0
  have x0 := HQ2.out.box.cell (i := 0) rfl
  have x1 := HQ2.out.box.cell (i := 1) rfl
  have x5 := HQ2.out.box.cell (i := 5) rfl
  have zx := HQ2.out.box.lt
  go_wp2_with fail
  go_loopw [9, 10, 11, 62] (fun nv gv yv jv wr => ∃ (i : Nat) (N G Y : Int), jv = .int .i64 ((i - a : Nat) : Int) ∧ nv = .int .i64 N ∧ gv = .int .i64 G ∧ yv = .int .i64 Y ∧ a ≤ i ∧ i ≤ z ∧ N = wdF L i - wdF L a ∧ G = grF L i - grF L a ∧ Y = ylF L i - ylF L a ∧ FlB w a z N0 S0 R0 X wr) (fun _ _ _ jv _ => z - a - (intOf jv).toNat)
  case atStart => exact ⟨a, 0, 0, 0, by simp, rfl, rfl, rfl, Nat.le_refl _, by omega, by omega, by omega, by omega, HQ2.out⟩
  case round =>
    obtain ⟨i, N, G, Y, rfl, rfl, rfl, rfl, hai, hiz, hN, hS, hR, hO⟩ := hrel
    have HO := Lib.hid hO
    clear x0 x1 x5 zx
    by_cases hlt2 : i < z
    · obtain ⟨j, hj⟩ : ∃ j, j = i - a := ⟨_, rfl⟩
      have hji : i = a + j := by omega
      have s1 := sums HOK.out i (by omega)
      have s0 := sums HOK.out a (by omega)
      have hm := mono HOK.out hai (by omega : i ≤ n)
      have hok := HOK.out i (by omega)
      have hN1 : N + (if (L i).kind ≠ 2 then (L i).width else 0) = wdF L (i + 1) - wdF L a := by rw [hN]; simp only [wdF]; omega
      have hS1 : G + (L i).stretch = grF L (i + 1) - grF L a := by rw [hS]; simp only [grF]; omega
      have hR1 : Y + (L i).shrink = ylF L (i + 1) - ylF L a := by rw [hR]; simp only [ylF]; omega
      have b1 : 0 ≤ N ∧ N ≤ 1000000000 := by omega
      have b2 : 0 ≤ G ∧ G ≤ 1000000000 := by omega
      have b3 : 0 ≤ Y ∧ Y ≤ 1000000000 := by omega
      have b4 := hok.width
      have b5 := hok.stretch
      have b6 := hok.shrink
      obtain ⟨b', off', hbo, hcell⟩ := HPS.out.below (Nat.le_refl _) (HO.out).below (by omega)
      obtain ⟨rfl, rfl⟩ : b = b' ∧ off = off' := by injection hbo with h; injection h with h1 h2; exact ⟨h1, h2⟩
      have ea : off + i * 6 = off + a * 6 + j * 6 := by omega
      have d0 : wr.cell? ⟨b, off + i * 6 + 0, none⟩ = some ((L i).V 0) := hcell i (by omega) 0 (by omega)
      have d1 : wr.cell? ⟨b, off + i * 6 + 1, none⟩ = some ((L i).V 1) := hcell i (by omega) 1 (by omega)
      have d2 : wr.cell? ⟨b, off + i * 6 + 2, none⟩ = some ((L i).V 2) := hcell i (by omega) 2 (by omega)
      have d3 : wr.cell? ⟨b, off + i * 6 + 3, none⟩ = some ((L i).V 3) := hcell i (by omega) 3 (by omega)
      have d4 : wr.cell? ⟨b, off + i * 6 + 4, none⟩ = some ((L i).V 4) := hcell i (by omega) 4 (by omega)
      have d5 : wr.cell? ⟨b, off + i * 6 + 5, none⟩ = some ((L i).V 5) := hcell i (by omega) 5 (by omega)
      rw [ea] at d0 d1 d2 d3 d4 d5
      obtain ⟨p, hp⟩ : ∃ p, p = L i := ⟨_, rfl⟩
      rw [← hp] at d0 d1 d2 d3 d4 d5 hN1 hS1 hR1 b4 b5 b6
      obtain ⟨K, Wi, St, Rs, C, F⟩ := p
      simp only [Part.V] at d0 d1 d2 d3 d4 d5
      simp only at hN1 hS1 hR1 b4 b5 b6
      rw [Nat.add_zero] at d0
      have zb := lt_of_cell d0
      simp only at zb
      have HN1 := Lib.hid hN1
      have HS1 := Lib.hid hS1
      have HR1 := Lib.hid hR1
      have hjl : j < z - a := by omega
      have hj1 : ((i + 1 - a : Nat) : Int) = (j : Int) + 1 := by omega
      have HJ := Lib.hid hj1
      rw [← hj]
      have f1 : IntKind.i64.wrap (G + St) = G + St := IntWalk.i64_in _ ⟨by omega, by omega⟩
      have f2 : IntKind.i64.wrap (Y + Rs) = Y + Rs := IntWalk.i64_in _ ⟨by omega, by omega⟩
      have HF1 := Lib.hid f1
      have HF2 := Lib.hid f2
      clear hp hN1 hS1 hR1 hN hS hR s1 s0 hm hok hcell hbo ea hO hj hji hj1 f1 f2
      by_cases hk : K = 2
      · subst hk
        go_wp2_with fail
        have f1 := HF1.out
        have f2 := HF2.out
        go_quiet (fail)
        clear f1 f2
        go_wp2_with fail
        go_roundw
        case rel => exact ⟨i + 1, _, _, _, by rw [HJ.out], rfl, rfl, rfl, by omega, by omega, by rw [← HN1.out]; simp, by rw [← HS1.out], by rw [← HR1.out], HO.out.under (below_drewN ((Below.refl _ _).alloc (Nat.le_refl _) _) _)⟩
        case measure => simp [intOf]; omega
      · have hk2 : (K != 2) = true := by simpa using hk
        have HK := Lib.hid hk
        clear hk
        go_wp2_with fail
        have f1 := HF1.out
        have f2 := HF2.out
        go_quiet (fail)
        clear f1 f2
        go_wp2_with fail
        go_roundw
        case rel => exact ⟨i + 1, _, _, _, by rw [HJ.out], rfl, rfl, rfl, by omega, by omega, by rw [← HN1.out, if_pos HK.out], by rw [← HS1.out], by rw [← HR1.out], HO.out.under (below_drewN ((Below.refl _ _).alloc (Nat.le_refl _) _) _)⟩
        case measure => simp [intOf]; omega
    · obtain rfl : z = i := by omega
      have HNN := Lib.hid hN
      have HGG := Lib.hid hS
      have HYY := Lib.hid hR
      have b1 : 0 ≤ N ∧ N ≤ 1000000000 := by have := HSZ.out; have := HSA.out; have := HSM.out; omega
      have b2 : 0 ≤ G ∧ G ≤ 1000000000 := by have := HSZ.out; have := HSA.out; have := HSM.out; omega
      have b3 : 0 ≤ Y ∧ Y ≤ 1000000000 := by have := HSZ.out; have := HSA.out; have := HSM.out; omega
      have ba := addF_bd (n := n) HOK.out z
      clear hN hS hR hlt2 hiz hai hO
      have x0 := HO.out.box.cell (i := 0) rfl
      have x1 := HO.out.box.cell (i := 1) rfl
      have x5 := HO.out.box.cell (i := 5) rfl
      have zx := HO.out.box.lt
      obtain ⟨A, hA⟩ : ∃ y, y = addF n L z := ⟨_, rfl⟩
      rw [← hA] at ba
      have HA := Lib.hid hA
      clear hA
      obtain ⟨TB, hTB⟩ : ∃ y, y = decide (z < n ∧ (L z).kind = 2) := ⟨_, rfl⟩
      have HTB := Lib.hid hTB
      clear hTB
      go_upto_region 14 with fail
      go_cut [9, 95] from 23 (fun nv tv wx => nv = .int .i64 N ∧ tv = .bool TB ∧ wx = wr)
      case first =>
        by_cases hzn : z = n
        · have H0 := Lib.hid (show TB = false by rw [HTB.out]; exact decide_eq_false (by omega))
          have hnl : ¬ (z : Int) < (n : Int) := by omega
          clear hzn
          go_wp2_with fail
          go_meet
          exact ⟨rfl, by rw [H0.out], rfl⟩
        · have hltz : (z : Int) < (n : Int) := by omega
          obtain ⟨b', off', hbo, hcell⟩ := HPS.out.below (Nat.le_refl _) HO.out.below (by omega)
          obtain ⟨rfl, rfl⟩ : b = b' ∧ off = off' := by injection hbo with h; injection h with h1 h2; exact ⟨h1, h2⟩
          have d0 : wr.cell? ⟨b, off + z * 6 + 0, none⟩ = some ((L z).V 0) := hcell z (by omega) 0 (by omega)
          have d1 : wr.cell? ⟨b, off + z * 6 + 1, none⟩ = some ((L z).V 1) := hcell z (by omega) 1 (by omega)
          obtain ⟨p, hp⟩ : ∃ p, p = L z := ⟨_, rfl⟩
          rw [← hp] at d0 d1
          have zb := lt_of_cell d0
          simp only at zb
          have H0 := Lib.hid (show (p.kind = 2 → TB = true) ∧ (p.kind ≠ 2 → TB = false) by
            rw [HTB.out, hp]
            exact ⟨fun h => decide_eq_true ⟨by omega, h⟩, fun h => decide_eq_false (fun h2 => h h2.2)⟩)
          obtain ⟨K, Wi, St, Rs, C, F⟩ := p
          simp only [Part.V] at d0 d1
          simp only at H0
          rw [Nat.add_zero] at d0
          clear hcell hbo hp hzn d1
          by_cases hk : K = 2
          · have H1 := Lib.hid (H0.out.1 hk)
            subst hk
            clear H0
            go_wp2_with fail
            go_meet
            exact ⟨rfl, by rw [H1.out], rfl⟩
          · have H1 := Lib.hid (H0.out.2 hk)
            have hk2 : (K == 2) = false := by simpa using hk
            clear H0 hk
            go_wp2_with fail
            go_meet
            exact ⟨rfl, by rw [H1.out], rfl⟩
      case rest =>
      obtain ⟨rfl, rfl, hw⟩ := hcut
      obtain rfl : wr = wc := hw.symm
      go_upto_if 95 with fail
      go_cut [9] from 23 (fun nv wx => nv = .int .i64 (N + A) ∧ wx = wr)
      case first =>
        cases TB
        · have h1 := HTB.out.symm
          have H0 := Lib.hid (show A = 0 by rw [HA.out]; unfold addF; rw [if_neg (of_decide_eq_false h1)])
          clear h1
          go_wp2_with fail
          go_meet
          exact ⟨by rw [H0.out, Int.add_zero], rfl⟩
        · have h1 := of_decide_eq_true HTB.out.symm
          have hltz : (z : Int) < (n : Int) := by omega
          have H0 := Lib.hid (show (L z).width = A by rw [HA.out]; unfold addF; rw [if_pos h1])
          clear h1
          obtain ⟨b', off', hbo, hcell⟩ := HPS.out.below (Nat.le_refl _) HO.out.below (by omega)
          obtain ⟨rfl, rfl⟩ : b = b' ∧ off = off' := by injection hbo with h; injection h with h1 h2; exact ⟨h1, h2⟩
          have d0 : wr.cell? ⟨b, off + z * 6 + 0, none⟩ = some ((L z).V 0) := hcell z (by omega) 0 (by omega)
          have d1 : wr.cell? ⟨b, off + z * 6 + 1, none⟩ = some ((L z).V 1) := hcell z (by omega) 1 (by omega)
          obtain ⟨p, hp⟩ : ∃ p, p = L z := ⟨_, rfl⟩
          rw [← hp] at d0 d1
          have zb := lt_of_cell d0
          simp only at zb
          rw [← hp] at H0
          obtain ⟨K, Wi, St, Rs, C, F⟩ := p
          simp only [Part.V] at d0 d1
          simp only at H0
          rw [Nat.add_zero] at d0
          clear hcell hbo hp d0
          obtain rfl : Wi = A := H0.out
          clear H0
          go_wp2_with fail
          go_meet
          exact ⟨rfl, rfl⟩
      case rest =>
      obtain ⟨rfl, hw⟩ := hcut
      obtain rfl : wr = wc := hw.symm
      obtain ⟨M, hM⟩ : ∃ y, y = N + A := ⟨_, rfl⟩
      rw [← hM]
      have HM := Lib.hid (show M = wdF L z - wdF L a + addF n L z by rw [hM, HNN.out, HA.out])
      have bm : 0 ≤ M ∧ M ≤ 1100000000 := by omega
      clear hM HNN HA b1 ba
      obtain ⟨d, hd⟩ : ∃ y, y = byF X M G Y just := ⟨_, rfl⟩
      obtain ⟨c, hc⟩ : ∃ y, y = canF X M G Y := ⟨_, rfl⟩
      obtain ⟨lv, hlv⟩ : ∃ y, y = decide (X - M < 0) := ⟨_, rfl⟩
      obtain ⟨SG, hSG⟩ : ∃ y : Int, y = if lv = true then -1 else 1 := ⟨_, rfl⟩
      have HD := Lib.hid hd
      have HC := Lib.hid hc
      have HL := Lib.hid hlv
      have HSG := Lib.hid hSG
      clear hd hc hlv hSG
      go_upto_if 110 with fail
      go_cut [14, 15, 16] from 23 (fun dv cv sv wx => dv = .int .i64 d ∧ cv = .int .i64 c ∧ sv = .int .i64 SG ∧ wx = wr)
      case first =>
        by_cases hl : X - M < 0
        · have h1 := Lib.hid (show d = min (-(X - M)) Y by rw [HD.out]; unfold byF; rw [if_pos hl])
          have h2 := Lib.hid (show c = Y by rw [HC.out]; unfold canF; rw [if_pos hl])
          have h3 := Lib.hid (show SG = -1 by rw [HSG.out, HL.out, decide_eq_true hl]; rfl)
          have hmin : ∀ x y : Int, (if y < x then y else x) = min x y := fun x y => by omega
          go_wp2_with fail
          go_meet
          exact ⟨by rw [h1.out], by rw [h2.out], by rw [h3.out], rfl⟩
        · have h2 := Lib.hid (show c = G by rw [HC.out]; unfold canF; rw [if_neg hl])
          have h3 := Lib.hid (show SG = 1 by rw [HSG.out, HL.out, decide_eq_false hl]; rfl)
          have h1 := HD.out
          unfold byF at h1
          rw [if_neg hl] at h1
          cases just
          · have h4 := Lib.hid (h1.trans (if_pos (.inl rfl)))
            clear h1
            go_wp2_with fail
            go_meet
            exact ⟨by rw [h4.out], by rw [h2.out], by rw [h3.out], rfl⟩
          · by_cases hg : G = 0
            · have h4 := Lib.hid (h1.trans (if_pos (.inr hg)))
              clear h1
              have hg2 : (G == 0) = true := by simpa using hg
              have h5 := Lib.hid hg
              clear hg
              go_wp2_with fail
              go_meet
              exact ⟨by rw [h4.out], by rw [h2.out], by rw [h3.out], rfl⟩
            · have h4 := Lib.hid (h1.trans (if_neg (fun h => h.elim (fun h => nomatch h) hg)))
              clear h1
              have hg2 : (G == 0) = false := by simpa using hg
              clear hg
              go_wp2_with fail
              go_meet
              exact ⟨by rw [h4.out], by rw [h2.out], by rw [h3.out], rfl⟩
      case rest =>
      obtain ⟨rfl, rfl, rfl, hw⟩ := hcut
      obtain rfl : wr = wc := hw.symm
      obtain ⟨s0, hs0⟩ : ∃ y, y = sumF L lv a := ⟨_, rfl⟩
      have HR2 := Lib.hid (show R = glueF L lv d c s0 a (z - a) by rw [HR.out, hs0, HD.out, HC.out, HL.out, HGG.out, HYY.out, HM.out])
      have HS0 := Lib.hid hs0
      have HB3 := byF_bd (X := X) (N := M) (G := G) (Y := Y) (just := just) hX (by omega) b2 b3
      rw [← HD.out, ← HC.out] at HB3
      have HDB := Lib.hid HB3.1
      have HCD := Lib.hid HB3.2
      have HNB := Lib.hid hn
      clear hs0 HR HD HC HGG HYY HM HB3
      cases lv
      · obtain rfl : SG = 1 := HSG.out
        clear HL HSG
        go_wp2_with fail
        go_loopw [17, 18, 129] (fun v dv jv wr => ∃ (i : Nat), jv = .int .i64 ((i - a : Nat) : Int) ∧ dv = .int .i64 (if 0 < c then sumF L false i - s0 else 0) ∧ a ≤ i ∧ i ≤ z ∧ FlR w a z N0 S0 R0 X v (glueF L false d c s0 a (i - a)) wr) (fun _ _ jv _ => z - a - (intOf jv).toNat)
        case atStart => exact ⟨a, by simp, by rw [HS0.out]; simp, Nat.le_refl _, by omega, by rw [Nat.sub_self]; exact ⟨HO.out, RowL.nil _ _ _ _⟩⟩
        case round =>
          obtain ⟨i, rfl, rfl, hai, hiz, hO⟩ := hrel
          replace HO := Lib.hid hO
          obtain ⟨DN, hDN⟩ : ∃ y, y = (if 0 < c then sumF L false i - s0 else 0) := ⟨_, rfl⟩
          rw [← hDN]
          by_cases hlt2 : i < z
          · obtain ⟨j, hj⟩ : ∃ j, j = i - a := ⟨_, rfl⟩
            have hji : i = a + j := by omega
            have hjl : j < z - a := by omega
            have hj1 : ((i + 1 - a : Nat) : Int) = (j : Int) + 1 := by omega
            have HJ := Lib.hid hj1
            have hok := HOK.out i (by omega)
            have hsk := sumF_skip (less := false) HOK.out (i := i) (by omega)
            have hsu := sumF_succ (L := L) (less := false) i
            have hpb := partB_bd (less := false) HOK.out (i := i) (by omega)
            have hsb := sumF_bd (less := false) HNB.out HOK.out hai (by omega)
            have hsb1 := sumF_bd (less := false) HNB.out HOK.out (show a ≤ i + 1 by omega) (by omega)
            have hgs := glueF_skip' (L := L) (less := false) (d := d) (c := c) (s0 := s0) hai
            have hga := glueF_add' (L := L) (less := false) (d := d) (c := c) (s0 := s0) hai
            have hgl := glueF_len L false d c s0 a (i - a)
            rw [← HS0.out] at hsb hsb1
            have b4 := hok.width
            simp only [partB] at hsu hpb
            simp only [entF, shareF] at hga
            obtain ⟨b', off', hbo, hcell⟩ := HPS.out.below (Nat.le_refl _) (HO.out.base).below (by omega)
            obtain ⟨rfl, rfl⟩ : b = b' ∧ off = off' := by injection hbo with h; injection h with h1 h2; exact ⟨h1, h2⟩
            have ea : off + i * 6 = off + a * 6 + j * 6 := by omega
            have d0 : wr.cell? ⟨b, off + i * 6 + 0, none⟩ = some ((L i).V 0) := hcell i (by omega) 0 (by omega)
            have d1 : wr.cell? ⟨b, off + i * 6 + 1, none⟩ = some ((L i).V 1) := hcell i (by omega) 1 (by omega)
            have d2 : wr.cell? ⟨b, off + i * 6 + 2, none⟩ = some ((L i).V 2) := hcell i (by omega) 2 (by omega)
            have d3 : wr.cell? ⟨b, off + i * 6 + 3, none⟩ = some ((L i).V 3) := hcell i (by omega) 3 (by omega)
            have d4 : wr.cell? ⟨b, off + i * 6 + 4, none⟩ = some ((L i).V 4) := hcell i (by omega) 4 (by omega)
            have d5 : wr.cell? ⟨b, off + i * 6 + 5, none⟩ = some ((L i).V 5) := hcell i (by omega) 5 (by omega)
            rw [ea] at d0 d1 d2 d3 d4 d5
            rw [hsu] at hga
            have HIDX := Lib.hid (show True from trivial)
            obtain ⟨p, hp⟩ : ∃ p, p = L i := ⟨_, rfl⟩
            rw [← hp] at d0 d1 d2 d3 d4 d5 hsk hsu hpb hgs hga b4
            obtain ⟨SI, hSI⟩ : ∃ y, y = sumF L false i := ⟨_, rfl⟩
            rw [← hSI] at hsk hsu hsb hDN hga
            obtain ⟨K, Wi, St, Rs, C, F⟩ := p
            simp only [Part.V] at d0 d1 d2 d3 d4 d5
            simp only at hsk hsu hpb hgs hga b4
            rw [Nat.add_zero] at d0
            have zb := lt_of_cell d0
            simp only at zb
            rw [← hj]
            obtain ⟨xs, hxs⟩ : ∃ y, y = glueF L false d c s0 a (i - a) := ⟨_, rfl⟩
            rw [← hxs] at hgs hga hgl HO
            have HSU := Lib.hid hsu
            have HDD := Lib.hid hDN
            have HGS := Lib.hid hgs
            have HGA := Lib.hid hga
            have HSK := Lib.hid hsk
            clear hok hcell hbo ea hO hj hji hj1 hp hsk hsu hgs hga hDN hSI hxs
            by_cases hk : K = 1
            · subst hk
              replace HGA := Lib.hid (HGA.out rfl)
              clear HGS HSK
              by_cases hc : 0 < c
              · have hd := (HDD.out).trans (if_pos hc)
                rw [← hd] at hsb HGA
                have hpp : SI + St - s0 = DN + St := by omega
                have hs2 := HSU.out
                simp at hs2 hpb HGA
                rw [hs2, hpp] at hsb1
                rw [hpp] at HGA
                obtain ⟨⟨u1, u2⟩, u3, u4, u5, u6⟩ := share_num HDB.out hc hsb hpb.1 hsb1.2
                have HDN := Lib.hid (show (if 0 < c then sumF L false (i + 1) - s0 else 0) = DN + St by rw [if_pos hc, hs2, hpp])
                obtain ⟨SH, hSH⟩ : ∃ y, y = d * (DN + St) / c - d * DN / c := ⟨_, rfl⟩
                have bSH : -1000000000000000000 ≤ SH ∧ SH ≤ 1000000000000000000 := by omega
                have HADD := Lib.hid (show glueF L false d c s0 a (i + 1 - a) = xs ++ [Wi + SH] by have h := HGA.out; rw [← hSH] at h; first | exact h | (rw [h, Int.sub_eq_add_neg]))
                have f1 : IntKind.i64.wrap (DN + St) = DN + St := IntWalk.i64_in _ ⟨by omega, by omega⟩
                have f2 : IntKind.i64.wrap (d * (DN + St)) = d * (DN + St) := IntWalk.i64_in _ ⟨by omega, by omega⟩
                have f3 : IntKind.i64.wrap (d * DN) = d * DN := IntWalk.i64_in _ ⟨by omega, by omega⟩
                have f4 : IntKind.i64.wrap (d * (DN + St) / c) = d * (DN + St) / c := IntWalk.i64_in _ ⟨by omega, by omega⟩
                have f5 : IntKind.i64.wrap (d * DN / c) = d * DN / c := IntWalk.i64_in _ ⟨by omega, by omega⟩
                have f6 : IntKind.i64.wrap (d * (DN + St) / c - d * DN / c) = SH := by rw [← hSH]; exact IntWalk.i64_in _ ⟨by omega, by omega⟩
                have hcn : ¬ c = 0 := by omega
                have HU := Lib.hid (show _ ∧ _ ∧ _ ∧ _ ∧ _ ∧ _ ∧ _ ∧ _ from ⟨u1, u2, f1, f2, f3, f4, f5, f6⟩)
                clear hSH hs2 hpp HDD HGA HSU hd u1 u2 u3 u4 u5 u6 f1 f2 f3 f4 f5 f6 hsb1
                go_upto_region 33 with fail
                obtain ⟨w3, hw3⟩ : ∃ w3, w3 = wr.alloc (Obj.cells #[.int .i64 1, .int .i64 Wi, .int .i64 St, .int .i64 Rs, .int .i64 C, .bool F] 108) := ⟨_, rfl⟩
                rw [← hw3]
                have q3 : Blk w3 wr.heap.size #[.int .i64 1, .int .i64 Wi, .int .i64 St, .int .i64 Rs, .int .i64 C, .bool F] 108 := by rw [hw3]; exact Blk.new _ _ _
                have HS3 := Lib.hid (HO.out.under (w' := w3) (by rw [hw3]; exact (Below.refl _ _).alloc (Nat.le_refl _) _))
                obtain ⟨q, hq⟩ : ∃ q, q = wr.heap.size := ⟨_, rfl⟩
                rw [← hq] at q3 ⊢
                clear hw3 hq HO d0 d1 d2 d3 d4 d5 zb
                obtain ⟨u1, u2, f1, f2, f3, f4, f5, f6⟩ := HU.out
                go_quiet (fail)
                clear u1 u2 f1 f2 f3 f4 f5 f6
                go_upto_region 35 with fail
                obtain ⟨wz, hwz⟩ : ∃ wz, wz = w3.drewN nq := ⟨_, rfl⟩
                rw [← hwz]
                have qz : Blk wz q #[.int .i64 1, .int .i64 Wi, .int .i64 St, .int .i64 Rs, .int .i64 C, .bool F] 108 := by rw [hwz]; exact q3.drewN _
                have hSz := HS3.out.under (w' := wz) (by rw [hwz]; exact below_drewN (Below.refl _ _) _)
                have HZ := Lib.hid hSz
                clear hwz q3 HS3 hSz
                have x1 := qz.cell (i := 1) rfl
                have zq := qz.lt
                clear qz
                obtain ⟨ii, hii, hz0, hz1, hz2⟩ := HI.out
                obtain ⟨av, cv, hv, hxc, hcm⟩ := RowL.slice HZ.out.row
                have HCV := Lib.hid hcm
                subst hv
                clear hxc hcm
                go_wp2_with (at_builtin; go_loud (refine wpList_append_own _ rfl _ _ 50 rfl (w.heap.size + 1) 3 ii _ 1 8 Try.underlying50 hii hz0 hz1 hz2 rfl (by decide) _ _ _ rfl (RowL.alloc HZ.out.row _) ⟨wz.heap.size, 0, none⟩ 1 1 [.int .i64 (Wi + SH)] rfl rfl ?k1p ?k2p ?k3p ?k4p ?k5p ?_))
                try (case k1p =>
                  intro j u hj
                  match j, hj with
                  | 0, hj => (simp at hj; subst hj; simp [Addr.add]))
                case k2p => first | rfl | (intro u hu; simp at hu; subst hu; rfl)
                case k3p => unfold maxLen; (try simp); (try omega)
                case k4p => (try simp); (try omega)
                case k5p => have := HZ.out.base.below.size; (try simp); (try omega)
                intro v5 w5 hown hgrow _
                have HS5 := Lib.hid (HZ.out.append hgrow hown)
                clear hown hgrow x1 zq hii hz0 hz1 hz2 HZ
                go_wp2_with fail
                go_roundw
                case rel => exact ⟨i + 1, by rw [HJ.out], by rw [HDN.out], by omega, by omega, by rw [HADD.out]; exact HS5.out⟩
                case measure => simp [intOf]; omega
              · have HDN := Lib.hid (show (if 0 < c then sumF L false (i + 1) - s0 else 0) = DN by rw [HDD.out, if_neg hc, if_neg hc])
                have h0 : d * (SI + St - s0) / c - d * (SI - s0) / c = 0 := by
                  have := HCD.out
                  obtain h | h : d = 0 ∨ c = 0 := by omega
                  · subst h; simp
                  · subst h; simp
                have h1 := HGA.out
                simp at h1
                have h2 := HSU.out
                simp at h2
                have HADD := Lib.hid (show glueF L false d c s0 a (i + 1 - a) = xs ++ [Wi] by rw [h1, h0]; simp)
                clear h0 h1 h2 HDD HGA HSU
                go_upto_region 35 with fail
                obtain ⟨w3, hw3⟩ : ∃ w3, w3 = wr.alloc (Obj.cells #[.int .i64 1, .int .i64 Wi, .int .i64 St, .int .i64 Rs, .int .i64 C, .bool F] 108) := ⟨_, rfl⟩
                rw [← hw3]
                have q3 : Blk w3 wr.heap.size #[.int .i64 1, .int .i64 Wi, .int .i64 St, .int .i64 Rs, .int .i64 C, .bool F] 108 := by rw [hw3]; exact Blk.new _ _ _
                have HS3 := Lib.hid (HO.out.under (w' := w3) (by rw [hw3]; exact (Below.refl _ _).alloc (Nat.le_refl _) _))
                obtain ⟨q, hq⟩ : ∃ q, q = wr.heap.size := ⟨_, rfl⟩
                rw [← hq] at q3 ⊢
                clear hw3 hq HO d0 d1 d2 d3 d4 d5 zb
                go_upto_region 35 with fail
                obtain ⟨wz, hwz⟩ : ∃ wz, wz = w3 := ⟨_, rfl⟩
                rw [← hwz]
                have qz : Blk wz q #[.int .i64 1, .int .i64 Wi, .int .i64 St, .int .i64 Rs, .int .i64 C, .bool F] 108 := by rw [hwz]; exact q3
                have hSz := HS3.out.under (w' := wz) (by rw [hwz]; exact Below.refl _ _)
                have HZ := Lib.hid hSz
                clear hwz q3 HS3 hSz
                have x1 := qz.cell (i := 1) rfl
                have zq := qz.lt
                clear qz
                obtain ⟨ii, hii, hz0, hz1, hz2⟩ := HI.out
                obtain ⟨av, cv, hv, hxc, hcm⟩ := RowL.slice HZ.out.row
                have HCV := Lib.hid hcm
                subst hv
                clear hxc hcm
                go_wp2_with (at_builtin; go_loud (refine wpList_append_own _ rfl _ _ 50 rfl (w.heap.size + 1) 3 ii _ 1 8 Try.underlying50 hii hz0 hz1 hz2 rfl (by decide) _ _ _ rfl (RowL.alloc HZ.out.row _) ⟨wz.heap.size, 0, none⟩ 1 1 [.int .i64 (Wi)] rfl rfl ?k1op ?k2op ?k3op ?k4op ?k5op ?_))
                try (case k1op =>
                  intro j u hj
                  match j, hj with
                  | 0, hj => (simp at hj; subst hj; simp [Addr.add]))
                case k2op => first | rfl | (intro u hu; simp at hu; subst hu; rfl)
                case k3op => unfold maxLen; (try simp); (try omega)
                case k4op => (try simp); (try omega)
                case k5op => have := HZ.out.base.below.size; (try simp); (try omega)
                intro v5 w5 hown hgrow _
                have HS5 := Lib.hid (HZ.out.append hgrow hown)
                clear hown hgrow x1 zq hii hz0 hz1 hz2 HZ
                go_wp2_with fail
                go_roundw
                case rel => exact ⟨i + 1, by rw [HJ.out], by rw [HDN.out], by omega, by omega, by rw [HADD.out]; exact HS5.out⟩
                case measure => simp [intOf]; omega
            · have HADD := Lib.hid (HGS.out hk)
              have HDN := Lib.hid (show (if 0 < c then sumF L false (i + 1) - s0 else 0) = DN by rw [HSK.out hk, ← HDD.out])
              have hk2 : (K != 1) = true := by simpa using hk
              clear hk HDD HGS HGA HSK HSU
              go_wp2_with fail
              go_roundw
              case rel => exact ⟨i + 1, by rw [HJ.out], by rw [HDN.out], by omega, by omega, by rw [HADD.out]; exact HO.out.under ((Below.refl _ _).alloc (Nat.le_refl _) _)⟩
              case measure => simp [intOf]; omega
          · obtain rfl : z = i := by omega
            have HE2 := Lib.hid hDN
            clear hDN hlt2 hiz hai
            go_wp2_with fail
            go_ret2
            exact ⟨_, rfl, by rw [HR2.out]; exact HO.out.row.mono (Nat.le_succ _), HO.out.base.below⟩
      · obtain rfl : SG = -1 := HSG.out
        clear HL HSG
        go_wp2_with fail
        go_loopw [17, 18, 129] (fun v dv jv wr => ∃ (i : Nat), jv = .int .i64 ((i - a : Nat) : Int) ∧ dv = .int .i64 (if 0 < c then sumF L true i - s0 else 0) ∧ a ≤ i ∧ i ≤ z ∧ FlR w a z N0 S0 R0 X v (glueF L true d c s0 a (i - a)) wr) (fun _ _ jv _ => z - a - (intOf jv).toNat)
        case atStart => exact ⟨a, by simp, by rw [HS0.out]; simp, Nat.le_refl _, by omega, by rw [Nat.sub_self]; exact ⟨HO.out, RowL.nil _ _ _ _⟩⟩
        case round =>
          obtain ⟨i, rfl, rfl, hai, hiz, hO⟩ := hrel
          replace HO := Lib.hid hO
          obtain ⟨DN, hDN⟩ : ∃ y, y = (if 0 < c then sumF L true i - s0 else 0) := ⟨_, rfl⟩
          rw [← hDN]
          by_cases hlt2 : i < z
          · obtain ⟨j, hj⟩ : ∃ j, j = i - a := ⟨_, rfl⟩
            have hji : i = a + j := by omega
            have hjl : j < z - a := by omega
            have hj1 : ((i + 1 - a : Nat) : Int) = (j : Int) + 1 := by omega
            have HJ := Lib.hid hj1
            have hok := HOK.out i (by omega)
            have hsk := sumF_skip (less := true) HOK.out (i := i) (by omega)
            have hsu := sumF_succ (L := L) (less := true) i
            have hpb := partB_bd (less := true) HOK.out (i := i) (by omega)
            have hsb := sumF_bd (less := true) HNB.out HOK.out hai (by omega)
            have hsb1 := sumF_bd (less := true) HNB.out HOK.out (show a ≤ i + 1 by omega) (by omega)
            have hgs := glueF_skip' (L := L) (less := true) (d := d) (c := c) (s0 := s0) hai
            have hga := glueF_add' (L := L) (less := true) (d := d) (c := c) (s0 := s0) hai
            have hgl := glueF_len L true d c s0 a (i - a)
            rw [← HS0.out] at hsb hsb1
            have b4 := hok.width
            simp only [partB] at hsu hpb
            simp only [entF, shareF] at hga
            obtain ⟨b', off', hbo, hcell⟩ := HPS.out.below (Nat.le_refl _) (HO.out.base).below (by omega)
            obtain ⟨rfl, rfl⟩ : b = b' ∧ off = off' := by injection hbo with h; injection h with h1 h2; exact ⟨h1, h2⟩
            have ea : off + i * 6 = off + a * 6 + j * 6 := by omega
            have d0 : wr.cell? ⟨b, off + i * 6 + 0, none⟩ = some ((L i).V 0) := hcell i (by omega) 0 (by omega)
            have d1 : wr.cell? ⟨b, off + i * 6 + 1, none⟩ = some ((L i).V 1) := hcell i (by omega) 1 (by omega)
            have d2 : wr.cell? ⟨b, off + i * 6 + 2, none⟩ = some ((L i).V 2) := hcell i (by omega) 2 (by omega)
            have d3 : wr.cell? ⟨b, off + i * 6 + 3, none⟩ = some ((L i).V 3) := hcell i (by omega) 3 (by omega)
            have d4 : wr.cell? ⟨b, off + i * 6 + 4, none⟩ = some ((L i).V 4) := hcell i (by omega) 4 (by omega)
            have d5 : wr.cell? ⟨b, off + i * 6 + 5, none⟩ = some ((L i).V 5) := hcell i (by omega) 5 (by omega)
            rw [ea] at d0 d1 d2 d3 d4 d5
            rw [hsu] at hga
            have HIDX := Lib.hid (show True from trivial)
            obtain ⟨p, hp⟩ : ∃ p, p = L i := ⟨_, rfl⟩
            rw [← hp] at d0 d1 d2 d3 d4 d5 hsk hsu hpb hgs hga b4
            obtain ⟨SI, hSI⟩ : ∃ y, y = sumF L true i := ⟨_, rfl⟩
            rw [← hSI] at hsk hsu hsb hDN hga
            obtain ⟨K, Wi, St, Rs, C, F⟩ := p
            simp only [Part.V] at d0 d1 d2 d3 d4 d5
            simp only at hsk hsu hpb hgs hga b4
            rw [Nat.add_zero] at d0
            have zb := lt_of_cell d0
            simp only at zb
            rw [← hj]
            obtain ⟨xs, hxs⟩ : ∃ y, y = glueF L true d c s0 a (i - a) := ⟨_, rfl⟩
            rw [← hxs] at hgs hga hgl HO
            have HSU := Lib.hid hsu
            have HDD := Lib.hid hDN
            have HGS := Lib.hid hgs
            have HGA := Lib.hid hga
            have HSK := Lib.hid hsk
            clear hok hcell hbo ea hO hj hji hj1 hp hsk hsu hgs hga hDN hSI hxs
            by_cases hk : K = 1
            · subst hk
              replace HGA := Lib.hid (HGA.out rfl)
              clear HGS HSK
              by_cases hc : 0 < c
              · have hd := (HDD.out).trans (if_pos hc)
                rw [← hd] at hsb HGA
                have hpp : SI + Rs - s0 = DN + Rs := by omega
                have hs2 := HSU.out
                simp at hs2 hpb HGA
                rw [hs2, hpp] at hsb1
                rw [hpp] at HGA
                obtain ⟨⟨u1, u2⟩, u3, u4, u5, u6⟩ := share_num HDB.out hc hsb hpb.1 hsb1.2
                have HDN := Lib.hid (show (if 0 < c then sumF L true (i + 1) - s0 else 0) = DN + Rs by rw [if_pos hc, hs2, hpp])
                obtain ⟨SH, hSH⟩ : ∃ y, y = d * (DN + Rs) / c - d * DN / c := ⟨_, rfl⟩
                have bSH : -1000000000000000000 ≤ SH ∧ SH ≤ 1000000000000000000 := by omega
                have HADD := Lib.hid (show glueF L true d c s0 a (i + 1 - a) = xs ++ [Wi + -SH] by have h := HGA.out; rw [← hSH] at h; first | exact h | (rw [h, Int.sub_eq_add_neg]))
                have f1 : IntKind.i64.wrap (DN + Rs) = DN + Rs := IntWalk.i64_in _ ⟨by omega, by omega⟩
                have f2 : IntKind.i64.wrap (d * (DN + Rs)) = d * (DN + Rs) := IntWalk.i64_in _ ⟨by omega, by omega⟩
                have f3 : IntKind.i64.wrap (d * DN) = d * DN := IntWalk.i64_in _ ⟨by omega, by omega⟩
                have f4 : IntKind.i64.wrap (d * (DN + Rs) / c) = d * (DN + Rs) / c := IntWalk.i64_in _ ⟨by omega, by omega⟩
                have f5 : IntKind.i64.wrap (d * DN / c) = d * DN / c := IntWalk.i64_in _ ⟨by omega, by omega⟩
                have f6 : IntKind.i64.wrap (d * (DN + Rs) / c - d * DN / c) = SH := by rw [← hSH]; exact IntWalk.i64_in _ ⟨by omega, by omega⟩
                have hcn : ¬ c = 0 := by omega
                have HU := Lib.hid (show _ ∧ _ ∧ _ ∧ _ ∧ _ ∧ _ ∧ _ ∧ _ from ⟨u1, u2, f1, f2, f3, f4, f5, f6⟩)
                clear hSH hs2 hpp HDD HGA HSU hd u1 u2 u3 u4 u5 u6 f1 f2 f3 f4 f5 f6 hsb1
                go_upto_region 33 with fail
                obtain ⟨w3, hw3⟩ : ∃ w3, w3 = wr.alloc (Obj.cells #[.int .i64 1, .int .i64 Wi, .int .i64 St, .int .i64 Rs, .int .i64 C, .bool F] 108) := ⟨_, rfl⟩
                rw [← hw3]
                have q3 : Blk w3 wr.heap.size #[.int .i64 1, .int .i64 Wi, .int .i64 St, .int .i64 Rs, .int .i64 C, .bool F] 108 := by rw [hw3]; exact Blk.new _ _ _
                have HS3 := Lib.hid (HO.out.under (w' := w3) (by rw [hw3]; exact (Below.refl _ _).alloc (Nat.le_refl _) _))
                obtain ⟨q, hq⟩ : ∃ q, q = wr.heap.size := ⟨_, rfl⟩
                rw [← hq] at q3 ⊢
                clear hw3 hq HO d0 d1 d2 d3 d4 d5 zb
                obtain ⟨u1, u2, f1, f2, f3, f4, f5, f6⟩ := HU.out
                go_quiet (fail)
                clear u1 u2 f1 f2 f3 f4 f5 f6
                go_upto_region 35 with fail
                obtain ⟨wz, hwz⟩ : ∃ wz, wz = w3.drewN nq := ⟨_, rfl⟩
                rw [← hwz]
                have qz : Blk wz q #[.int .i64 1, .int .i64 Wi, .int .i64 St, .int .i64 Rs, .int .i64 C, .bool F] 108 := by rw [hwz]; exact q3.drewN _
                have hSz := HS3.out.under (w' := wz) (by rw [hwz]; exact below_drewN (Below.refl _ _) _)
                have HZ := Lib.hid hSz
                clear hwz q3 HS3 hSz
                have x1 := qz.cell (i := 1) rfl
                have zq := qz.lt
                clear qz
                obtain ⟨ii, hii, hz0, hz1, hz2⟩ := HI.out
                obtain ⟨av, cv, hv, hxc, hcm⟩ := RowL.slice HZ.out.row
                have HCV := Lib.hid hcm
                subst hv
                clear hxc hcm
                go_wp2_with (at_builtin; go_loud (refine wpList_append_own _ rfl _ _ 50 rfl (w.heap.size + 1) 3 ii _ 1 8 Try.underlying50 hii hz0 hz1 hz2 rfl (by decide) _ _ _ rfl (RowL.alloc HZ.out.row _) ⟨wz.heap.size, 0, none⟩ 1 1 [.int .i64 (Wi + -SH)] rfl rfl ?k1q ?k2q ?k3q ?k4q ?k5q ?_))
                try (case k1q =>
                  intro j u hj
                  match j, hj with
                  | 0, hj => (simp at hj; subst hj; simp [Addr.add]))
                case k2q => first | rfl | (intro u hu; simp at hu; subst hu; rfl)
                case k3q => unfold maxLen; (try simp); (try omega)
                case k4q => (try simp); (try omega)
                case k5q => have := HZ.out.base.below.size; (try simp); (try omega)
                intro v5 w5 hown hgrow _
                have HS5 := Lib.hid (HZ.out.append hgrow hown)
                clear hown hgrow x1 zq hii hz0 hz1 hz2 HZ
                go_wp2_with fail
                go_roundw
                case rel => exact ⟨i + 1, by rw [HJ.out], by rw [HDN.out], by omega, by omega, by rw [HADD.out]; exact HS5.out⟩
                case measure => simp [intOf]; omega
              · have HDN := Lib.hid (show (if 0 < c then sumF L true (i + 1) - s0 else 0) = DN by rw [HDD.out, if_neg hc, if_neg hc])
                have h0 : d * (SI + Rs - s0) / c - d * (SI - s0) / c = 0 := by
                  have := HCD.out
                  obtain h | h : d = 0 ∨ c = 0 := by omega
                  · subst h; simp
                  · subst h; simp
                have h1 := HGA.out
                simp at h1
                have h2 := HSU.out
                simp at h2
                have HADD := Lib.hid (show glueF L true d c s0 a (i + 1 - a) = xs ++ [Wi] by rw [h1, h0]; simp)
                clear h0 h1 h2 HDD HGA HSU
                go_upto_region 35 with fail
                obtain ⟨w3, hw3⟩ : ∃ w3, w3 = wr.alloc (Obj.cells #[.int .i64 1, .int .i64 Wi, .int .i64 St, .int .i64 Rs, .int .i64 C, .bool F] 108) := ⟨_, rfl⟩
                rw [← hw3]
                have q3 : Blk w3 wr.heap.size #[.int .i64 1, .int .i64 Wi, .int .i64 St, .int .i64 Rs, .int .i64 C, .bool F] 108 := by rw [hw3]; exact Blk.new _ _ _
                have HS3 := Lib.hid (HO.out.under (w' := w3) (by rw [hw3]; exact (Below.refl _ _).alloc (Nat.le_refl _) _))
                obtain ⟨q, hq⟩ : ∃ q, q = wr.heap.size := ⟨_, rfl⟩
                rw [← hq] at q3 ⊢
                clear hw3 hq HO d0 d1 d2 d3 d4 d5 zb
                go_upto_region 35 with fail
                obtain ⟨wz, hwz⟩ : ∃ wz, wz = w3 := ⟨_, rfl⟩
                rw [← hwz]
                have qz : Blk wz q #[.int .i64 1, .int .i64 Wi, .int .i64 St, .int .i64 Rs, .int .i64 C, .bool F] 108 := by rw [hwz]; exact q3
                have hSz := HS3.out.under (w' := wz) (by rw [hwz]; exact Below.refl _ _)
                have HZ := Lib.hid hSz
                clear hwz q3 HS3 hSz
                have x1 := qz.cell (i := 1) rfl
                have zq := qz.lt
                clear qz
                obtain ⟨ii, hii, hz0, hz1, hz2⟩ := HI.out
                obtain ⟨av, cv, hv, hxc, hcm⟩ := RowL.slice HZ.out.row
                have HCV := Lib.hid hcm
                subst hv
                clear hxc hcm
                go_wp2_with (at_builtin; go_loud (refine wpList_append_own _ rfl _ _ 50 rfl (w.heap.size + 1) 3 ii _ 1 8 Try.underlying50 hii hz0 hz1 hz2 rfl (by decide) _ _ _ rfl (RowL.alloc HZ.out.row _) ⟨wz.heap.size, 0, none⟩ 1 1 [.int .i64 (Wi)] rfl rfl ?k1oq ?k2oq ?k3oq ?k4oq ?k5oq ?_))
                try (case k1oq =>
                  intro j u hj
                  match j, hj with
                  | 0, hj => (simp at hj; subst hj; simp [Addr.add]))
                case k2oq => first | rfl | (intro u hu; simp at hu; subst hu; rfl)
                case k3oq => unfold maxLen; (try simp); (try omega)
                case k4oq => (try simp); (try omega)
                case k5oq => have := HZ.out.base.below.size; (try simp); (try omega)
                intro v5 w5 hown hgrow _
                have HS5 := Lib.hid (HZ.out.append hgrow hown)
                clear hown hgrow x1 zq hii hz0 hz1 hz2 HZ
                go_wp2_with fail
                go_roundw
                case rel => exact ⟨i + 1, by rw [HJ.out], by rw [HDN.out], by omega, by omega, by rw [HADD.out]; exact HS5.out⟩
                case measure => simp [intOf]; omega
            · have HADD := Lib.hid (HGS.out hk)
              have HDN := Lib.hid (show (if 0 < c then sumF L true (i + 1) - s0 else 0) = DN by rw [HSK.out hk, ← HDD.out])
              have hk2 : (K != 1) = true := by simpa using hk
              clear hk HDD HGS HGA HSK HSU
              go_wp2_with fail
              go_roundw
              case rel => exact ⟨i + 1, by rw [HJ.out], by rw [HDN.out], by omega, by omega, by rw [HADD.out]; exact HO.out.under ((Below.refl _ _).alloc (Nat.le_refl _) _)⟩
              case measure => simp [intOf]; omega
          · obtain rfl : z = i := by omega
            have HE2 := Lib.hid hDN
            clear hDN hlt2 hiz hai
            go_wp2_with fail
            go_ret2
            exact ⟨_, rfl, by rw [HR2.out]; exact HO.out.row.mono (Nat.le_succ _), HO.out.base.below⟩
end Go.Proofs.Ytnigebnibikolaa.LN
