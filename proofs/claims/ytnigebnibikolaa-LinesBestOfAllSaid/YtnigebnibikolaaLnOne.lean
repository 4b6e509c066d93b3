

/-
  The reference's OneLine.
-/
import Derived.Test.YtnigebnibikolaaLnRefB
namespace Go.Proofs.Ytnigebnibikolaa.LN
open Go.RowKit Go.Law Go.Law.Ln
set_option linter.unusedVariables false
set_option linter.unusedSimpArgs false
set_option maxRecDepth 100000
/-- while a line is added up -/
structure OneS (w : World) (x a z : Nat) (N S R : Int) (aW : Option Addr) (nw cW : Nat) (D : Int) (wr : World) : Prop where
  below : Below w.heap.size w wr
  line : Blk wr x #[.int .i64 a, .int .i64 z, .int .i64 N, .int .i64 S, .int .i64 R, .int .i64 0] 74
  res : Blk wr (w.heap.size + 1) #[.int .i64 0, .int .i64 0, .int .i64 0, .int .i64 0, .int .i64 0, .int .i64 0] 74
  shape : Blk wr w.heap.size #[.slice aW nw cW, .int .i64 D] 60
  big : w.heap.size + 1 < x
theorem OneS.put {w : World} {x a z : Nat} {N S R N' S' R' : Int} {aW : Option Addr} {nw cW : Nat} {D : Int} {wr : World} (h : OneS w x a z N S R aW nw cW D wr) (o : Obj) :
    OneS w x a z N' S' R' aW nw cW D ((((wr.setCell ⟨x, 2, none⟩ (.int .i64 N')).setCell ⟨x, 3, none⟩ (.int .i64 S')).setCell ⟨x, 4, none⟩ (.int .i64 R')).alloc o) := by
  have hb := h.big
  have hs := h.below.size
  refine ⟨(((h.below.setCell (p := ⟨x, 2, none⟩) (show w.heap.size ≤ x by omega) _).setCell (p := ⟨x, 3, none⟩) (show w.heap.size ≤ x by omega) _).setCell (p := ⟨x, 4, none⟩) (show w.heap.size ≤ x by omega) _).alloc (by simpa using hs) _, ?_, ?_, ?_, hb⟩
  · have := (((h.line.set 2 (.int .i64 N')).set 3 (.int .i64 S')).set 4 (.int .i64 R'))
    simp only [List.setIfInBounds_toArray, List.set_cons_zero, List.set_cons_succ] at this
    exact this.alloc _
  · have hne : w.heap.size + 1 ≠ x := by omega
    exact ((((h.res.other (a := ⟨x, 2, none⟩) hne _).other (a := ⟨x, 3, none⟩) hne _).other (a := ⟨x, 4, none⟩) hne _).alloc _)
  · have hne : w.heap.size ≠ x := by omega
    exact ((((h.shape.other (a := ⟨x, 2, none⟩) hne _).other (a := ⟨x, 3, none⟩) hne _).other (a := ⟨x, 4, none⟩) hne _).alloc _)
theorem OneS.put2 {w : World} {x a z : Nat} {N S R S' R' : Int} {aW : Option Addr} {nw cW : Nat} {D : Int} {wr : World} (h : OneS w x a z N S R aW nw cW D wr) (o : Obj) :
    OneS w x a z N S' R' aW nw cW D (((wr.setCell ⟨x, 3, none⟩ (.int .i64 S')).setCell ⟨x, 4, none⟩ (.int .i64 R')).alloc o) := by
  have hb := h.big
  have hs := h.below.size
  refine ⟨((h.below.setCell (p := ⟨x, 3, none⟩) (show w.heap.size ≤ x by omega) _).setCell (p := ⟨x, 4, none⟩) (show w.heap.size ≤ x by omega) _).alloc (by simpa using hs) _, ?_, ?_, ?_, hb⟩
  · have := ((h.line.set 3 (.int .i64 S')).set 4 (.int .i64 R'))
    simp only [List.setIfInBounds_toArray, List.set_cons_zero, List.set_cons_succ] at this
    exact this.alloc _
  · have hne : w.heap.size + 1 ≠ x := by omega
    exact (((h.res.other (a := ⟨x, 3, none⟩) hne _).other (a := ⟨x, 4, none⟩) hne _).alloc _)
  · have hne : w.heap.size ≠ x := by omega
    exact (((h.shape.other (a := ⟨x, 3, none⟩) hne _).other (a := ⟨x, 4, none⟩) hne _).alloc _)
theorem OneS.drew {w : World} {x a z : Nat} {N S R : Int} {aW : Option Addr} {nw cW : Nat} {D : Int} {wr : World} (h : OneS w x a z N S R aW nw cW D wr) : OneS w x a z N S R aW nw cW D wr.drew :=
  ⟨h.below.drew, h.line.drew, h.res.drew, h.shape.drew, h.big⟩
theorem OneS.start (w : World) (a z : Nat) (aW : Option Addr) (nw cW : Nat) (D : Int) :
    OneS w (w.heap.size + 1 + 1) a z 0 0 0 aW nw cW D (((w.alloc (Obj.cells #[.slice aW nw cW, .int .i64 D] 60)).alloc (Obj.cells #[.int .i64 0, .int .i64 0, .int .i64 0, .int .i64 0, .int .i64 0, .int .i64 0] 74)).alloc (Obj.cells #[.int .i64 a, .int .i64 z, .int .i64 0, .int .i64 0, .int .i64 0, .int .i64 0] 74)) := by
  have h1 := Blk.new w #[.slice aW nw cW, .int .i64 D] 60
  have h2 := Blk.new (w.alloc (Obj.cells #[.slice aW nw cW, .int .i64 D] 60)) #[.int .i64 0, .int .i64 0, .int .i64 0, .int .i64 0, .int .i64 0, .int .i64 0] 74
  have h3 := Blk.new ((w.alloc (Obj.cells #[.slice aW nw cW, .int .i64 D] 60)).alloc (Obj.cells #[.int .i64 0, .int .i64 0, .int .i64 0, .int .i64 0, .int .i64 0, .int .i64 0] 74)) #[.int .i64 a, .int .i64 z, .int .i64 0, .int .i64 0, .int .i64 0, .int .i64 0] 74
  simp only [World.size_alloc] at h2 h3
  exact ⟨(((Below.refl _ _).alloc (Nat.le_refl _) _).alloc (by simp) _).alloc (by simp; omega) _, h3, h2.alloc _, (h1.alloc _).alloc _, by omega⟩
set_option maxHeartbeats 8000000 in
theorem oneLine_any (n : Nat) (L : Nat → Part) (nw : Nat) (W : Nat → Int) (D : Int) (aP aW : Option Addr) (cP cW a z num : Nat) (w : World) (mP : CellsF w aP n 6 (fun i => (L i).V)) (mW : IntsF w aW nw W) (hn : n ≤ 8000) (hcP : n ≤ cP) (hcM : cP ≤ 1000000000000000) (ha : a ≤ z) (hz : z ≤ n) (hok : ∀ i, i < n → (L i).Ok) (hnw : 1 ≤ nw ∧ nw ≤ 1000) (hnum : num ≤ 100000) :
    Calls Try.prog 68 #[.slice aP n cP, .agg #[.slice aW nw cW, .int .i64 D], .int .i64 a, .int .i64 z, .int .i64 num] w fun e w' => e = .returned (lineV (lineF n L nw W a z num)) ∧ Below w.heap.size w w' := by
  have HPS := Lib.hid mP
  have HW := Lib.hid mW
  have HOK := Lib.hid hok
  have HV := Lib.hid (show lineV (lineF n L nw W a z num) = .agg #[.int .i64 a, .int .i64 z, .int .i64 (wdF L z - wdF L a + addF n L z), .int .i64 (grF L z - grF L a), .int .i64 (ylF L z - ylF L a), .int .i64 (W (min num (nw - 1)))] from rfl)
  rw [HV.out]
  obtain ⟨N0, hN0⟩ : ∃ v, v = wdF L z - wdF L a + addF n L z := ⟨_, rfl⟩
  obtain ⟨G0, hG0⟩ : ∃ v, v = grF L z - grF L a := ⟨_, rfl⟩
  obtain ⟨Y0, hY0⟩ : ∃ v, v = ylF L z - ylF L a := ⟨_, rfl⟩
  obtain ⟨W0, hW0⟩ : ∃ v, v = W (min num (nw - 1)) := ⟨_, rfl⟩
  rw [← hN0, ← hG0, ← hY0, ← hW0]
  have HE1 := Lib.hid hN0
  have HE2 := Lib.hid hG0
  have HE3 := Lib.hid hY0
  have HE4 := Lib.hid hW0
  clear mP mW hok HV hN0 hG0 hY0 hW0
  by_cases haz : a < z
  · obtain ⟨b, off, rfl, hcl⟩ := HPS.out (by omega)
    clear hcl
    have hlt : a < cP := by omega
    have e1 : (a : Int) ≤ (z : Int) := by omega
    have e2 : (z : Int) ≤ (cP : Int) := by omega
    have hst := OneS.start w a z aW nw cW D
    go_enter Try.func68, Try.ntmps68
    go_wp2_with fail
    obtain ⟨w1, hw1⟩ : ∃ w1, w1 = ((w.alloc (Obj.cells #[.slice aW nw cW, .int .i64 D] 60)).alloc (Obj.cells #[.int .i64 0, .int .i64 0, .int .i64 0, .int .i64 0, .int .i64 0, .int .i64 0] 74)).alloc (Obj.cells #[.int .i64 a, .int .i64 z, .int .i64 0, .int .i64 0, .int .i64 0, .int .i64 0] 74) := ⟨_, rfl⟩
    rw [← hw1] at hst ⊢
    obtain ⟨x, hx⟩ : ∃ x, x = w.heap.size + 1 + 1 := ⟨_, rfl⟩
    rw [← hx] at hst ⊢
    clear hw1 hx
    go_loopw [22] (fun jv wr => ∃ (i : Nat) (N S R : Int), jv = .int .i64 ((i - a : Nat) : Int) ∧ a ≤ i ∧ i ≤ z ∧ N = wdF L i - wdF L a ∧ S = grF L i - grF L a ∧ R = ylF L i - ylF L a ∧ OneS w x a z N S R aW nw cW D wr) (fun jv _ => z - a - (intOf jv).toNat)
    case atStart => exact ⟨a, 0, 0, 0, by simp, Nat.le_refl _, ha, by omega, by omega, by omega, hst⟩
    case round =>
      obtain ⟨i, N, G, Y, rfl, hai, hiz, hN, hS, hR, hO⟩ := hrel
      have HO := Lib.hid hO
      by_cases hlt2 : i < z
      · obtain ⟨j, hj⟩ : ∃ j, j = i - a := ⟨_, rfl⟩
        have hji : i = a + j := by omega
        have s1 := sums HOK.out i (by omega)
        have s0 := sums HOK.out a (by omega)
        have hm := mono HOK.out hai (by omega : i ≤ n)
        have hok := HOK.out i (by omega)
        have hN1 : N + (if (L i).kind ≠ 2 then (L i).width else 0) = wdF L (i + 1) - wdF L a := by rw [hN]; simp only [wdF]; omega
        have hS1 : G + (L i).stretch = grF L (i + 1) - grF L a := by rw [hS]; simp only [grF]; omega
        have hR1 : Y + (L i).shrink = ylF L (i + 1) - ylF L a := by rw [hR]; simp only [ylF]; omega
        have b1 : 0 ≤ N ∧ N ≤ 1000000000 := by omega
        have b2 : 0 ≤ G ∧ G ≤ 1000000000 := by omega
        have b3 : 0 ≤ Y ∧ Y ≤ 1000000000 := by omega
        have b4 := hok.width
        have b5 := hok.stretch
        have b6 := hok.shrink
        have mP := HPS.out.below (Nat.le_refl _) hO.below
        obtain ⟨b', off', hbo, hcell⟩ := mP (by omega)
        obtain ⟨rfl, rfl⟩ : b = b' ∧ off = off' := by injection hbo with h; injection h with h1 h2; exact ⟨h1, h2⟩
        have ea : off + i * 6 = off + a * 6 + j * 6 := by omega
        have d0 : wr.cell? ⟨b, off + i * 6 + 0, none⟩ = some ((L i).V 0) := hcell i (by omega) 0 (by omega)
        have d1 : wr.cell? ⟨b, off + i * 6 + 1, none⟩ = some ((L i).V 1) := hcell i (by omega) 1 (by omega)
        have d2 : wr.cell? ⟨b, off + i * 6 + 2, none⟩ = some ((L i).V 2) := hcell i (by omega) 2 (by omega)
        have d3 : wr.cell? ⟨b, off + i * 6 + 3, none⟩ = some ((L i).V 3) := hcell i (by omega) 3 (by omega)
        have d4 : wr.cell? ⟨b, off + i * 6 + 4, none⟩ = some ((L i).V 4) := hcell i (by omega) 4 (by omega)
        have d5 : wr.cell? ⟨b, off + i * 6 + 5, none⟩ = some ((L i).V 5) := hcell i (by omega) 5 (by omega)
        rw [ea] at d0 d1 d2 d3 d4 d5
        obtain ⟨p, hp⟩ : ∃ p, p = L i := ⟨_, rfl⟩
        rw [← hp] at d0 d1 d2 d3 d4 d5 hN1 hS1 hR1 b4 b5 b6
        obtain ⟨K, Wi, St, Rs, C, F⟩ := p
        simp only [Part.V] at d0 d1 d2 d3 d4 d5
        simp only at hN1 hS1 hR1 b4 b5 b6
        rw [Nat.add_zero] at d0
        have zb := lt_of_cell d0
        simp only at zb
        have HN1 := Lib.hid hN1
        have HS1 := Lib.hid hS1
        have HR1 := Lib.hid hR1
        have x2 := hO.line.cell (i := 2) rfl
        have x3 := hO.line.cell (i := 3) rfl
        have x4 := hO.line.cell (i := 4) rfl
        have fx := hO.line.frozen
        have zx := hO.line.lt
        have hjl : j < z - a := by omega
        have hj1 : ((i + 1 - a : Nat) : Int) = (j : Int) + 1 := by omega
        have HJ := Lib.hid hj1
        rw [← hj]
        clear hp hN1 hS1 hR1 hN hS hR s1 s0 hm hok hcell mP hbo ea hO hj hji hj1
        by_cases hk : K = 2
        · subst hk
          go_wp2_with fail
          go_roundw
          case rel => exact ⟨i + 1, _, _, _, by rw [HJ.out], by omega, by omega, by rw [← HN1.out]; simp, by rw [← HS1.out], by rw [← HR1.out], HO.out.put2 _⟩
          case measure => simp [intOf]; omega
        · have hk2 : (K != 2) = true := by simpa using hk
          have HK := Lib.hid hk
          clear hk
          go_wp2_with fail
          go_roundw
          case rel => exact ⟨i + 1, _, _, _, by rw [HJ.out], by omega, by omega, by rw [← HN1.out, if_pos HK.out], by rw [← HS1.out], by rw [← HR1.out], HO.out.put _⟩
          case measure => simp [intOf]; omega
      · obtain rfl : z = i := by omega
        have HNN := Lib.hid hN.symm
        have HSS := Lib.hid hS.symm
        have HRR := Lib.hid hR.symm
        have s1 := sums HOK.out z hz
        have s0 := sums HOK.out a (by omega)
        have hm := mono HOK.out hai hz
        have b1 : 0 ≤ N ∧ N ≤ 1000000000 := by omega
        clear hN hS hR hO s1 s0 hm hlt2 hiz
        have haz2 := hai
        by_cases hzn : z = n
        · have HN := Lib.hid (show N0 = N by rw [HE1.out]; unfold addF; rw [if_neg (by omega), Int.add_zero, HNN.out])
          obtain rfl : z = n := hzn
          obtain ⟨k, hk⟩ : ∃ k, k = min num (nw - 1) := ⟨_, rfl⟩
          have hkn : k < nw := by omega
          have hb3 := (HO).out.below
          obtain ⟨bW, oW, haW, hWc⟩ := HW.out (by omega)
          have hbW := lt_of_cell (hWc k hkn)
          have dW := cell_below (hWc k hkn) (Nat.le_refl _) hb3
          obtain ⟨WK, hWK⟩ : ∃ v, v = W k := ⟨_, rfl⟩
          rw [← hWK] at dW
          have HWK := Lib.hid (show W (min num (nw - 1)) = WK by rw [hWK, hk])
          have HK := Lib.hid hk
          subst haW
          have x5 := (HO).out.line.cell (i := 5) rfl
          have x0 := (HO).out.line.cell (i := 0) rfl
          have x1 := (HO).out.line.cell (i := 1) rfl
          have x2 := (HO).out.line.cell (i := 2) rfl
          have x3 := (HO).out.line.cell (i := 3) rfl
          have x4 := (HO).out.line.cell (i := 4) rfl
          have r0 := (HO).out.res.cell (i := 0) rfl
          have r1 := (HO).out.res.cell (i := 1) rfl
          have r2 := (HO).out.res.cell (i := 2) rfl
          have r3 := (HO).out.res.cell (i := 3) rfl
          have r4 := (HO).out.res.cell (i := 4) rfl
          have r5 := (HO).out.res.cell (i := 5) rfl
          have q0 := (HO).out.shape.cell (i := 0) rfl
          have fx := (HO).out.line.frozen
          have fr := (HO).out.res.frozen
          have zx := (HO).out.line.lt
          have zr := (HO).out.res.lt
          have zq := (HO).out.shape.lt
          have hbig := (HO).out.big
          simp only at hbW
          have hbx : bW ≠ x := by omega
          have hbz : bW < wr.heap.size := lt_of_cell dW
          clear hWc hWK hk hb3
          by_cases hnn : nw ≤ num
          · obtain rfl : k = nw - 1 := by have := HK.out; omega
            have g1 : (nw : Int) ≤ (num : Int) := by omega
            have g2 : (nw : Int) - 1 = ((nw - 1 : Nat) : Int) := by omega
            clear HK
            go_wp2_with fail
            have hfin := ((((((((HO).out.res.other (a := ⟨x, 5, none⟩) (show w.heap.size + 1 ≠ x by omega) (.int .i64 WK)).set 0 (.int .i64 a)).set 1 (.int .i64 z)).set 2 (.int .i64 (N))).set 3 (.int .i64 G)).set 4 (.int .i64 Y)).set 5 (.int .i64 WK))
            simp only [List.setIfInBounds_toArray, List.set_cons_zero, List.set_cons_succ] at hfin
            (try simp only [Exit.inBlock, Exit.then])
            refine bodyPost_ret (v := .agg #[.int .i64 a, .int .i64 z, .int .i64 (N), .int .i64 G, .int .i64 Y, .int .i64 WK]) ?rcpua rfl ?_
            case rcpua => exact results_cell_row rfl _ _ ((w.heap.size + 1)) 74 _ (0, 0) _ rfl hfin Try.underlying74 rfl (by kernel_rfl)
            refine ⟨?_, ?_⟩
            · rw [HN.out, HE2.out, HE3.out, HE4.out, HSS.out, HRR.out, HWK.out]
            · have hle : w.heap.size ≤ w.heap.size + 1 := Nat.le_succ _
              exact ((((((((HO).out.below.setCell (p := ⟨x, 5, none⟩) (show w.heap.size ≤ x by omega) _).setCell (p := ⟨w.heap.size + 1, 0, none⟩) hle _).setCell (p := ⟨w.heap.size + 1, 1, none⟩) hle _).setCell (p := ⟨w.heap.size + 1, 2, none⟩) hle _).setCell (p := ⟨w.heap.size + 1, 3, none⟩) hle _).setCell (p := ⟨w.heap.size + 1, 4, none⟩) hle _).setCell (p := ⟨w.heap.size + 1, 5, none⟩) hle _)
          · obtain rfl : k = num := by have := HK.out; omega
            have g1 : ¬ (nw : Int) ≤ (k : Int) := by omega
            clear HK
            go_wp2_with fail
            have hfin := ((((((((HO).out.res.other (a := ⟨x, 5, none⟩) (show w.heap.size + 1 ≠ x by omega) (.int .i64 WK)).set 0 (.int .i64 a)).set 1 (.int .i64 z)).set 2 (.int .i64 (N))).set 3 (.int .i64 G)).set 4 (.int .i64 Y)).set 5 (.int .i64 WK))
            simp only [List.setIfInBounds_toArray, List.set_cons_zero, List.set_cons_succ] at hfin
            (try simp only [Exit.inBlock, Exit.then])
            refine bodyPost_ret (v := .agg #[.int .i64 a, .int .i64 z, .int .i64 (N), .int .i64 G, .int .i64 Y, .int .i64 WK]) ?rcqua rfl ?_
            case rcqua => exact results_cell_row rfl _ _ ((w.heap.size + 1)) 74 _ (0, 0) _ rfl hfin Try.underlying74 rfl (by kernel_rfl)
            refine ⟨?_, ?_⟩
            · rw [HN.out, HE2.out, HE3.out, HE4.out, HSS.out, HRR.out, HWK.out]
            · have hle : w.heap.size ≤ w.heap.size + 1 := Nat.le_succ _
              exact ((((((((HO).out.below.setCell (p := ⟨x, 5, none⟩) (show w.heap.size ≤ x by omega) _).setCell (p := ⟨w.heap.size + 1, 0, none⟩) hle _).setCell (p := ⟨w.heap.size + 1, 1, none⟩) hle _).setCell (p := ⟨w.heap.size + 1, 2, none⟩) hle _).setCell (p := ⟨w.heap.size + 1, 3, none⟩) hle _).setCell (p := ⟨w.heap.size + 1, 4, none⟩) hle _).setCell (p := ⟨w.heap.size + 1, 5, none⟩) hle _)
        · have hltz : z < n := by omega
          have hltz2 : (z : Int) < (n : Int) := by omega
          have mP := HPS.out.below (Nat.le_refl _) HO.out.below
          obtain ⟨b2, off2, hbo, hcell⟩ := mP (by omega)
          have d0 : wr.cell? ⟨b2, off2 + z * 6 + 0, none⟩ = some ((L z).V 0) := hcell z hltz 0 (by omega)
          have d1 : wr.cell? ⟨b2, off2 + z * 6 + 1, none⟩ = some ((L z).V 1) := hcell z hltz 1 (by omega)
          have d2 : wr.cell? ⟨b2, off2 + z * 6 + 2, none⟩ = some ((L z).V 2) := hcell z hltz 2 (by omega)
          have d3 : wr.cell? ⟨b2, off2 + z * 6 + 3, none⟩ = some ((L z).V 3) := hcell z hltz 3 (by omega)
          have d4 : wr.cell? ⟨b2, off2 + z * 6 + 4, none⟩ = some ((L z).V 4) := hcell z hltz 4 (by omega)
          have d5 : wr.cell? ⟨b2, off2 + z * 6 + 5, none⟩ = some ((L z).V 5) := hcell z hltz 5 (by omega)
          clear hcell mP
          cases hbo
          obtain ⟨p, hp⟩ : ∃ p, p = L z := ⟨_, rfl⟩
          rw [← hp] at d0 d1 d2 d3 d4 d5
          have HP := Lib.hid hp
          have zb := lt_of_cell d0
          simp only at zb
          clear hp
          obtain ⟨K, Wi, S, R, C, F⟩ := p
          simp only [Part.V] at d0 d1 d2 d3 d4 d5
          rw [Nat.add_zero] at d0
          by_cases hk : K = 2
          · subst hk
            have HN := Lib.hid (show N0 = N + Wi by rw [HE1.out]; unfold addF; rw [if_pos ⟨hltz, by rw [← HP.out]⟩, HNN.out, ← HP.out])
            have hwi := (HOK.out z hltz).width
            rw [← HP.out] at hwi
            simp only at hwi
            have x2 := HO.out.line.cell (i := 2) rfl
            have fx := HO.out.line.frozen
            have zx := HO.out.line.lt
            have f1 : IntKind.i64.wrap (N + Wi) = N + Wi := IntWalk.i64_in _ ⟨by omega, by omega⟩
            clear hzn
            go_wp2_with fail
            go_still_tail 9, (by kernel_rfl)
            change wpList _ _ _ _ _ wr.drew
            obtain ⟨we, hwe⟩ : ∃ we, we = wr.drew := ⟨_, rfl⟩
            rw [← hwe]
            have hO2 : OneS w x a z N G Y aW nw cW D we := by rw [hwe]; exact HO.out.drew
            have HO2 := Lib.hid hO2
            clear hO2 hwe d0 d1 d2 d3 d4 d5 f1 zb x2 fx zx
            obtain ⟨k, hk⟩ : ∃ k, k = min num (nw - 1) := ⟨_, rfl⟩
            have hkn : k < nw := by omega
            have hb3 := (HO2).out.below
            obtain ⟨bW, oW, haW, hWc⟩ := HW.out (by omega)
            have hbW := lt_of_cell (hWc k hkn)
            have dW := cell_below (hWc k hkn) (Nat.le_refl _) hb3
            obtain ⟨WK, hWK⟩ : ∃ v, v = W k := ⟨_, rfl⟩
            rw [← hWK] at dW
            have HWK := Lib.hid (show W (min num (nw - 1)) = WK by rw [hWK, hk])
            have HK := Lib.hid hk
            subst haW
            have x5 := (HO2).out.line.cell (i := 5) rfl
            have x0 := (HO2).out.line.cell (i := 0) rfl
            have x1 := (HO2).out.line.cell (i := 1) rfl
            have x2 := (HO2).out.line.cell (i := 2) rfl
            have x3 := (HO2).out.line.cell (i := 3) rfl
            have x4 := (HO2).out.line.cell (i := 4) rfl
            have r0 := (HO2).out.res.cell (i := 0) rfl
            have r1 := (HO2).out.res.cell (i := 1) rfl
            have r2 := (HO2).out.res.cell (i := 2) rfl
            have r3 := (HO2).out.res.cell (i := 3) rfl
            have r4 := (HO2).out.res.cell (i := 4) rfl
            have r5 := (HO2).out.res.cell (i := 5) rfl
            have q0 := (HO2).out.shape.cell (i := 0) rfl
            have fx := (HO2).out.line.frozen
            have fr := (HO2).out.res.frozen
            have zx := (HO2).out.line.lt
            have zr := (HO2).out.res.lt
            have zq := (HO2).out.shape.lt
            have hbig := (HO2).out.big
            simp only at hbW
            have hbx : bW ≠ x := by omega
            have hbz : bW < we.heap.size := lt_of_cell dW
            clear hWc hWK hk hb3
            by_cases hnn : nw ≤ num
            · obtain rfl : k = nw - 1 := by have := HK.out; omega
              have g1 : (nw : Int) ≤ (num : Int) := by omega
              have g2 : (nw : Int) - 1 = ((nw - 1 : Nat) : Int) := by omega
              clear HK
              go_wp2_with fail
              have hfin := (((((((((HO2).out.res.other (a := ⟨x, 2, none⟩) (show w.heap.size + 1 ≠ x by omega) (.int .i64 (N + Wi))).other (a := ⟨x, 5, none⟩) (show w.heap.size + 1 ≠ x by omega) (.int .i64 WK)).set 0 (.int .i64 a)).set 1 (.int .i64 z)).set 2 (.int .i64 (N + Wi))).set 3 (.int .i64 G)).set 4 (.int .i64 Y)).set 5 (.int .i64 WK))
              simp only [List.setIfInBounds_toArray, List.set_cons_zero, List.set_cons_succ] at hfin
              (try simp only [Exit.inBlock, Exit.then])
              refine bodyPost_ret (v := .agg #[.int .i64 a, .int .i64 z, .int .i64 (N + Wi), .int .i64 G, .int .i64 Y, .int .i64 WK]) ?rcpva rfl ?_
              case rcpva => exact results_cell_row rfl _ _ ((w.heap.size + 1)) 74 _ (0, 0) _ rfl hfin Try.underlying74 rfl (by kernel_rfl)
              refine ⟨?_, ?_⟩
              · rw [HN.out, HE2.out, HE3.out, HE4.out, HSS.out, HRR.out, HWK.out]
              · have hle : w.heap.size ≤ w.heap.size + 1 := Nat.le_succ _
                exact (((((((((HO2).out.below.setCell (p := ⟨x, 2, none⟩) (show w.heap.size ≤ x by omega) _).setCell (p := ⟨x, 5, none⟩) (show w.heap.size ≤ x by omega) _).setCell (p := ⟨w.heap.size + 1, 0, none⟩) hle _).setCell (p := ⟨w.heap.size + 1, 1, none⟩) hle _).setCell (p := ⟨w.heap.size + 1, 2, none⟩) hle _).setCell (p := ⟨w.heap.size + 1, 3, none⟩) hle _).setCell (p := ⟨w.heap.size + 1, 4, none⟩) hle _).setCell (p := ⟨w.heap.size + 1, 5, none⟩) hle _)
            · obtain rfl : k = num := by have := HK.out; omega
              have g1 : ¬ (nw : Int) ≤ (k : Int) := by omega
              clear HK
              go_wp2_with fail
              have hfin := (((((((((HO2).out.res.other (a := ⟨x, 2, none⟩) (show w.heap.size + 1 ≠ x by omega) (.int .i64 (N + Wi))).other (a := ⟨x, 5, none⟩) (show w.heap.size + 1 ≠ x by omega) (.int .i64 WK)).set 0 (.int .i64 a)).set 1 (.int .i64 z)).set 2 (.int .i64 (N + Wi))).set 3 (.int .i64 G)).set 4 (.int .i64 Y)).set 5 (.int .i64 WK))
              simp only [List.setIfInBounds_toArray, List.set_cons_zero, List.set_cons_succ] at hfin
              (try simp only [Exit.inBlock, Exit.then])
              refine bodyPost_ret (v := .agg #[.int .i64 a, .int .i64 z, .int .i64 (N + Wi), .int .i64 G, .int .i64 Y, .int .i64 WK]) ?rcqva rfl ?_
              case rcqva => exact results_cell_row rfl _ _ ((w.heap.size + 1)) 74 _ (0, 0) _ rfl hfin Try.underlying74 rfl (by kernel_rfl)
              refine ⟨?_, ?_⟩
              · rw [HN.out, HE2.out, HE3.out, HE4.out, HSS.out, HRR.out, HWK.out]
              · have hle : w.heap.size ≤ w.heap.size + 1 := Nat.le_succ _
                exact (((((((((HO2).out.below.setCell (p := ⟨x, 2, none⟩) (show w.heap.size ≤ x by omega) _).setCell (p := ⟨x, 5, none⟩) (show w.heap.size ≤ x by omega) _).setCell (p := ⟨w.heap.size + 1, 0, none⟩) hle _).setCell (p := ⟨w.heap.size + 1, 1, none⟩) hle _).setCell (p := ⟨w.heap.size + 1, 2, none⟩) hle _).setCell (p := ⟨w.heap.size + 1, 3, none⟩) hle _).setCell (p := ⟨w.heap.size + 1, 4, none⟩) hle _).setCell (p := ⟨w.heap.size + 1, 5, none⟩) hle _)
          · have HN := Lib.hid (show N0 = N by rw [HE1.out]; unfold addF; rw [if_neg (by rw [← HP.out]; exact fun h => hk h.2), Int.add_zero, HNN.out])
            have hk2 : (K == 2) = false := by simpa using hk
            clear hk hzn
            obtain ⟨k, hk⟩ : ∃ k, k = min num (nw - 1) := ⟨_, rfl⟩
            have hkn : k < nw := by omega
            have hb3 := (HO).out.below
            obtain ⟨bW, oW, haW, hWc⟩ := HW.out (by omega)
            have hbW := lt_of_cell (hWc k hkn)
            have dW := cell_below (hWc k hkn) (Nat.le_refl _) hb3
            obtain ⟨WK, hWK⟩ : ∃ v, v = W k := ⟨_, rfl⟩
            rw [← hWK] at dW
            have HWK := Lib.hid (show W (min num (nw - 1)) = WK by rw [hWK, hk])
            have HK := Lib.hid hk
            subst haW
            have x5 := (HO).out.line.cell (i := 5) rfl
            have x0 := (HO).out.line.cell (i := 0) rfl
            have x1 := (HO).out.line.cell (i := 1) rfl
            have x2 := (HO).out.line.cell (i := 2) rfl
            have x3 := (HO).out.line.cell (i := 3) rfl
            have x4 := (HO).out.line.cell (i := 4) rfl
            have r0 := (HO).out.res.cell (i := 0) rfl
            have r1 := (HO).out.res.cell (i := 1) rfl
            have r2 := (HO).out.res.cell (i := 2) rfl
            have r3 := (HO).out.res.cell (i := 3) rfl
            have r4 := (HO).out.res.cell (i := 4) rfl
            have r5 := (HO).out.res.cell (i := 5) rfl
            have q0 := (HO).out.shape.cell (i := 0) rfl
            have fx := (HO).out.line.frozen
            have fr := (HO).out.res.frozen
            have zx := (HO).out.line.lt
            have zr := (HO).out.res.lt
            have zq := (HO).out.shape.lt
            have hbig := (HO).out.big
            simp only at hbW
            have hbx : bW ≠ x := by omega
            have hbz : bW < wr.heap.size := lt_of_cell dW
            clear hWc hWK hk hb3
            by_cases hnn : nw ≤ num
            · obtain rfl : k = nw - 1 := by have := HK.out; omega
              have g1 : (nw : Int) ≤ (num : Int) := by omega
              have g2 : (nw : Int) - 1 = ((nw - 1 : Nat) : Int) := by omega
              clear HK
              go_wp2_with fail
              have hfin := ((((((((HO).out.res.other (a := ⟨x, 5, none⟩) (show w.heap.size + 1 ≠ x by omega) (.int .i64 WK)).set 0 (.int .i64 a)).set 1 (.int .i64 z)).set 2 (.int .i64 (N))).set 3 (.int .i64 G)).set 4 (.int .i64 Y)).set 5 (.int .i64 WK))
              simp only [List.setIfInBounds_toArray, List.set_cons_zero, List.set_cons_succ] at hfin
              (try simp only [Exit.inBlock, Exit.then])
              refine bodyPost_ret (v := .agg #[.int .i64 a, .int .i64 z, .int .i64 (N), .int .i64 G, .int .i64 Y, .int .i64 WK]) ?rcpxa rfl ?_
              case rcpxa => exact results_cell_row rfl _ _ ((w.heap.size + 1)) 74 _ (0, 0) _ rfl hfin Try.underlying74 rfl (by kernel_rfl)
              refine ⟨?_, ?_⟩
              · rw [HN.out, HE2.out, HE3.out, HE4.out, HSS.out, HRR.out, HWK.out]
              · have hle : w.heap.size ≤ w.heap.size + 1 := Nat.le_succ _
                exact ((((((((HO).out.below.setCell (p := ⟨x, 5, none⟩) (show w.heap.size ≤ x by omega) _).setCell (p := ⟨w.heap.size + 1, 0, none⟩) hle _).setCell (p := ⟨w.heap.size + 1, 1, none⟩) hle _).setCell (p := ⟨w.heap.size + 1, 2, none⟩) hle _).setCell (p := ⟨w.heap.size + 1, 3, none⟩) hle _).setCell (p := ⟨w.heap.size + 1, 4, none⟩) hle _).setCell (p := ⟨w.heap.size + 1, 5, none⟩) hle _)
            · obtain rfl : k = num := by have := HK.out; omega
              have g1 : ¬ (nw : Int) ≤ (k : Int) := by omega
              clear HK
              go_wp2_with fail
              have hfin := ((((((((HO).out.res.other (a := ⟨x, 5, none⟩) (show w.heap.size + 1 ≠ x by omega) (.int .i64 WK)).set 0 (.int .i64 a)).set 1 (.int .i64 z)).set 2 (.int .i64 (N))).set 3 (.int .i64 G)).set 4 (.int .i64 Y)).set 5 (.int .i64 WK))
              simp only [List.setIfInBounds_toArray, List.set_cons_zero, List.set_cons_succ] at hfin
              (try simp only [Exit.inBlock, Exit.then])
              refine bodyPost_ret (v := .agg #[.int .i64 a, .int .i64 z, .int .i64 (N), .int .i64 G, .int .i64 Y, .int .i64 WK]) ?rcqxa rfl ?_
              case rcqxa => exact results_cell_row rfl _ _ ((w.heap.size + 1)) 74 _ (0, 0) _ rfl hfin Try.underlying74 rfl (by kernel_rfl)
              refine ⟨?_, ?_⟩
              · rw [HN.out, HE2.out, HE3.out, HE4.out, HSS.out, HRR.out, HWK.out]
              · have hle : w.heap.size ≤ w.heap.size + 1 := Nat.le_succ _
                exact ((((((((HO).out.below.setCell (p := ⟨x, 5, none⟩) (show w.heap.size ≤ x by omega) _).setCell (p := ⟨w.heap.size + 1, 0, none⟩) hle _).setCell (p := ⟨w.heap.size + 1, 1, none⟩) hle _).setCell (p := ⟨w.heap.size + 1, 2, none⟩) hle _).setCell (p := ⟨w.heap.size + 1, 3, none⟩) hle _).setCell (p := ⟨w.heap.size + 1, 4, none⟩) hle _).setCell (p := ⟨w.heap.size + 1, 5, none⟩) hle _)
  · obtain rfl : z = a := by omega
    have hst := OneS.start w z z aW nw cW D
    have HNN := Lib.hid (show wdF L z - wdF L z = 0 by omega)
    have HSS := Lib.hid (show grF L z - grF L z = 0 by omega)
    have HRR := Lib.hid (show ylF L z - ylF L z = 0 by omega)
    obtain ⟨N, hN⟩ : ∃ N : Int, N = 0 := ⟨0, rfl⟩
    obtain ⟨G, hG⟩ : ∃ G : Int, G = 0 := ⟨0, rfl⟩
    obtain ⟨Y, hY⟩ : ∃ Y : Int, Y = 0 := ⟨0, rfl⟩
    rw [← hN] at HNN
    rw [← hG] at HSS
    rw [← hY] at HRR
    have hO1 : OneS w (w.heap.size + 1 + 1) z z N G Y aW nw cW D (((w.alloc (Obj.cells #[.slice aW nw cW, .int .i64 D] 60)).alloc (Obj.cells #[.int .i64 0, .int .i64 0, .int .i64 0, .int .i64 0, .int .i64 0, .int .i64 0] 74)).alloc (Obj.cells #[.int .i64 z, .int .i64 z, .int .i64 0, .int .i64 0, .int .i64 0, .int .i64 0] 74)) := by rw [hN, hG, hY]; exact hst
    have b1 : 0 ≤ N ∧ N ≤ 1000000000 := by omega
    have HO1 := Lib.hid hO1
    have HN0 := Lib.hid hN
    have HG0 := Lib.hid hG
    have HY0 := Lib.hid hY
    clear hst hN hG hY hO1 haz
    go_enter Try.func68, Try.ntmps68
    go_wp2_with fail
    · have hzn : z = n := by omega
      obtain ⟨w1, hw1⟩ : ∃ w1, w1 = ((w.alloc (Obj.cells #[.slice aW nw cW, .int .i64 D] 60)).alloc (Obj.cells #[.int .i64 0, .int .i64 0, .int .i64 0, .int .i64 0, .int .i64 0, .int .i64 0] 74)).alloc (Obj.cells #[.int .i64 z, .int .i64 z, .int .i64 0, .int .i64 0, .int .i64 0, .int .i64 0] 74) := ⟨_, rfl⟩
      rw [← hw1] at HO1 ⊢
      obtain ⟨x, hx⟩ : ∃ x, x = w.heap.size + 1 + 1 := ⟨_, rfl⟩
      rw [← hx] at HO1 ⊢
      clear hw1 hx
      go_loopw [22] (fun jv wr => jv = .int .i64 0 ∧ OneS w x z z N G Y aW nw cW D wr) (fun jv _ => 0)
      case atStart => exact ⟨rfl, HO1.out⟩
      case round =>
        obtain ⟨rfl, hO⟩ := hrel
        have HO := Lib.hid hO
        clear hO HO1
        have HN := Lib.hid (show N0 = N by rw [HE1.out]; unfold addF; rw [if_neg (by omega), Int.add_zero, HNN.out])
        obtain rfl : z = n := hzn
        obtain ⟨k, hk⟩ : ∃ k, k = min num (nw - 1) := ⟨_, rfl⟩
        have hkn : k < nw := by omega
        have hb3 := (HO).out.below
        obtain ⟨bW, oW, haW, hWc⟩ := HW.out (by omega)
        have hbW := lt_of_cell (hWc k hkn)
        have dW := cell_below (hWc k hkn) (Nat.le_refl _) hb3
        obtain ⟨WK, hWK⟩ : ∃ v, v = W k := ⟨_, rfl⟩
        rw [← hWK] at dW
        have HWK := Lib.hid (show W (min num (nw - 1)) = WK by rw [hWK, hk])
        have HK := Lib.hid hk
        subst haW
        have x5 := (HO).out.line.cell (i := 5) rfl
        have x0 := (HO).out.line.cell (i := 0) rfl
        have x1 := (HO).out.line.cell (i := 1) rfl
        have x2 := (HO).out.line.cell (i := 2) rfl
        have x3 := (HO).out.line.cell (i := 3) rfl
        have x4 := (HO).out.line.cell (i := 4) rfl
        have r0 := (HO).out.res.cell (i := 0) rfl
        have r1 := (HO).out.res.cell (i := 1) rfl
        have r2 := (HO).out.res.cell (i := 2) rfl
        have r3 := (HO).out.res.cell (i := 3) rfl
        have r4 := (HO).out.res.cell (i := 4) rfl
        have r5 := (HO).out.res.cell (i := 5) rfl
        have q0 := (HO).out.shape.cell (i := 0) rfl
        have fx := (HO).out.line.frozen
        have fr := (HO).out.res.frozen
        have zx := (HO).out.line.lt
        have zr := (HO).out.res.lt
        have zq := (HO).out.shape.lt
        have hbig := (HO).out.big
        simp only at hbW
        have hbx : bW ≠ x := by omega
        have hbz : bW < wr.heap.size := lt_of_cell dW
        clear hWc hWK hk hb3
        by_cases hnn : nw ≤ num
        · obtain rfl : k = nw - 1 := by have := HK.out; omega
          have g1 : (nw : Int) ≤ (num : Int) := by omega
          have g2 : (nw : Int) - 1 = ((nw - 1 : Nat) : Int) := by omega
          clear HK
          go_wp2_with fail
          have hfin := ((((((((HO).out.res.other (a := ⟨x, 5, none⟩) (show w.heap.size + 1 ≠ x by omega) (.int .i64 WK)).set 0 (.int .i64 z)).set 1 (.int .i64 z)).set 2 (.int .i64 (N))).set 3 (.int .i64 G)).set 4 (.int .i64 Y)).set 5 (.int .i64 WK))
          simp only [List.setIfInBounds_toArray, List.set_cons_zero, List.set_cons_succ] at hfin
          (try simp only [Exit.inBlock, Exit.then])
          refine bodyPost_ret (v := .agg #[.int .i64 z, .int .i64 z, .int .i64 (N), .int .i64 G, .int .i64 Y, .int .i64 WK]) ?rcpum rfl ?_
          case rcpum => exact results_cell_row rfl _ _ ((w.heap.size + 1)) 74 _ (0, 0) _ rfl hfin Try.underlying74 rfl (by kernel_rfl)
          refine ⟨?_, ?_⟩
          · rw [HN.out, HE2.out, HE3.out, HE4.out, HSS.out, HRR.out, HWK.out]
          · have hle : w.heap.size ≤ w.heap.size + 1 := Nat.le_succ _
            exact ((((((((HO).out.below.setCell (p := ⟨x, 5, none⟩) (show w.heap.size ≤ x by omega) _).setCell (p := ⟨w.heap.size + 1, 0, none⟩) hle _).setCell (p := ⟨w.heap.size + 1, 1, none⟩) hle _).setCell (p := ⟨w.heap.size + 1, 2, none⟩) hle _).setCell (p := ⟨w.heap.size + 1, 3, none⟩) hle _).setCell (p := ⟨w.heap.size + 1, 4, none⟩) hle _).setCell (p := ⟨w.heap.size + 1, 5, none⟩) hle _)
        · obtain rfl : k = num := by have := HK.out; omega
          have g1 : ¬ (nw : Int) ≤ (k : Int) := by omega
          clear HK
          go_wp2_with fail
          have hfin := ((((((((HO).out.res.other (a := ⟨x, 5, none⟩) (show w.heap.size + 1 ≠ x by omega) (.int .i64 WK)).set 0 (.int .i64 z)).set 1 (.int .i64 z)).set 2 (.int .i64 (N))).set 3 (.int .i64 G)).set 4 (.int .i64 Y)).set 5 (.int .i64 WK))
          simp only [List.setIfInBounds_toArray, List.set_cons_zero, List.set_cons_succ] at hfin
          (try simp only [Exit.inBlock, Exit.then])
          refine bodyPost_ret (v := .agg #[.int .i64 z, .int .i64 z, .int .i64 (N), .int .i64 G, .int .i64 Y, .int .i64 WK]) ?rcqum rfl ?_
          case rcqum => exact results_cell_row rfl _ _ ((w.heap.size + 1)) 74 _ (0, 0) _ rfl hfin Try.underlying74 rfl (by kernel_rfl)
          refine ⟨?_, ?_⟩
          · rw [HN.out, HE2.out, HE3.out, HE4.out, HSS.out, HRR.out, HWK.out]
          · have hle : w.heap.size ≤ w.heap.size + 1 := Nat.le_succ _
            exact ((((((((HO).out.below.setCell (p := ⟨x, 5, none⟩) (show w.heap.size ≤ x by omega) _).setCell (p := ⟨w.heap.size + 1, 0, none⟩) hle _).setCell (p := ⟨w.heap.size + 1, 1, none⟩) hle _).setCell (p := ⟨w.heap.size + 1, 2, none⟩) hle _).setCell (p := ⟨w.heap.size + 1, 3, none⟩) hle _).setCell (p := ⟨w.heap.size + 1, 4, none⟩) hle _).setCell (p := ⟨w.heap.size + 1, 5, none⟩) hle _)
    · obtain ⟨w1, hw1⟩ : ∃ w1, w1 = ((w.alloc (Obj.cells #[.slice aW nw cW, .int .i64 D] 60)).alloc (Obj.cells #[.int .i64 0, .int .i64 0, .int .i64 0, .int .i64 0, .int .i64 0, .int .i64 0] 74)).alloc (Obj.cells #[.int .i64 z, .int .i64 z, .int .i64 0, .int .i64 0, .int .i64 0, .int .i64 0] 74) := ⟨_, rfl⟩
      rw [← hw1] at HO1 ⊢
      obtain ⟨x, hx⟩ : ∃ x, x = w.heap.size + 1 + 1 := ⟨_, rfl⟩
      rw [← hx] at HO1 ⊢
      clear hw1 hx
      go_loopw [22] (fun jv wr => jv = .int .i64 0 ∧ OneS w x z z N G Y aW nw cW D wr) (fun jv _ => 0)
      case atStart => exact ⟨rfl, HO1.out⟩
      case round =>
        obtain ⟨rfl, hO⟩ := hrel
        have HO := Lib.hid hO
        clear hO HO1
        by_cases hzn : z = n
        · have HN := Lib.hid (show N0 = N by rw [HE1.out]; unfold addF; rw [if_neg (by omega), Int.add_zero, HNN.out])
          obtain rfl : z = n := hzn
          obtain ⟨k, hk⟩ : ∃ k, k = min num (nw - 1) := ⟨_, rfl⟩
          have hkn : k < nw := by omega
          have hb3 := (HO).out.below
          obtain ⟨bW, oW, haW, hWc⟩ := HW.out (by omega)
          have hbW := lt_of_cell (hWc k hkn)
          have dW := cell_below (hWc k hkn) (Nat.le_refl _) hb3
          obtain ⟨WK, hWK⟩ : ∃ v, v = W k := ⟨_, rfl⟩
          rw [← hWK] at dW
          have HWK := Lib.hid (show W (min num (nw - 1)) = WK by rw [hWK, hk])
          have HK := Lib.hid hk
          subst haW
          have x5 := (HO).out.line.cell (i := 5) rfl
          have x0 := (HO).out.line.cell (i := 0) rfl
          have x1 := (HO).out.line.cell (i := 1) rfl
          have x2 := (HO).out.line.cell (i := 2) rfl
          have x3 := (HO).out.line.cell (i := 3) rfl
          have x4 := (HO).out.line.cell (i := 4) rfl
          have r0 := (HO).out.res.cell (i := 0) rfl
          have r1 := (HO).out.res.cell (i := 1) rfl
          have r2 := (HO).out.res.cell (i := 2) rfl
          have r3 := (HO).out.res.cell (i := 3) rfl
          have r4 := (HO).out.res.cell (i := 4) rfl
          have r5 := (HO).out.res.cell (i := 5) rfl
          have q0 := (HO).out.shape.cell (i := 0) rfl
          have fx := (HO).out.line.frozen
          have fr := (HO).out.res.frozen
          have zx := (HO).out.line.lt
          have zr := (HO).out.res.lt
          have zq := (HO).out.shape.lt
          have hbig := (HO).out.big
          simp only at hbW
          have hbx : bW ≠ x := by omega
          have hbz : bW < wr.heap.size := lt_of_cell dW
          clear hWc hWK hk hb3
          by_cases hnn : nw ≤ num
          · obtain rfl : k = nw - 1 := by have := HK.out; omega
            have g1 : (nw : Int) ≤ (num : Int) := by omega
            have g2 : (nw : Int) - 1 = ((nw - 1 : Nat) : Int) := by omega
            clear HK
            go_wp2_with fail
            have hfin := ((((((((HO).out.res.other (a := ⟨x, 5, none⟩) (show w.heap.size + 1 ≠ x by omega) (.int .i64 WK)).set 0 (.int .i64 z)).set 1 (.int .i64 z)).set 2 (.int .i64 (N))).set 3 (.int .i64 G)).set 4 (.int .i64 Y)).set 5 (.int .i64 WK))
            simp only [List.setIfInBounds_toArray, List.set_cons_zero, List.set_cons_succ] at hfin
            (try simp only [Exit.inBlock, Exit.then])
            refine bodyPost_ret (v := .agg #[.int .i64 z, .int .i64 z, .int .i64 (N), .int .i64 G, .int .i64 Y, .int .i64 WK]) ?rcpuk rfl ?_
            case rcpuk => exact results_cell_row rfl _ _ ((w.heap.size + 1)) 74 _ (0, 0) _ rfl hfin Try.underlying74 rfl (by kernel_rfl)
            refine ⟨?_, ?_⟩
            · rw [HN.out, HE2.out, HE3.out, HE4.out, HSS.out, HRR.out, HWK.out]
            · have hle : w.heap.size ≤ w.heap.size + 1 := Nat.le_succ _
              exact ((((((((HO).out.below.setCell (p := ⟨x, 5, none⟩) (show w.heap.size ≤ x by omega) _).setCell (p := ⟨w.heap.size + 1, 0, none⟩) hle _).setCell (p := ⟨w.heap.size + 1, 1, none⟩) hle _).setCell (p := ⟨w.heap.size + 1, 2, none⟩) hle _).setCell (p := ⟨w.heap.size + 1, 3, none⟩) hle _).setCell (p := ⟨w.heap.size + 1, 4, none⟩) hle _).setCell (p := ⟨w.heap.size + 1, 5, none⟩) hle _)
          · obtain rfl : k = num := by have := HK.out; omega
            have g1 : ¬ (nw : Int) ≤ (k : Int) := by omega
            clear HK
            go_wp2_with fail
            have hfin := ((((((((HO).out.res.other (a := ⟨x, 5, none⟩) (show w.heap.size + 1 ≠ x by omega) (.int .i64 WK)).set 0 (.int .i64 z)).set 1 (.int .i64 z)).set 2 (.int .i64 (N))).set 3 (.int .i64 G)).set 4 (.int .i64 Y)).set 5 (.int .i64 WK))
            simp only [List.setIfInBounds_toArray, List.set_cons_zero, List.set_cons_succ] at hfin
            (try simp only [Exit.inBlock, Exit.then])
            refine bodyPost_ret (v := .agg #[.int .i64 z, .int .i64 z, .int .i64 (N), .int .i64 G, .int .i64 Y, .int .i64 WK]) ?rcquk rfl ?_
            case rcquk => exact results_cell_row rfl _ _ ((w.heap.size + 1)) 74 _ (0, 0) _ rfl hfin Try.underlying74 rfl (by kernel_rfl)
            refine ⟨?_, ?_⟩
            · rw [HN.out, HE2.out, HE3.out, HE4.out, HSS.out, HRR.out, HWK.out]
            · have hle : w.heap.size ≤ w.heap.size + 1 := Nat.le_succ _
              exact ((((((((HO).out.below.setCell (p := ⟨x, 5, none⟩) (show w.heap.size ≤ x by omega) _).setCell (p := ⟨w.heap.size + 1, 0, none⟩) hle _).setCell (p := ⟨w.heap.size + 1, 1, none⟩) hle _).setCell (p := ⟨w.heap.size + 1, 2, none⟩) hle _).setCell (p := ⟨w.heap.size + 1, 3, none⟩) hle _).setCell (p := ⟨w.heap.size + 1, 4, none⟩) hle _).setCell (p := ⟨w.heap.size + 1, 5, none⟩) hle _)
        · have hltz : z < n := by omega
          have hltz2 : (z : Int) < (n : Int) := by omega
          have mP := HPS.out.below (Nat.le_refl _) HO.out.below
          obtain ⟨b2, off2, hbo, hcell⟩ := mP (by omega)
          have d0 : wr.cell? ⟨b2, off2 + z * 6 + 0, none⟩ = some ((L z).V 0) := hcell z hltz 0 (by omega)
          have d1 : wr.cell? ⟨b2, off2 + z * 6 + 1, none⟩ = some ((L z).V 1) := hcell z hltz 1 (by omega)
          have d2 : wr.cell? ⟨b2, off2 + z * 6 + 2, none⟩ = some ((L z).V 2) := hcell z hltz 2 (by omega)
          have d3 : wr.cell? ⟨b2, off2 + z * 6 + 3, none⟩ = some ((L z).V 3) := hcell z hltz 3 (by omega)
          have d4 : wr.cell? ⟨b2, off2 + z * 6 + 4, none⟩ = some ((L z).V 4) := hcell z hltz 4 (by omega)
          have d5 : wr.cell? ⟨b2, off2 + z * 6 + 5, none⟩ = some ((L z).V 5) := hcell z hltz 5 (by omega)
          clear hcell mP
          cases hbo
          obtain ⟨p, hp⟩ : ∃ p, p = L z := ⟨_, rfl⟩
          rw [← hp] at d0 d1 d2 d3 d4 d5
          have HP := Lib.hid hp
          have zb := lt_of_cell d0
          simp only at zb
          clear hp
          obtain ⟨K, Wi, S, R, C, F⟩ := p
          simp only [Part.V] at d0 d1 d2 d3 d4 d5
          rw [Nat.add_zero] at d0
          by_cases hk : K = 2
          · subst hk
            have HN := Lib.hid (show N0 = N + Wi by rw [HE1.out]; unfold addF; rw [if_pos ⟨hltz, by rw [← HP.out]⟩, HNN.out, ← HP.out])
            have hwi := (HOK.out z hltz).width
            rw [← HP.out] at hwi
            simp only at hwi
            have x2 := HO.out.line.cell (i := 2) rfl
            have fx := HO.out.line.frozen
            have zx := HO.out.line.lt
            have f1 : IntKind.i64.wrap (N + Wi) = N + Wi := IntWalk.i64_in _ ⟨by omega, by omega⟩
            clear hzn
            go_wp2_with fail
            go_still_tail 9, (by kernel_rfl)
            change wpList _ _ _ _ _ wr.drew
            obtain ⟨we, hwe⟩ : ∃ we, we = wr.drew := ⟨_, rfl⟩
            rw [← hwe]
            have hO2 : OneS w x z z N G Y aW nw cW D we := by rw [hwe]; exact HO.out.drew
            have HO2 := Lib.hid hO2
            clear hO2 hwe d0 d1 d2 d3 d4 d5 f1 zb x2 fx zx
            obtain ⟨k, hk⟩ : ∃ k, k = min num (nw - 1) := ⟨_, rfl⟩
            have hkn : k < nw := by omega
            have hb3 := (HO2).out.below
            obtain ⟨bW, oW, haW, hWc⟩ := HW.out (by omega)
            have hbW := lt_of_cell (hWc k hkn)
            have dW := cell_below (hWc k hkn) (Nat.le_refl _) hb3
            obtain ⟨WK, hWK⟩ : ∃ v, v = W k := ⟨_, rfl⟩
            rw [← hWK] at dW
            have HWK := Lib.hid (show W (min num (nw - 1)) = WK by rw [hWK, hk])
            have HK := Lib.hid hk
            subst haW
            have x5 := (HO2).out.line.cell (i := 5) rfl
            have x0 := (HO2).out.line.cell (i := 0) rfl
            have x1 := (HO2).out.line.cell (i := 1) rfl
            have x2 := (HO2).out.line.cell (i := 2) rfl
            have x3 := (HO2).out.line.cell (i := 3) rfl
            have x4 := (HO2).out.line.cell (i := 4) rfl
            have r0 := (HO2).out.res.cell (i := 0) rfl
            have r1 := (HO2).out.res.cell (i := 1) rfl
            have r2 := (HO2).out.res.cell (i := 2) rfl
            have r3 := (HO2).out.res.cell (i := 3) rfl
            have r4 := (HO2).out.res.cell (i := 4) rfl
            have r5 := (HO2).out.res.cell (i := 5) rfl
            have q0 := (HO2).out.shape.cell (i := 0) rfl
            have fx := (HO2).out.line.frozen
            have fr := (HO2).out.res.frozen
            have zx := (HO2).out.line.lt
            have zr := (HO2).out.res.lt
            have zq := (HO2).out.shape.lt
            have hbig := (HO2).out.big
            simp only at hbW
            have hbx : bW ≠ x := by omega
            have hbz : bW < we.heap.size := lt_of_cell dW
            clear hWc hWK hk hb3
            by_cases hnn : nw ≤ num
            · obtain rfl : k = nw - 1 := by have := HK.out; omega
              have g1 : (nw : Int) ≤ (num : Int) := by omega
              have g2 : (nw : Int) - 1 = ((nw - 1 : Nat) : Int) := by omega
              clear HK
              go_wp2_with fail
              have hfin := (((((((((HO2).out.res.other (a := ⟨x, 2, none⟩) (show w.heap.size + 1 ≠ x by omega) (.int .i64 (N + Wi))).other (a := ⟨x, 5, none⟩) (show w.heap.size + 1 ≠ x by omega) (.int .i64 WK)).set 0 (.int .i64 z)).set 1 (.int .i64 z)).set 2 (.int .i64 (N + Wi))).set 3 (.int .i64 G)).set 4 (.int .i64 Y)).set 5 (.int .i64 WK))
              simp only [List.setIfInBounds_toArray, List.set_cons_zero, List.set_cons_succ] at hfin
              (try simp only [Exit.inBlock, Exit.then])
              refine bodyPost_ret (v := .agg #[.int .i64 z, .int .i64 z, .int .i64 (N + Wi), .int .i64 G, .int .i64 Y, .int .i64 WK]) ?rcpvk rfl ?_
              case rcpvk => exact results_cell_row rfl _ _ ((w.heap.size + 1)) 74 _ (0, 0) _ rfl hfin Try.underlying74 rfl (by kernel_rfl)
              refine ⟨?_, ?_⟩
              · rw [HN.out, HE2.out, HE3.out, HE4.out, HSS.out, HRR.out, HWK.out]
              · have hle : w.heap.size ≤ w.heap.size + 1 := Nat.le_succ _
                exact (((((((((HO2).out.below.setCell (p := ⟨x, 2, none⟩) (show w.heap.size ≤ x by omega) _).setCell (p := ⟨x, 5, none⟩) (show w.heap.size ≤ x by omega) _).setCell (p := ⟨w.heap.size + 1, 0, none⟩) hle _).setCell (p := ⟨w.heap.size + 1, 1, none⟩) hle _).setCell (p := ⟨w.heap.size + 1, 2, none⟩) hle _).setCell (p := ⟨w.heap.size + 1, 3, none⟩) hle _).setCell (p := ⟨w.heap.size + 1, 4, none⟩) hle _).setCell (p := ⟨w.heap.size + 1, 5, none⟩) hle _)
            · obtain rfl : k = num := by have := HK.out; omega
              have g1 : ¬ (nw : Int) ≤ (k : Int) := by omega
              clear HK
              go_wp2_with fail
              have hfin := (((((((((HO2).out.res.other (a := ⟨x, 2, none⟩) (show w.heap.size + 1 ≠ x by omega) (.int .i64 (N + Wi))).other (a := ⟨x, 5, none⟩) (show w.heap.size + 1 ≠ x by omega) (.int .i64 WK)).set 0 (.int .i64 z)).set 1 (.int .i64 z)).set 2 (.int .i64 (N + Wi))).set 3 (.int .i64 G)).set 4 (.int .i64 Y)).set 5 (.int .i64 WK))
              simp only [List.setIfInBounds_toArray, List.set_cons_zero, List.set_cons_succ] at hfin
              (try simp only [Exit.inBlock, Exit.then])
              refine bodyPost_ret (v := .agg #[.int .i64 z, .int .i64 z, .int .i64 (N + Wi), .int .i64 G, .int .i64 Y, .int .i64 WK]) ?rcqvk rfl ?_
              case rcqvk => exact results_cell_row rfl _ _ ((w.heap.size + 1)) 74 _ (0, 0) _ rfl hfin Try.underlying74 rfl (by kernel_rfl)
              refine ⟨?_, ?_⟩
              · rw [HN.out, HE2.out, HE3.out, HE4.out, HSS.out, HRR.out, HWK.out]
              · have hle : w.heap.size ≤ w.heap.size + 1 := Nat.le_succ _
                exact (((((((((HO2).out.below.setCell (p := ⟨x, 2, none⟩) (show w.heap.size ≤ x by omega) _).setCell (p := ⟨x, 5, none⟩) (show w.heap.size ≤ x by omega) _).setCell (p := ⟨w.heap.size + 1, 0, none⟩) hle _).setCell (p := ⟨w.heap.size + 1, 1, none⟩) hle _).setCell (p := ⟨w.heap.size + 1, 2, none⟩) hle _).setCell (p := ⟨w.heap.size + 1, 3, none⟩) hle _).setCell (p := ⟨w.heap.size + 1, 4, none⟩) hle _).setCell (p := ⟨w.heap.size + 1, 5, none⟩) hle _)
          · have HN := Lib.hid (show N0 = N by rw [HE1.out]; unfold addF; rw [if_neg (by rw [← HP.out]; exact fun h => hk h.2), Int.add_zero, HNN.out])
            have hk2 : (K == 2) = false := by simpa using hk
            clear hk hzn
            obtain ⟨k, hk⟩ : ∃ k, k = min num (nw - 1) := ⟨_, rfl⟩
            have hkn : k < nw := by omega
            have hb3 := (HO).out.below
            obtain ⟨bW, oW, haW, hWc⟩ := HW.out (by omega)
            have hbW := lt_of_cell (hWc k hkn)
            have dW := cell_below (hWc k hkn) (Nat.le_refl _) hb3
            obtain ⟨WK, hWK⟩ : ∃ v, v = W k := ⟨_, rfl⟩
            rw [← hWK] at dW
            have HWK := Lib.hid (show W (min num (nw - 1)) = WK by rw [hWK, hk])
            have HK := Lib.hid hk
            subst haW
            have x5 := (HO).out.line.cell (i := 5) rfl
            have x0 := (HO).out.line.cell (i := 0) rfl
            have x1 := (HO).out.line.cell (i := 1) rfl
            have x2 := (HO).out.line.cell (i := 2) rfl
            have x3 := (HO).out.line.cell (i := 3) rfl
            have x4 := (HO).out.line.cell (i := 4) rfl
            have r0 := (HO).out.res.cell (i := 0) rfl
            have r1 := (HO).out.res.cell (i := 1) rfl
            have r2 := (HO).out.res.cell (i := 2) rfl
            have r3 := (HO).out.res.cell (i := 3) rfl
            have r4 := (HO).out.res.cell (i := 4) rfl
            have r5 := (HO).out.res.cell (i := 5) rfl
            have q0 := (HO).out.shape.cell (i := 0) rfl
            have fx := (HO).out.line.frozen
            have fr := (HO).out.res.frozen
            have zx := (HO).out.line.lt
            have zr := (HO).out.res.lt
            have zq := (HO).out.shape.lt
            have hbig := (HO).out.big
            simp only at hbW
            have hbx : bW ≠ x := by omega
            have hbz : bW < wr.heap.size := lt_of_cell dW
            clear hWc hWK hk hb3
            by_cases hnn : nw ≤ num
            · obtain rfl : k = nw - 1 := by have := HK.out; omega
              have g1 : (nw : Int) ≤ (num : Int) := by omega
              have g2 : (nw : Int) - 1 = ((nw - 1 : Nat) : Int) := by omega
              clear HK
              go_wp2_with fail
              have hfin := ((((((((HO).out.res.other (a := ⟨x, 5, none⟩) (show w.heap.size + 1 ≠ x by omega) (.int .i64 WK)).set 0 (.int .i64 z)).set 1 (.int .i64 z)).set 2 (.int .i64 (N))).set 3 (.int .i64 G)).set 4 (.int .i64 Y)).set 5 (.int .i64 WK))
              simp only [List.setIfInBounds_toArray, List.set_cons_zero, List.set_cons_succ] at hfin
              (try simp only [Exit.inBlock, Exit.then])
              refine bodyPost_ret (v := .agg #[.int .i64 z, .int .i64 z, .int .i64 (N), .int .i64 G, .int .i64 Y, .int .i64 WK]) ?rcpxk rfl ?_
              case rcpxk => exact results_cell_row rfl _ _ ((w.heap.size + 1)) 74 _ (0, 0) _ rfl hfin Try.underlying74 rfl (by kernel_rfl)
              refine ⟨?_, ?_⟩
              · rw [HN.out, HE2.out, HE3.out, HE4.out, HSS.out, HRR.out, HWK.out]
              · have hle : w.heap.size ≤ w.heap.size + 1 := Nat.le_succ _
                exact ((((((((HO).out.below.setCell (p := ⟨x, 5, none⟩) (show w.heap.size ≤ x by omega) _).setCell (p := ⟨w.heap.size + 1, 0, none⟩) hle _).setCell (p := ⟨w.heap.size + 1, 1, none⟩) hle _).setCell (p := ⟨w.heap.size + 1, 2, none⟩) hle _).setCell (p := ⟨w.heap.size + 1, 3, none⟩) hle _).setCell (p := ⟨w.heap.size + 1, 4, none⟩) hle _).setCell (p := ⟨w.heap.size + 1, 5, none⟩) hle _)
            · obtain rfl : k = num := by have := HK.out; omega
              have g1 : ¬ (nw : Int) ≤ (k : Int) := by omega
              clear HK
              go_wp2_with fail
              have hfin := ((((((((HO).out.res.other (a := ⟨x, 5, none⟩) (show w.heap.size + 1 ≠ x by omega) (.int .i64 WK)).set 0 (.int .i64 z)).set 1 (.int .i64 z)).set 2 (.int .i64 (N))).set 3 (.int .i64 G)).set 4 (.int .i64 Y)).set 5 (.int .i64 WK))
              simp only [List.setIfInBounds_toArray, List.set_cons_zero, List.set_cons_succ] at hfin
              (try simp only [Exit.inBlock, Exit.then])
              refine bodyPost_ret (v := .agg #[.int .i64 z, .int .i64 z, .int .i64 (N), .int .i64 G, .int .i64 Y, .int .i64 WK]) ?rcqxk rfl ?_
              case rcqxk => exact results_cell_row rfl _ _ ((w.heap.size + 1)) 74 _ (0, 0) _ rfl hfin Try.underlying74 rfl (by kernel_rfl)
              refine ⟨?_, ?_⟩
              · rw [HN.out, HE2.out, HE3.out, HE4.out, HSS.out, HRR.out, HWK.out]
              · have hle : w.heap.size ≤ w.heap.size + 1 := Nat.le_succ _
                exact ((((((((HO).out.below.setCell (p := ⟨x, 5, none⟩) (show w.heap.size ≤ x by omega) _).setCell (p := ⟨w.heap.size + 1, 0, none⟩) hle _).setCell (p := ⟨w.heap.size + 1, 1, none⟩) hle _).setCell (p := ⟨w.heap.size + 1, 2, none⟩) hle _).setCell (p := ⟨w.heap.size + 1, 3, none⟩) hle _).setCell (p := ⟨w.heap.size + 1, 4, none⟩) hle _).setCell (p := ⟨w.heap.size + 1, 5, none⟩) hle _)
end Go.Proofs.Ytnigebnibikolaa.LN
