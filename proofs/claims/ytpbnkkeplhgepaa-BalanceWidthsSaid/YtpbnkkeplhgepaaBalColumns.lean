
/-
  The reference's Columns: both folds at once.
-/
import Derived.Test.YtpbnkkeplhgepaaBalDeal
import Derived.Test.YtpbnkkeplhgepaaBalNeeds
import Derived.Outline
import Derived.IntWalk
import Derived.Deep.CutRange
import Derived.Deep.CutBlock
import Derived.RegionTactic
import Derived.BigRegion
namespace Go.Proofs.Ytpbnkkeplhgepaa.BA
open Go.RowKit Go.Law Go.Law.Bal Ref
set_option linter.unusedVariables false
set_option linter.unusedSimpArgs false
set_option maxRecDepth 100000
/-- the greatest widths -/
def mostF (E : Nat → Nat → Int) (n cols : Nat) : Nat → Int := fun j => max (needF E (wantB E) n cols j) (needF E (wantA E) n cols j)
def ColsPost (cols n : Nat) (E : Nat → Nat → Int) (w : World) (e : Ending) (w' : World) : Prop :=
  Below w.heap.size w w' ∧ ∃ g1 g2, e = .returned (.tuple #[.slice (some ⟨g1, 0, none⟩) cols cols, .slice (some ⟨g2, 0, none⟩) cols cols]) ∧ w.heap.size ≤ g1 ∧ w.heap.size ≤ g2 ∧ OwnF w' 3 g1 cols (needF E (wantA E) n cols) ∧ OwnF w' 3 g2 cols (mostF E n cols)
theorem own_aside {w w' : World} {e : TypeId} {g n R : Nat} {f : Nat → Int} (h : OwnF w e g n f) (has : Go.Law.Aside R (.slice none 0 0) w w') (hg : g ≠ R) : OwnF w' e g n f :=
  h.block (has.block g h.lt hg (by simp [Value.ownBlock]))
/-- the greater of two rows, as far as k -/
def joinF (a b : Nat → Int) (k : Nat) : Nat → Int := fun j => if j < k then max (b j) (a j) else b j
theorem joinF_zero (a b : Nat → Int) : joinF a b 0 = b := by funext j; unfold joinF; rw [if_neg (by omega)]
theorem joinF_at (a b : Nat → Int) (k : Nat) : joinF a b k k = b k := by unfold joinF; rw [if_neg (by omega)]
theorem joinF_less {a b : Nat → Int} {k : Nat} (h : b k < a k) : joinF a b (k + 1) = upd (joinF a b k) k (a k) := by
  funext j
  unfold upd joinF
  by_cases h1 : j = k
  · subst h1
    rw [if_pos (by omega), if_pos rfl]; omega
  · rw [if_neg h1]
    by_cases h2 : j < k
    · rw [if_pos h2, if_pos (by omega)]
    · rw [if_neg h2, if_neg (by omega)]
theorem joinF_same {a b : Nat → Int} {k : Nat} (h : ¬ b k < a k) : joinF a b (k + 1) = joinF a b k := by
  funext j
  unfold joinF
  by_cases h1 : j = k
  · subst h1
    rw [if_pos (by omega), if_neg (by omega)]; omega
  · by_cases h2 : j < k
    · rw [if_pos h2, if_pos (by omega)]
    · rw [if_neg h2, if_neg (by omega)]
theorem joinF_max (a b : Nat → Int) (k : Nat) : joinF a b (k + 1) = upd (joinF a b k) k (max (b k) (a k)) := by
  funext j
  unfold upd joinF
  by_cases h1 : j = k
  · subst h1
    rw [if_pos (by omega), if_pos rfl]
  · rw [if_neg h1]
    by_cases h2 : j < k
    · rw [if_pos h2, if_pos (by omega)]
    · rw [if_neg h2, if_neg (by omega)]
theorem joinF_end {E : Nat → Nat → Int} {n cols : Nat} {j : Nat} (hj : j < cols) : joinF (needF E (wantA E) n cols) (needF E (wantB E) n cols) cols j = mostF E n cols j := by
  unfold joinF mostF; rw [if_pos hj]
set_option maxHeartbeats 8000000 in
theorem columns_any (cols n : Nat) (E : Nat → Nat → Int) (a : Option Addr) (c : Nat) (w : World) (ha : StrF w a n 4 E) (hc : 1 ≤ cols ∧ cols ≤ 64) (hn : n ≤ 4000) (hE : ∀ i, i < n → cellOk (cols : Int) (E i)) :
    Calls Try.prog 42 #[.int .i64 cols, .slice a n c] w (ColsPost cols n E w) := by
  have HA := Lib.hid ha
  have HE := Lib.hid hE
  have HW := Lib.hid (show ∀ i, i < n → wantA E i ≤ 31680 from fun i hi => by obtain ⟨_, _, h2, h3⟩ := hE i hi; unfold wantA; omega)
  have HW2 := Lib.hid (show ∀ i, i < n → wantB E i ≤ 31680 from fun i hi => by obtain ⟨_, _, h2, h3⟩ := hE i hi; unfold wantB; omega)
  have hmk := make_ints cols (by omega)
  clear ha hE
  go_enter Try.func42, Try.ntmps42
  go_wp2_with fail
  go_cut [6, 7] from 17 (fun lv hv wx => ∃ g1 g2 : Nat, lv = .slice (some ⟨g1, 0, none⟩) cols cols ∧ hv = .slice (some ⟨g2, 0, none⟩) cols cols ∧ w.heap.size ≤ g1 ∧ w.heap.size ≤ g2 ∧ g1 ≠ g2 ∧ OwnF wx 3 g1 cols (fun _ => 0) ∧ OwnF wx 3 g2 cols (fun _ => 0) ∧ Below w.heap.size w wx)
  case first =>
    have hb2 := (((Below.refl w.heap.size w).alloc (Nat.le_refl _) (.cells (madeCells #[.int .i64 0] cols) 3)).alloc (by simp) (.cells (madeCells #[.int .i64 0] cols) 3))
    have o1 := (OwnF.make (w := w) 3 cols).alloc (.cells (madeCells #[.int .i64 0] cols) 3)
    have o2 := OwnF.make (w := w.alloc (.cells (madeCells #[.int .i64 0] cols) 3)) 3 cols
    simp at o2
    have HB2 := Lib.hid hb2
    have HO1 := Lib.hid o1
    have HO2 := Lib.hid o2
    clear hb2 o1 o2
    go_region
    · go_wp2_with fail
      go_meet
      exact ⟨_, _, rfl, rfl, Nat.le_refl _, Nat.le_succ _, by omega, HO1.out.drew, HO2.out.drew, HB2.out.drew⟩
    · go_wp2_with fail
      go_meet
      exact ⟨_, _, rfl, rfl, Nat.le_succ _, Nat.le_refl _, by omega, HO2.out.drew, HO1.out.drew, HB2.out.drew⟩
  case rest =>
  obtain ⟨g1, g2, rfl, rfl, hg1, hg2, hgn, hO1, hO2, hbel⟩ := hcut
  clear hmk
  go_wp2_with fail
  go_loopw [8] (fun sv wr => ∃ t : Nat, sv = .int .i64 ((t : Int) + 1) ∧ t ≤ cols ∧ OwnF wr 3 g1 cols (needF E (wantA E) n t) ∧ OwnF wr 3 g2 cols (needF E (wantB E) n t) ∧ Below w.heap.size w wr) (fun sv _ => cols + 1 - (intOf sv).toNat)
  case atStart => exact ⟨0, rfl, by omega, hO1, hO2, hbel⟩
  case round =>
    obtain ⟨t, rfl, ht, hO1, hO2, hbel⟩ := hrel
    by_cases htc : t < cols
    · obtain ⟨wq, rfl⟩ : ∃ wq : World, wq = wr := ⟨_, rfl⟩
      have htd : decide ((t : Int) + 1 ≤ (cols : Int)) = true := decide_eq_true (by omega)
      go_wp2_with fail
      go_loopw [28] (fun ix wr => ∃ i : Nat, ix = .int .i64 i ∧ i ≤ n ∧ OwnF wr 3 g1 cols (spanF E (wantA E) (t + 1) (needF E (wantA E) n t) i) ∧ OwnF wr 3 g2 cols (spanF E (wantB E) (t + 1) (needF E (wantB E) n t) i) ∧ Below w.heap.size w wr) (fun ix _ => n - (intOf ix).toNat)
      case atStart => exact ⟨0, rfl, by omega, hO1, hO2, hbel⟩
      case round =>
        clear hO1 hO2 hbel
        obtain ⟨i, rfl, hi, hO1, hO2, hbel⟩ := hrel
        by_cases hin : i < n
        · obtain ⟨b, off, rfl, hcell⟩ := HA.out.below (Nat.le_refl _) hbel (by omega)
          have d0 := hcell i hin 0 (by omega)
          have d1 := hcell i hin 1 (by omega)
          have d2 := hcell i hin 2 (by omega)
          have d3 := hcell i hin 3 (by omega)
          obtain ⟨⟨hC1, hC2⟩, ⟨hS1, hS2⟩, ⟨hM1, hM2⟩, hP1, hP2⟩ := HE.out i hin
          have hfb := spanF_bd (E := E) (want := wantA E) (span := t + 1) (needF_bd (E := E) (want := wantA E) (n := n) HE.out HW.out t) HE.out HW.out (by omega) i hi
          have hfb2 := spanF_bd (E := E) (want := wantB E) (span := t + 1) (needF_bd (E := E) (want := wantB E) (n := n) HE.out HW2.out t) HE.out HW2.out (by omega) i hi
          have hnext : spanF E (wantA E) (t + 1) (needF E (wantA E) n t) (i + 1) = if E i 1 = ((t + 1 : Nat) : Int) then cellF (spanF E (wantA E) (t + 1) (needF E (wantA E) n t) i) (E i 0).toNat (t + 1) (wantA E i) else spanF E (wantA E) (t + 1) (needF E (wantA E) n t) i := rfl
          have hnext2 : spanF E (wantB E) (t + 1) (needF E (wantB E) n t) (i + 1) = if E i 1 = ((t + 1 : Nat) : Int) then cellF (spanF E (wantB E) (t + 1) (needF E (wantB E) n t) i) (E i 0).toNat (t + 1) (wantB E i) else spanF E (wantB E) (t + 1) (needF E (wantB E) n t) i := rfl
          obtain ⟨f, hf⟩ : ∃ f, f = spanF E (wantA E) (t + 1) (needF E (wantA E) n t) i := ⟨_, rfl⟩
          obtain ⟨h, hh⟩ : ∃ h, h = spanF E (wantB E) (t + 1) (needF E (wantB E) n t) i := ⟨_, rfl⟩
          rw [← hf] at hO1 hfb hnext
          rw [← hh] at hO2 hfb2 hnext2
          have HN := Lib.hid hnext
          have HM := Lib.hid hnext2
          have HFB := Lib.hid hfb
          have HFB2 := Lib.hid hfb2
          have hG1 : g1 < wr.heap.size := hO1.lt
          have hG2 : g2 < wr.heap.size := hO2.lt
          have HO1 := Lib.hid (hO1.alloc (.cells #[.int .i64 (E i 0), .int .i64 (E i 1), .int .i64 (E i 2), .int .i64 (E i 3)] 94))
          have HO2 := Lib.hid (hO2.alloc (.cells #[.int .i64 (E i 0), .int .i64 (E i 1), .int .i64 (E i 2), .int .i64 (E i 3)] 94))
          have HBEL := Lib.hid (hbel.alloc (show w.heap.size ≤ wr.heap.size by omega) (.cells #[.int .i64 (E i 0), .int .i64 (E i 1), .int .i64 (E i 2), .int .i64 (E i 3)] 94))
          replace d0 : wr.cell? ⟨b, off + i * 4, none⟩ = some (.int .i64 (E i 0)) := d0
          clear hcell hf hh hnext hnext2 hfb hfb2 hO1 hO2 hbel
          by_cases hsp : E i 1 = (t : Int) + 1
          · have hne : (E i 1 != (t : Int) + 1) = false := by simpa using hsp
            obtain ⟨C, hC⟩ : ∃ C : Nat, E i 0 = (C : Int) := ⟨(E i 0).toNat, by omega⟩
            have HN2 := Lib.hid (show spanF E (wantA E) (t + 1) (needF E (wantA E) n t) (i + 1) = cellF f C (t + 1) (E i 2) by rw [HN.out, if_pos (by omega), hC]; rfl)
            have HB2 := Lib.hid (show spanF E (wantB E) (t + 1) (needF E (wantB E) n t) (i + 1) = cellF h C (t + 1) (wantB E i) by rw [HM.out, if_pos (by omega), hC]; rfl)
            rw [hC] at d0 hC1 hC2 hS2 HO1 HO2 HBEL
            clear hC HN HM
            have hlen : C + (t + 1) - C = t + 1 := by omega
            go_wp2_with fail
            go_quiet (fail)
            obtain ⟨wz, hwz⟩ : ∃ wz, wz = (wr.alloc (.cells #[.int .i64 C, .int .i64 ((t : Int) + 1), .int .i64 (E i 2), .int .i64 (E i 3)] 94)).drewN nq := ⟨_, rfl⟩
            rw [← hwz, hlen]
            have x2 : wz.cell? ⟨wr.heap.size, 2, none⟩ = some (.int .i64 (E i 2)) := by rw [hwz]; simp
            have x3 : wz.cell? ⟨wr.heap.size, 3, none⟩ = some (.int .i64 (E i 3)) := by rw [hwz]; simp
            have hO1 : OwnF wz 3 g1 cols f := by rw [hwz]; exact (hsp ▸ HO1.out).drewN _
            have hO2 : OwnF wz 3 g2 cols h := by rw [hwz]; exact (hsp ▸ HO2.out).drewN _
            have hbel : Below w.heap.size w wz := by rw [hwz]; exact below_drewN (hsp ▸ HBEL.out) _
            have hzs : wr.heap.size < wz.heap.size := by rw [hwz]; simp
            clear HO1 HO2 HBEL hwz
            have HO1 := Lib.hid hO1
            have HO2 := Lib.hid hO2
            have HBEL := Lib.hid hbel
            clear hO1 hO2 hbel
            have hsb := sumB_nonneg (f := fun j => f (C + j)) (s := t + 1) (fun j hj => (HFB.out (C + j) (by omega)).1)
            have hsb2 := (sumB_bd (f := fun j => f (C + j)) (k := t + 1) (B := 31680) (fun j hj => HFB.out (C + j) (by omega))).2
            have htot := fun (wx : World) (ht : OwnF wx 3 g1 cols f) => total_any (t + 1) (fun j => f (C + j)) (some ⟨g1, C, none⟩) (cols - C) wx (fun _ => ⟨g1, C, rfl, fun j hj => ht.cell (by omega)⟩) (by omega) (fun j hj => by have := HFB.out (C + j) (by omega); omega)
            obtain ⟨Z, hZ⟩ : ∃ Z, Z = sumB (fun j => f (C + j)) (t + 1) := ⟨_, rfl⟩
            rw [← hZ] at hsb hsb2 htot
            have HTOT := Lib.hid htot
            have HZ := Lib.hid hZ
            clear hZ htot
            have hwz : IntKind.i64.wrap (E i 2 - Z) = E i 2 - Z := IntWalk.i64_in _ ⟨by omega, by omega⟩
            go_wp2_with fail
            go_quiet ((go_at_call 54; exact quiet_call (HTOT.out _ (HO1.out.drewN _))))
            clear hwz
            obtain ⟨wy, hwy⟩ : ∃ wy, wy = wz.drewN nq := ⟨_, rfl⟩
            rw [← hwy]
            replace x2 : wy.cell? ⟨wr.heap.size, 2, none⟩ = some (.int .i64 (E i 2)) := by rw [hwy]; exact x2
            replace x3 : wy.cell? ⟨wr.heap.size, 3, none⟩ = some (.int .i64 (E i 3)) := by rw [hwy]; exact x3
            have hO1 : OwnF wy 3 g1 cols f := by rw [hwy]; exact HO1.out.drewN _
            have hO2 : OwnF wy 3 g2 cols h := by rw [hwy]; exact HO2.out.drewN _
            have hbel : Below w.heap.size w wy := by rw [hwy]; exact below_drewN HBEL.out _
            replace hzs : wr.heap.size < wy.heap.size := by rw [hwy]; exact hzs
            clear HO1 HO2 HBEL hwy HTOT
            have HO1 := Lib.hid hO1
            have HO2 := Lib.hid hO2
            have HBEL := Lib.hid hbel
            clear hO1 hO2 hbel
            go_upto_if 58 with fail
            go_cut [28] from 28 to 79 (fun iv wx => iv = .int .i64 i ∧ OwnF wx 3 g1 cols (spanF E (wantA E) (t + 1) (needF E (wantA E) n t) (i + 1)) ∧ OwnF wx 3 g2 cols h ∧ Below w.heap.size w wx ∧ wx.cell? ⟨wr.heap.size, 2, none⟩ = some (.int .i64 (E i 2)) ∧ wx.cell? ⟨wr.heap.size, 3, none⟩ = some (.int .i64 (E i 3)))
            case first =>
              by_cases hl : 0 < E i 2 - Z
              · have HN3 := Lib.hid (show spanF E (wantA E) (t + 1) (needF E (wantA E) n t) (i + 1) = giveF f C (t + 1) (E i 2 - Z) by rw [HN2.out]; unfold cellF; rw [← HZ.out, if_pos hl])
                have X2 := Lib.hid x2
                have X3 := Lib.hid x3
                clear x2 x3
                go_wp2_with fail
                refine (deal_any g1 cols C (t + 1) _ f (E i 2 - Z) _ HO1.out (by omega) (by omega) (by omega) ⟨by omega, by omega⟩ (fun j hj => by have := HFB.out j hj; omega)).mono ?_
                rintro e w5 ⟨rfl, hO5, has5⟩
                have hbel5 := HBEL.out.trans (has5.below (by have := HBEL.out.size; omega) hg1 (fun k hk => by simp [Value.ownBlock] at hk))
                have hO6 := own_aside HO2.out has5 (by omega)
                have y2 := (has5.cell (p := ⟨wr.heap.size, 2, none⟩) hzs (show wr.heap.size ≠ g1 by omega) (by simp [Value.ownBlock])).trans X2.out
                have y3 := (has5.cell (p := ⟨wr.heap.size, 3, none⟩) hzs (show wr.heap.size ≠ g1 by omega) (by simp [Value.ownBlock])).trans X3.out
                clear has5
                have Y2 := Lib.hid y2
                have Y3 := Lib.hid y3
                clear y2 y3
                go_wp2_with fail
                go_meet
                exact ⟨rfl, by rw [HN3.out]; exact hO5, hO6, hbel5, Y2.out, Y3.out⟩
              · have HN3 := Lib.hid (show spanF E (wantA E) (t + 1) (needF E (wantA E) n t) (i + 1) = f by rw [HN2.out]; unfold cellF; rw [← HZ.out, if_neg hl])
                have X2 := Lib.hid x2
                have X3 := Lib.hid x3
                clear x2 x3
                go_wp2_with fail
                go_meet
                exact ⟨rfl, by rw [HN3.out]; exact HO1.out, HO2.out, HBEL.out, X2.out, X3.out⟩
            case rest =>
              clear x2 x3 hzs HO1 HO2 HBEL HN2 HZ
              obtain ⟨rfl, hO1, hO2, hbel, x2, x3⟩ := hcut
              have HO1 := Lib.hid hO1
              have HO2 := Lib.hid hO2
              have HBEL := Lib.hid hbel
              clear hO1 hO2 hbel hsb hsb2 HFB
              go_upto_if 67 with fail
              go_cut [14, 28] from 28 to 79 (fun mv iv wx => mv = .int .i64 (max (E i 2) (E i 3)) ∧ iv = .int .i64 i ∧ wx = wc)
              case first =>
                by_cases hp : E i 2 < E i 3
                · have hm : max (E i 2) (E i 3) = E i 3 := by omega
                  have HM := Lib.hid hm
                  clear hm
                  go_wp2_with fail
                  go_meet
                  exact ⟨by rw [HM.out], rfl, rfl⟩
                · have hm : max (E i 2) (E i 3) = E i 2 := by omega
                  have HM := Lib.hid hm
                  clear hm
                  go_wp2_with fail
                  go_meet
                  exact ⟨by rw [HM.out], rfl, rfl⟩
              case rest =>
                obtain ⟨wv, rfl⟩ : ∃ wv, wv = wc := ⟨_, rfl⟩
                obtain ⟨rfl, rfl, rfl⟩ := hcut
                have hM1 : 0 ≤ max (E i 2) (E i 3) := by omega
                have hM2 : max (E i 2) (E i 3) ≤ 31680 := by omega
                have HWB := Lib.hid (show wantB E i = max (E i 2) (E i 3) from rfl)
                obtain ⟨M, hM⟩ : ∃ M, M = max (E i 2) (E i 3) := ⟨_, rfl⟩
                rw [← hM] at hM1 hM2 HWB ⊢
                clear hM x2 x3
                have ksb := sumB_nonneg (f := fun j => h (C + j)) (s := t + 1) (fun j hj => (HFB2.out (C + j) (by omega)).1)
                have ksb2 := (sumB_bd (f := fun j => h (C + j)) (k := t + 1) (B := 31680) (fun j hj => HFB2.out (C + j) (by omega))).2
                go_wp2_with fail
                refine (total_any (t + 1) (fun j => h (C + j)) _ _ _ (fun _ => ⟨g2, C, rfl, fun j hj => HO2.out.cell (by omega)⟩) (by omega) (fun j hj => by have := HFB2.out (C + j) (by omega); omega)).mono ?_
                rintro e w7 ⟨rfl, rfl⟩
                obtain ⟨Y, hY⟩ : ∃ Y, Y = sumB (fun j => h (C + j)) (t + 1) := ⟨_, rfl⟩
                rw [← hY] at ksb ksb2 ⊢
                by_cases hl2 : 0 < M - Y
                · have HB3 := Lib.hid (show spanF E (wantB E) (t + 1) (needF E (wantB E) n t) (i + 1) = giveF h C (t + 1) (M - Y) by rw [HB2.out]; unfold cellF; rw [← hY, HWB.out, if_pos hl2])
                  clear hY
                  go_wp2_with fail
                  refine (deal_any g2 cols C (t + 1) _ h (M - Y) _ HO2.out (by omega) (by omega) (by omega) ⟨by omega, by omega⟩ (fun j hj => by have := HFB2.out j hj; omega)).mono ?_
                  rintro e w8 ⟨rfl, hO8, has8⟩
                  have hbel8 := HBEL.out.trans (has8.below (by have := HBEL.out.size; omega) hg2 (fun k hk => by simp [Value.ownBlock] at hk))
                  have hO9 := own_aside HO1.out has8 (by omega)
                  clear has8
                  go_wp2_with fail
                  go_roundw
                  case rel => exact ⟨i + 1, by go_num, by omega, hO9, by rw [HB3.out]; exact hO8, hbel8⟩
                  case measure => simp [intOf]; omega
                · have HB3 := Lib.hid (show spanF E (wantB E) (t + 1) (needF E (wantB E) n t) (i + 1) = h by rw [HB2.out]; unfold cellF; rw [← hY, HWB.out, if_neg hl2])
                  clear hY
                  go_wp2_with fail
                  go_roundw
                  case rel => exact ⟨i + 1, by go_num, by omega, HO1.out, by rw [HB3.out]; exact HO2.out, HBEL.out⟩
                  case measure => simp [intOf]; omega
          · have hne : (E i 1 != (t : Int) + 1) = true := by simpa using hsp
            have HN2 := Lib.hid (show spanF E (wantA E) (t + 1) (needF E (wantA E) n t) (i + 1) = f by rw [HN.out, if_neg (by omega)])
            have HM2 := Lib.hid (show spanF E (wantB E) (t + 1) (needF E (wantB E) n t) (i + 1) = h by rw [HM.out, if_neg (by omega)])
            clear HN HM
            go_wp2_with fail
            go_roundw
            case rel => exact ⟨i + 1, by go_num, by omega, by rw [HN2.out]; exact HO1.out, by rw [HM2.out]; exact HO2.out, HBEL.out⟩
            case measure => simp [intOf]; omega
        · obtain rfl : n = i := by omega
          go_wp2_with fail
          go_roundw
          case rel => exact ⟨t + 1, by go_num, by omega, hO1, hO2, hbel⟩
          case measure => simp [intOf]; omega
    · obtain rfl : t = cols := by omega
      obtain ⟨wq, rfl⟩ : ∃ wq : World, wq = wr := ⟨_, rfl⟩
      have hab := needF_bd (E := E) (want := wantA E) (n := n) HE.out HW.out t
      have HEND := Lib.hid (fun j (hj : j < t) => joinF_end (E := E) (n := n) hj)
      have hjz := joinF_zero (needF E (wantA E) n t) (needF E (wantB E) n t)
      obtain ⟨A, hA⟩ : ∃ A, A = needF E (wantA E) n t := ⟨_, rfl⟩
      obtain ⟨B, hB⟩ : ∃ B, B = needF E (wantB E) n t := ⟨_, rfl⟩
      rw [← hA] at hO1
      rw [← hB] at hO2
      rw [← hA, ← hB] at hjz
      have HAE := Lib.hid hA
      have HBE := Lib.hid hB
      have HO1 := Lib.hid hO1
      have HO2 := Lib.hid hO2
      have HJZ := Lib.hid hjz
      have HBEL := Lib.hid hbel
      clear hA hB hO1 hO2 hjz hab hbel
      go_wp2_with fail
      go_loopw [82] (fun iv wr => ∃ k : Nat, iv = .int .i64 k ∧ k ≤ t ∧ OwnF wr 3 g1 t A ∧ OwnF wr 3 g2 t (joinF A B k) ∧ Below w.heap.size w wr) (fun iv _ => t - (intOf iv).toNat)
      case atStart => exact ⟨0, rfl, by omega, HO1.out, by rw [HJZ.out]; exact HO2.out, HBEL.out⟩
      case round =>
        clear HO1 HO2 HBEL
        obtain ⟨k, rfl, hk, hO1, hO2, hbel⟩ := hrel
        by_cases hkt : k < t
        · have d1 := hO1.cell hkt
          have d2 := hO2.cell hkt
          rw [joinF_at] at d2
          have z2 := hO2.frozen k
          have HO1 := Lib.hid hO1
          have HO2 := Lib.hid hO2
          have HBEL := Lib.hid hbel
          clear hO1 hO2 hbel
          by_cases hlt : B k < A k
          · have HJ := Lib.hid (joinF_less hlt)
            go_wp2_with fail
            go_quiet (fail)
            go_wp2_with fail
            go_roundw
            case rel => exact ⟨k + 1, by go_num, by omega, (HO1.out.drewN _).other hgn _, by rw [HJ.out]; exact (HO2.out.drewN _).set k _, (below_drewN HBEL.out _).setCell hg2 _⟩
            case measure => simp [intOf]; omega
          · have HJ := Lib.hid (joinF_same hlt)
            go_wp2_with fail
            go_quiet (fail)
            go_wp2_with fail
            go_roundw
            case rel => exact ⟨k + 1, by go_num, by omega, HO1.out.drewN _, by rw [HJ.out]; exact HO2.out.drewN _, below_drewN HBEL.out _⟩
            case measure => simp [intOf]; omega
        · obtain rfl : k = t := by omega
          have HO1 := Lib.hid hO1
          have HO2 := Lib.hid hO2
          have HBEL := Lib.hid hbel
          clear hO1 hO2 hbel
          go_wp2_with fail
          go_ret2
          exact ⟨HBEL.out, g1, g2, rfl, hg1, hg2, by rw [← HAE.out]; exact HO1.out, HO2.out.congr fun j hj => by rw [HAE.out, HBE.out]; exact HEND.out j hj⟩
end Go.Proofs.Ytpbnkkeplhgepaa.BA
