
/-
  Sets that have names.
-/
import Derived.Test.YtghbicajcffjhaaDoorPcEnv
namespace Go.Law.Pn
def eqR (n m : Nat) (f g : Nat → Int × Int) : Bool := decide (n = m ∧ ∀ i, i < n → f i = g i)
theorem eqR_true {n m : Nat} {f g : Nat → Int × Int} : eqR n m f g = true ↔ n = m ∧ ∀ i, i < n → f i = g i := by simp [eqR]
theorem eqR_no {n m : Nat} {f g : Nat → Int × Int} (h : n ≠ m) : eqR n m f g = false := by simp [eqR, h]
theorem eqR_part {n : Nat} {f g : Nat → Int × Int} {i : Nat} (hi : i < n) (h : f i ≠ g i) : eqR n n f g = false := by
  cases hb : eqR n n f g
  · rfl
  · exact absurd ((eqR_true.1 hb).2 i hi) h
end Go.Law.Pn
namespace Go.Proofs.YtghbicajcffjhaaDoor.PC
open Go.RowKit Go.Law Go.Law.Pn
set_option linter.unusedVariables false
set_option linter.unusedSimpArgs false
set_option maxRecDepth 100000
set_option maxHeartbeats 1000000 in
theorem eqR_any (n m : Nat) (f g : Nat → Int × Int) (a b : Option Addr) (ca cb : Nat) (w : World) (ha : SetOk w a n f) (hb : SetOk w b m g) (hn : n ≤ 9223372036854775806) (hm : m ≤ 9223372036854775806) :
    Calls Tryd.prog 119 #[.slice a n ca, .slice b m cb] w fun e w' => e = .returned (.bool (eqR n m f g)) ∧ Below w.heap.size w w' := by
  by_cases hnm : n = m
  · subst hnm
    have hd : ((n : Int) != (n : Int)) = false := by simp
    by_cases h0 : n = 0
    · have H := Lib.hid (show eqR n n f g = true by rw [eqR_true]; exact ⟨rfl, fun i hi => by omega⟩)
      subst h0
      go_enter Tryd.func119, Tryd.ntmps119
      go_wp2
      refine wp_loop_rounds 1 ?_
      rw [rounds_succ]
      go_wp2
      go_ret
      exact ⟨by rw [H.out]; rfl, Below.refl _ _⟩
    · obtain ⟨b1, o1, rfl, hc1⟩ := ha (by omega)
      obtain ⟨b2, o2, rfl, hc2⟩ := hb (by omega)
      go_enter Tryd.func119, Tryd.ntmps119
      go_wp2
      go_loopw [13] (fun i wr => ∃ k : Nat, i = .int .i64 k ∧ k ≤ n ∧ (∀ j, j < k → f j = g j) ∧ Below w.heap.size w wr) (fun i _ => n - (intOf i).toNat)
      case atStart => exact ⟨0, rfl, by omega, fun j hj => by omega, Below.refl _ _⟩
      case round =>
        obtain ⟨k, rfl, hk, hall, hbel⟩ := hrel
        have HA := Lib.hid hall
        clear hall
        by_cases hkn : k < n
        · have d1 : wr.cell? ⟨b1, o1 + k * 2, none⟩ = some (.int .i64 (f k).1) := by
            have h1 := hc1 k hkn 0 (by omega)
            rw [Nat.add_zero] at h1
            rw [hbel.cell (lt_of_cell h1)]
            exact h1
          have d2 : wr.cell? ⟨b1, o1 + k * 2 + 1, none⟩ = some (.int .i64 (f k).2) := by rw [hbel.cell (lt_of_cell (hc1 k hkn 1 (by omega)))]; exact hc1 k hkn 1 (by omega)
          have d3 : wr.cell? ⟨b2, o2 + k * 2, none⟩ = some (.int .i64 (g k).1) := by
            have h1 := hc2 k hkn 0 (by omega)
            rw [Nat.add_zero] at h1
            rw [hbel.cell (lt_of_cell h1)]
            exact h1
          have d4 : wr.cell? ⟨b2, o2 + k * 2 + 1, none⟩ = some (.int .i64 (g k).2) := by rw [hbel.cell (lt_of_cell (hc2 k hkn 1 (by omega)))]; exact hc2 k hkn 1 (by omega)
          clear hc1 hc2
          obtain ⟨x, hx⟩ : ∃ x, x = f k := ⟨_, rfl⟩
          obtain ⟨y, hy⟩ : ∃ y, y = g k := ⟨_, rfl⟩
          rw [← hx] at d1 d2
          rw [← hy] at d3 d4
          have HX := Lib.hid hx
          have HY := Lib.hid hy
          clear hx hy
          obtain ⟨x1, x2⟩ := x
          obtain ⟨y1, y2⟩ := y
          simp only at d1 d2 d3 d4
          by_cases he : x1 = y1 ∧ x2 = y2
          · obtain ⟨rfl, rfl⟩ := he
            have HE := Lib.hid (show f k = g k by rw [← HX.out, ← HY.out])
            go_wp2
            go_quiet (fail)
            go_wp2
            go_roundw
            case rel => exact ⟨k + 1, by go_num, by omega, fun j hj => by rcases Nat.lt_or_ge j k with h | h; exact HA.out j h; rw [show j = k by omega]; exact HE.out, below_drewN hbel _⟩
            case measure => simp [intOf]; omega
          · have HE := Lib.hid (eqR_part (f := f) (g := g) hkn (by rw [← HX.out, ← HY.out]; intro h; cases h; exact he ⟨rfl, rfl⟩))
            by_cases he1 : x1 = y1
            · have he2 : ¬ x2 = y2 := fun h => he ⟨he1, h⟩
              subst he1
              have hne : (x2 == y2) = false := by simpa using he2
              clear he he2
              go_wp2
              go_quiet (fail)
              go_wp2
              go_ret
              exact ⟨by rw [HE.out]; rfl, below_drewN hbel _⟩
            · have hne : (x1 == y1) = false := by simpa using he1
              clear he he1
              go_wp2
              go_quiet (fail)
              go_wp2
              go_ret
              exact ⟨by rw [HE.out]; rfl, below_drewN hbel _⟩
        · obtain rfl : k = n := by omega
          have HT := Lib.hid (eqR_true.2 ⟨rfl, HA.out⟩)
          go_wp2
          go_ret
          exact ⟨by rw [HT.out]; rfl, hbel⟩
  · have hd : ((n : Int) != (m : Int)) = true := by simp; omega
    have H := Lib.hid (eqR_no (f := f) (g := g) hnm)
    clear hnm
    go_enter Tryd.func119, Tryd.ntmps119
    go_wp2
    go_ret
    exact ⟨by rw [H.out]; rfl, Below.refl _ _⟩
/-- the letter of a set that has a name -/
def nmB (n : Nat) (f : Nat → Int × Int) : Int := if eqR n 1 f digitsT then 100 else if eqR n 6 f lettersT then 119 else if eqR n 3 f blanksT then 115 else 0
set_option maxHeartbeats 4000000 in
theorem named_any (n : Nat) (f : Nat → Int × Int) (a : Option Addr) (c : Nat) (w : World) (ha : SetOk w a n f) (hn : n ≤ 40) (hE : PEnv w) :
    Calls Tryd.prog 84 #[.slice a n c] w fun e w' => e = .returned (.int .u8 (nmB n f)) ∧ Below w.heap.size w w' := by
  obtain ⟨da, dc, dl, dt⟩ := hE.dg
  obtain ⟨la, lc, ll, lt⟩ := hE.lt
  obtain ⟨ba, bc, bl, bt⟩ := hE.bl
  obtain ⟨b1, h1⟩ : ∃ b, b = eqR n 1 f digitsT := ⟨_, rfl⟩
  obtain ⟨b2, h2⟩ : ∃ b, b = eqR n 6 f lettersT := ⟨_, rfl⟩
  obtain ⟨b3, h3⟩ : ∃ b, b = eqR n 3 f blanksT := ⟨_, rfl⟩
  have HV := Lib.hid (show nmB n f = if b1 then 100 else if b2 then 119 else if b3 then 115 else 0 by unfold nmB; rw [h1, h2, h3])
  have H1 := Lib.hid (fun w' (hb : Below w.heap.size w w') => eqR_any n 1 f digitsT a da c dc w' (CellsF.below ha (Nat.le_refl _) hb) (CellsF.below dt (Nat.le_refl _) hb) (by omega) (by omega))
  have H2 := Lib.hid (fun w' (hb : Below w.heap.size w w') => eqR_any n 6 f lettersT a la c lc w' (CellsF.below ha (Nat.le_refl _) hb) (CellsF.below lt (Nat.le_refl _) hb) (by omega) (by omega))
  have H3 := Lib.hid (fun w' (hb : Below w.heap.size w w') => eqR_any n 3 f blanksT a ba c bc w' (CellsF.below ha (Nat.le_refl _) hb) (CellsF.below bt (Nat.le_refl _) hb) (by omega) (by omega))
  rw [← h1] at H1
  rw [← h2] at H2
  rw [← h3] at H3
  obtain ⟨V, hV⟩ : ∃ V, V = nmB n f := ⟨_, rfl⟩
  rw [← hV] at HV ⊢
  have zl := lt_of_cell ll
  have zb := lt_of_cell bl
  simp only at zl zb
  have HLL := Lib.hid (fun w' (hb : Below w.heap.size w w') => (hb.cell (p := ⟨5, 0, none⟩) zl).trans ll)
  have HBL := Lib.hid (fun w' (hb : Below w.heap.size w w') => (hb.cell (p := ⟨6, 0, none⟩) zb).trans bl)
  clear h1 h2 h3 ha hE dt lt bt hV zl zb ll bl
  go_enter Tryd.func84, Tryd.ntmps84
  cases b1
  case true =>
    have HE := Lib.hid (show V = 100 by rw [HV.out]; rfl)
    go_wp2_with (go_at_call 119; refine (H1.out _ (Below.refl _ _)).mono ?_; rintro e w1 ⟨rfl, hb1⟩)
    go_ret
    exact ⟨by rw [HE.out]; rfl, hb1⟩
  go_upto_region 3 with (go_at_call 119; refine (H1.out _ (Below.refl _ _)).mono ?_; rintro e w1 ⟨rfl, hb1⟩)
  have ll := HLL.out w1 hb1
  cases b2
  case true =>
    have HE := Lib.hid (show V = 119 by rw [HV.out]; rfl)
    go_wp2_with (go_at_call 119; refine (H2.out _ hb1).mono ?_; rintro e w2 ⟨rfl, hb2⟩)
    go_ret
    exact ⟨by rw [HE.out]; rfl, hb1.trans (hb2.mono hb1.size)⟩
  go_upto_region 5 with (go_at_call 119; refine (H2.out _ hb1).mono ?_; rintro e w2 ⟨rfl, hb2⟩)
  have hb3 := hb1.trans (hb2.mono hb1.size)
  have bl := HBL.out w2 hb3
  cases b3
  case true =>
    have HE := Lib.hid (show V = 115 by rw [HV.out]; rfl)
    go_wp2_with (go_at_call 119; refine (H3.out _ hb3).mono ?_; rintro e w3 ⟨rfl, hb4⟩)
    go_ret
    exact ⟨by rw [HE.out]; rfl, hb3.trans (hb4.mono hb3.size)⟩
  have HE := Lib.hid (show V = 0 by rw [HV.out]; rfl)
  go_wp2_with (go_at_call 119; refine (H3.out _ hb3).mono ?_; rintro e w3 ⟨rfl, hb4⟩)
  go_ret
  exact ⟨by rw [HE.out]; rfl, hb3.trans (hb4.mono hb3.size)⟩
end Go.Proofs.YtghbicajcffjhaaDoor.PC
