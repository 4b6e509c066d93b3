

/-
  out.
-/
import Derived.Test.YtnigebnibikolaaDoorShOutPlain
namespace Go.Proofs.YtnigebnibikolaaDoor.ShT
open Go.RowKit Go.Law Go.Law.Sh
set_option linter.unusedVariables false
set_option linter.unusedSimpArgs false
set_option maxRecDepth 100000
set_option maxHeartbeats 2000000 in
theorem out_any (n : Nat) (E : Nat → Nat → Int) (N : Nat → Nat → ByteArray) (g x y : Int) (a : Option Addr) (c : Nat) (w : World) (ha : ShF w a n E N) (hn : n ≤ 1000) (hall : ∀ j, j < n → Right E j) (hg : Par n E g) (ht : Arr w 3) (f0 : Nat) (hf0 : meas n E g ≤ f0) :
    Calls Tryd.prog 64 #[.slice a n c, .int .i64 g, .int .i64 x, .int .i64 y] w fun e w' => e = .returned (.tuple #[.int .i64 (outP n E f0 g x y).1, .int .i64 (outP n E f0 g x y).2]) ∧ Below w.heap.size w w' := by
  have HA := Lib.hid ha
  have HT := Lib.hid ht
  have HALL := Lib.hid hall
  obtain ⟨R, hR⟩ : ∃ R, R = outP n E f0 g x y := ⟨_, rfl⟩
  rw [← hR]
  have HR := Lib.hid hR
  clear ha ht hall hR
  go_enter Tryd.func64, Tryd.ntmps64
  go_wp2_with fail
  go_loopw [1, 2, 3] (fun ig ix iy wr => ∃ (f : Nat) (g x y : Int), ig = .int .i64 g ∧ ix = .int .i64 x ∧ iy = .int .i64 y ∧ Par n E g ∧ meas n E g ≤ f ∧ R = outP n E f g x y ∧ Below w.heap.size w wr) (fun ig _ _ _ => meas n E (intOf ig))
  case atStart => exact ⟨f0, g, x, y, rfl, rfl, rfl, hg, hf0, HR.out, Below.refl _ _⟩
  case round =>
    obtain ⟨f, g, x, y, rfl, rfl, rfl, hp, hm, hr, hbel⟩ := hrel
    have HM := Lib.hid hm
    have HR2 := Lib.hid hr
    clear hm hr HR hf0 hg
    by_cases hg0 : g = 0
    · subst hg0
      have e1 := HR2.out
      rw [outP_zero] at e1
      have HE := Lib.hid e1
      clear e1 HM HR2 hp
      go_wp2_with fail
      go_ret2
      exact ⟨by rw [HE.out]; rfl, hbel⟩
    · rcases hp with hp | ⟨k, hkn, hfk⟩
      · exact absurd hp hg0
      obtain ⟨f', hf'⟩ : ∃ f', f = f' + 1 := by
        have := HM.out
        unfold meas at this
        rw [if_neg hg0] at this
        exact ⟨f - 1, by omega⟩
      subst hf'
      have HM1 := Lib.hid (show k ≤ f' ∧ meas n E g = k + 1 by
        have := HM.out
        unfold meas at this ⊢
        rw [if_neg hg0, hfk] at this ⊢
        refine ⟨by omega, by omega⟩)
      have HR3 := Lib.hid (HR2.out.trans (outP_step hg0 hfk))
      have HNX := Lib.hid (Par.next HALL.out hkn)
      have htt : 0 ≤ E k 7 ∧ E k 7 ≤ 3599 := (HALL.out k hkn).2.2.1.2.2.2.2
      have HFK := Lib.hid hfk
      clear HM HR2 hfk
      go_wp2_with fail
      refine (find_any n E N g a c wr (HA.out.below (Nat.le_refl _) hbel) (by omega)).mono ?_
      rintro e w1 ⟨rfl, hb1⟩
      rw [HFK.out]
      have hbel1 := hbel.trans (hb1.mono hbel.size)
      obtain ⟨b, off, rfl, hcellG⟩ := HA.out.below (Nat.le_refl _) hbel1 (by omega)
      have hcell := hcellG k hkn
      clear hcellG
      obtain ⟨hci, hc10, hc11⟩ := hcell
      have d0 := hci 0 (by omega)
      rw [Nat.add_zero] at d0
      have d1 := hci 1 (by omega)
      have d2 := hci 2 (by omega)
      have d3 := hci 3 (by omega)
      have d4 := hci 4 (by omega)
      have d5 := hci 5 (by omega)
      have d6 := hci 6 (by omega)
      have d7 := hci 7 (by omega)
      have d8 := hci 8 (by omega)
      have d9 := hci 9 (by omega)
      have zb := lt_of_cell d0
      simp only at zb
      clear hci
      obtain ⟨e0, he0⟩ : ∃ e, e = E k 0 := ⟨_, rfl⟩
      obtain ⟨e1, he1⟩ : ∃ e, e = E k 1 := ⟨_, rfl⟩
      obtain ⟨e2, he2⟩ : ∃ e, e = E k 2 := ⟨_, rfl⟩
      obtain ⟨e3, he3⟩ : ∃ e, e = E k 3 := ⟨_, rfl⟩
      obtain ⟨e4, he4⟩ : ∃ e, e = E k 4 := ⟨_, rfl⟩
      obtain ⟨e5, he5⟩ : ∃ e, e = E k 5 := ⟨_, rfl⟩
      obtain ⟨e6, he6⟩ : ∃ e, e = E k 6 := ⟨_, rfl⟩
      obtain ⟨e7, he7⟩ : ∃ e, e = E k 7 := ⟨_, rfl⟩
      obtain ⟨e8, he8⟩ : ∃ e, e = E k 8 := ⟨_, rfl⟩
      obtain ⟨e9, he9⟩ : ∃ e, e = E k 9 := ⟨_, rfl⟩
      obtain ⟨n0, hn0⟩ : ∃ e, e = N k 0 := ⟨_, rfl⟩
      obtain ⟨n1, hn1⟩ : ∃ e, e = N k 1 := ⟨_, rfl⟩
      rw [← he0] at d0
      rw [← he1] at d1
      rw [← he2] at d2
      rw [← he3] at d3
      rw [← he4] at d4
      rw [← he5] at d5
      rw [← he6] at d6
      rw [← he7] at d7
      rw [← he8] at d8
      rw [← he9] at d9
      rw [← hn0] at hc10
      rw [← hn1] at hc11
      have HE0 := Lib.hid he0
      have HE1 := Lib.hid he1
      have HE2 := Lib.hid he2
      have HE3 := Lib.hid he3
      have HE4 := Lib.hid he4
      have HE5 := Lib.hid he5
      have HE6 := Lib.hid he6
      have HE7 := Lib.hid he7
      have HE8 := Lib.hid he8
      have HE9 := Lib.hid he9
      have HN0 := Lib.hid hn0
      have HN1 := Lib.hid hn1
      clear he0 he1 he2 he3 he4 he5 he6 he7 he8 he9 hn0 hn1
      rw [← HE7.out] at htt
      have hsz := hbel1.size
      go_wp2_with fail
      refine (turned_any _ _ _ _ _ _ (by omega) (HT.out.below (Nat.le_refl _) (hbel1.alloc hsz _))).mono ?_
      rintro e w2 ⟨rfl, hb2⟩
      obtain ⟨X, hX⟩ : ∃ X, X = turnX (wrap64 (x + e3)) (wrap64 (y + e4)) (wrap64 (wrap64 (2 * e3) + e5)) (wrap64 (wrap64 (2 * e4) + e6)) e7 := ⟨_, rfl⟩
      obtain ⟨Y, hY⟩ : ∃ Y, Y = turnY (wrap64 (x + e3)) (wrap64 (y + e4)) (wrap64 (wrap64 (2 * e3) + e5)) (wrap64 (wrap64 (2 * e4) + e6)) e7 := ⟨_, rfl⟩
      rw [← hX, ← hY]
      have HX := Lib.hid (show X = upX (E k) x y by rw [hX, HE3.out, HE4.out, HE5.out, HE6.out, HE7.out]; rfl)
      have HY := Lib.hid (show Y = upY (E k) x y by rw [hY, HE3.out, HE4.out, HE5.out, HE6.out, HE7.out]; rfl)
      clear hX hY
      have hblk := (Blk.new w1 #[.int .i64 e0, .int .i64 e1, .int .i64 e2, .int .i64 e3, .int .i64 e4, .int .i64 e5, .int .i64 e6, .int .i64 e7, .int .i64 e8, .int .i64 e9, .string n0, .string n1] 82).below hb2 (by simp)
      have x1 : w2.cell? ⟨w1.heap.size, 1, none⟩ = some (.int .i64 e1) := hblk.cell (i := 1) rfl
      have zx := hblk.lt
      have HB3 := Lib.hid ((hbel1.alloc hsz _).trans (hb2.mono (by simp; omega)))
      clear hblk hb2 d0 d1 d2 d3 d4 d5 d6 d7 d8 d9 hc10 hc11
      go_wp2_with fail
      go_roundw
      case rel =>
        refine ⟨f', e1, X, Y, rfl, rfl, rfl, ?_, ?_, ?_, HB3.out⟩
        · rw [HE1.out]; exact HNX.out.1
        · rw [HE1.out]; exact Nat.le_trans HNX.out.2 HM1.out.1
        · rw [HE1.out, HX.out, HY.out]; exact HR3.out
      case measure =>
        have h1 := HNX.out.2
        have h2 := HM1.out.2
        rw [← HE1.out] at h1
        simp [intOf]
        omega
end Go.Proofs.YtnigebnibikolaaDoor.ShT
