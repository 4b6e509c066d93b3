

/-
  parents.
-/
import Derived.Test.YtabnohphgegflaaDoorShErrPlain
namespace Go.Proofs.YtabnohphgegflaaDoor.ShT
open Go.RowKit Go.Law Go.Law.Sh
set_option linter.unusedVariables false
set_option linter.unusedSimpArgs false
set_option maxRecDepth 100000
/-- a block that holds a shape whose group is g -/
def ShapeBlk (w : World) (p : Nat) (g : Int) : Prop := ∃ (z0 z2 z3 z4 z5 z6 z7 z8 z9 : Int) (s1 s2 : ByteArray), Blk w p #[.int .i64 z0, .int .i64 g, .int .i64 z2, .int .i64 z3, .int .i64 z4, .int .i64 z5, .int .i64 z6, .int .i64 z7, .int .i64 z8, .int .i64 z9, .string s1, .string s2] 30
set_option maxHeartbeats 2000000 in
theorem parents_any (n : Nat) (E : Nat → Nat → Int) (N : Nat → Nat → ByteArray) (a : Option Addr) (c : Nat) (z0 z1 z2 z3 z4 z5 z6 z7 z8 z9 : Int) (s1 s2 : ByteArray) (w : World) (ha : ShF w a n E N) (hn : n ≤ 1000000000000000000) :
    Calls Tryd.prog 40 #[.slice a n c, .agg #[.int .i64 z0, .int .i64 z1, .int .i64 z2, .int .i64 z3, .int .i64 z4, .int .i64 z5, .int .i64 z6, .int .i64 z7, .int .i64 z8, .int .i64 z9, .string s1, .string s2]] w fun e w' => e = .returned (.int .i64 (parE n E 19 z1)) ∧ Below w.heap.size w w' := by
  have HA := Lib.hid ha
  obtain ⟨V, hV⟩ : ∃ V, V = parE n E 19 z1 := ⟨_, rfl⟩
  rw [← hV]
  have HV := Lib.hid hV
  have HB0 := Lib.hid (Blk.new w #[.int .i64 z0, .int .i64 z1, .int .i64 z2, .int .i64 z3, .int .i64 z4, .int .i64 z5, .int .i64 z6, .int .i64 z7, .int .i64 z8, .int .i64 z9, .string s1, .string s2] 30)
  clear ha hV
  go_enter Tryd.func40, Tryd.ntmps40
  go_wp2_with fail
  go_loopw [5] (fun ix wr => ∃ d : Nat, ∃ g : Int, ix = .int .i64 d ∧ (1 ≤ d ∧ d ≤ 20) ∧ parE n E (20 - d) g = V ∧ ShapeBlk wr w.heap.size g ∧ Below w.heap.size w wr) (fun ix _ => 20 - (intOf ix).toNat)
  case atStart => exact ⟨1, z1, rfl, by omega, HV.out.symm, ⟨_, _, _, _, _, _, _, _, _, _, _, HB0.out⟩, (Below.refl _ _).alloc (Nat.le_refl _) _⟩
  case round =>
    obtain ⟨d, g, rfl, hd, hpe, ⟨y0, y2, y3, y4, y5, y6, y7, y8, y9, t1, t2, hblk⟩, hbel⟩ := hrel
    have HPE := Lib.hid hpe
    have HBL := Lib.hid hblk
    have l1 : wr.cell? ⟨w.heap.size, 1, none⟩ = some (.int .i64 g) := hblk.cell (i := 1) rfl
    have zb0 := hblk.lt
    clear hpe hblk HV HB0
    by_cases hg : g = 0
    · subst hg
      rw [parE_zero] at HPE
      have HZ := HPE
      clear HPE
      go_wp2_with fail
      go_ret
      exact ⟨by rw [← HZ.out]; rfl, hbel⟩
    · by_cases hd20 : d = 20
      · subst hd20
        rw [parE_deep hg] at HPE
        go_wp2_with fail
        go_ret
        exact ⟨by rw [← HPE.out]; rfl, hbel⟩
      · go_wp2_with fail
        refine (find_any n E N g a c wr (HA.out.below (Nat.le_refl _) hbel) hn).mono ?_
        rintro e w1 ⟨rfl, hb1⟩
        obtain ⟨f, hf⟩ : ∃ f, 20 - d = f + 1 := ⟨19 - d, by omega⟩
        rw [hf] at HPE
        have hbel1 := hbel.trans (hb1.mono hbel.size)
        have hblk1 := HBL.out.below hb1 zb0
        have zb1 := hblk1.lt
        have HB1 := Lib.hid hblk1
        have hn0 : n = 0 ∨ 0 < n := by omega
        rcases findV_cases n E g with ⟨hm, _⟩ | ⟨k, hkn, hm, hkx, _⟩
        · have HZ := Lib.hid ((parE_none (f := f) hg (by omega)).symm.trans HPE.out)
          rw [hm]
          clear HPE hm hn0
          go_wp2_with fail
          go_ret
          exact ⟨by rw [← HZ.out]; rfl, hbel1⟩
        · have HK := Lib.hid (fun h => (parE_kind (f := f) hg hm h).symm.trans HPE.out)
          have HU := Lib.hid (fun h => (parE_up (f := f) hg hm h).symm.trans HPE.out)
          rw [hm]
          clear HPE hm hn0 l1 hkx
          have HBL2 := Lib.hid (fun b off (he : a = some ⟨b, off, none⟩) => (by
            obtain ⟨b', off', he', h⟩ := HA.out (by omega)
            rw [he] at he'
            cases he'
            exact lt_of_cell (h k hkn).2.1 : b < w.heap.size))
          obtain ⟨b, off, rfl, hcellG⟩ := HA.out.below (Nat.le_refl _) hbel1 (by omega)
          have hbw := HBL2.out b off rfl
          clear HBL2
          have hcell := hcellG k hkn
          clear hcellG
          obtain ⟨hci, hc10, hc11⟩ := hcell
          have d0 := hci 0 (by omega)
          rw [Nat.add_zero] at d0
          have d1 := hci 1 (by omega)
          have d2 := hci 2 (by omega)
          have d3 := hci 3 (by omega)
          have d4 := hci 4 (by omega)
          have d5 := hci 5 (by omega)
          have d6 := hci 6 (by omega)
          have d7 := hci 7 (by omega)
          have d8 := hci 8 (by omega)
          have d9 := hci 9 (by omega)
          have zb := lt_of_cell d0
          simp only at zb
          clear hci
          obtain ⟨e0, he0⟩ : ∃ e, e = E k 0 := ⟨_, rfl⟩
          obtain ⟨e1, he1⟩ : ∃ e, e = E k 1 := ⟨_, rfl⟩
          obtain ⟨e2, he2⟩ : ∃ e, e = E k 2 := ⟨_, rfl⟩
          obtain ⟨e3, he3⟩ : ∃ e, e = E k 3 := ⟨_, rfl⟩
          obtain ⟨e4, he4⟩ : ∃ e, e = E k 4 := ⟨_, rfl⟩
          obtain ⟨e5, he5⟩ : ∃ e, e = E k 5 := ⟨_, rfl⟩
          obtain ⟨e6, he6⟩ : ∃ e, e = E k 6 := ⟨_, rfl⟩
          obtain ⟨e7, he7⟩ : ∃ e, e = E k 7 := ⟨_, rfl⟩
          obtain ⟨e8, he8⟩ : ∃ e, e = E k 8 := ⟨_, rfl⟩
          obtain ⟨e9, he9⟩ : ∃ e, e = E k 9 := ⟨_, rfl⟩
          obtain ⟨n0, hn0⟩ : ∃ e, e = N k 0 := ⟨_, rfl⟩
          obtain ⟨n1, hn1⟩ : ∃ e, e = N k 1 := ⟨_, rfl⟩
          rw [← he0] at d0
          rw [← he1] at d1
          rw [← he2] at d2
          rw [← he3] at d3
          rw [← he4] at d4
          rw [← he5] at d5
          rw [← he6] at d6
          rw [← he7] at d7
          rw [← he8] at d8
          rw [← he9] at d9
          rw [← hn0] at hc10
          rw [← hn1] at hc11
          have HE0 := Lib.hid he0
          have HE1 := Lib.hid he1
          have HE2 := Lib.hid he2
          have HE3 := Lib.hid he3
          have HE4 := Lib.hid he4
          have HE5 := Lib.hid he5
          have HE6 := Lib.hid he6
          have HE7 := Lib.hid he7
          have HE8 := Lib.hid he8
          have HE9 := Lib.hid he9
          have HN0 := Lib.hid hn0
          have HN1 := Lib.hid hn1
          clear he0 he1 he2 he3 he4 he5 he6 he7 he8 he9 hn0 hn1
          by_cases h5 : e2 = 5
          · have HX := Lib.hid (HU.out (by rw [← HE2.out]; exact h5))
            subst h5
            clear HK HU
            have hne : b ≠ w.heap.size := by
              omega
            have fz := HB1.out.frozen
            have m0 : w1.cell? ⟨w.heap.size, 0, none⟩ = some (.int .i64 y0) := hblk1.cell (i := 0) rfl
            have m1 : w1.cell? ⟨w.heap.size, 1, none⟩ = some (.int .i64 g) := hblk1.cell (i := 1) rfl
            have m2 : w1.cell? ⟨w.heap.size, 2, none⟩ = some (.int .i64 y2) := hblk1.cell (i := 2) rfl
            have m3 : w1.cell? ⟨w.heap.size, 3, none⟩ = some (.int .i64 y3) := hblk1.cell (i := 3) rfl
            have m4 : w1.cell? ⟨w.heap.size, 4, none⟩ = some (.int .i64 y4) := hblk1.cell (i := 4) rfl
            have m5 : w1.cell? ⟨w.heap.size, 5, none⟩ = some (.int .i64 y5) := hblk1.cell (i := 5) rfl
            have m6 : w1.cell? ⟨w.heap.size, 6, none⟩ = some (.int .i64 y6) := hblk1.cell (i := 6) rfl
            have m7 : w1.cell? ⟨w.heap.size, 7, none⟩ = some (.int .i64 y7) := hblk1.cell (i := 7) rfl
            have m8 : w1.cell? ⟨w.heap.size, 8, none⟩ = some (.int .i64 y8) := hblk1.cell (i := 8) rfl
            have m9 : w1.cell? ⟨w.heap.size, 9, none⟩ = some (.int .i64 y9) := hblk1.cell (i := 9) rfl
            have m10 : w1.cell? ⟨w.heap.size, 10, none⟩ = some (.string t1) := hblk1.cell (i := 10) rfl
            have m11 : w1.cell? ⟨w.heap.size, 11, none⟩ = some (.string t2) := hblk1.cell (i := 11) rfl
            clear hblk1 HBL
            go_wp2_with fail
            go_roundw
            case rel =>
              have hnew := (((((((((((HB1.out.set 0 (.int .i64 e0)).set 1 (.int .i64 e1)).set 2 (.int .i64 5)).set 3 (.int .i64 e3)).set 4 (.int .i64 e4)).set 5 (.int .i64 e5)).set 6 (.int .i64 e6)).set 7 (.int .i64 e7)).set 8 (.int .i64 e8)).set 9 (.int .i64 e9)).set 10 (.string n0)).set 11 (.string n1)
              simp only [List.setIfInBounds_toArray, List.set_cons_zero, List.set_cons_succ] at hnew
              refine ⟨d + 1, e1, by go_num, by omega, ?_, ⟨_, _, _, _, _, _, _, _, _, _, _, hnew⟩, ?_⟩
              · rw [show 20 - (d + 1) = f by omega, HE1.out]; exact HX.out
              · repeat' (with_reducible first | exact Below.refl _ _ | assumption | refine Below.setCell ?_ ?_ _ | refine Below.alloc ?_ ?_ _ | refine below_drewN ?_ _ | refine Below.drew ?_)
                all_goals first | omega | (simp; done) | (simp; omega)
            case measure => simp [intOf]; omega
          · have HX := Lib.hid (HK.out (by rw [← HE2.out]; exact h5))
            clear HU HK hblk1
            go_wp2_with fail
            go_ret
            exact ⟨by rw [← HX.out]; rfl, hbel1⟩
end Go.Proofs.YtabnohphgegflaaDoor.ShT
