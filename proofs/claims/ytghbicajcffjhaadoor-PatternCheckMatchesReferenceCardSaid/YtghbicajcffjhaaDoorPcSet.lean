
/-
  The ranges of a set are checked.
-/
import Derived.Test.YtghbicajcffjhaaDoorProg
import Derived.Test.YtghbicajcffjhaaDoorPcPlain
import Derived.Test.YtghbicajcffjhaaDoorBlk
import Derived.Test.YtghbicajcffjhaaDoorIn
import Derived.WalkLawsBesides
import Derived.Lib.Hide
import Derived.BigQuiet
import Derived.StillTailTactics
import Derived.Deep.CutRange
import Derived.Deep.CutBlock
namespace Go.Proofs.YtghbicajcffjhaaDoor.PC
open Go.RowKit Go.Law Go.Law.Pn
set_option linter.unusedVariables false
set_option linter.unusedSimpArgs false
set_option maxRecDepth 100000
set_option maxHeartbeats 4000000 in
theorem set_any (a : Option Addr) (n c : Nat) (f : Nat → Int × Int) (w : World) (hs : SetOk w a n f) : Calls Tryd.prog 83 #[.slice a n c] w fun e w' => e = .returned (.int .i64 (setE n f)) ∧ Below w.heap.size w w' := by
  obtain ⟨V, hV⟩ : ∃ V, V = setE n f := ⟨_, rfl⟩
  rw [← hV]
  have HV := Lib.hid hV
  have HP := Lib.hid hs
  clear hV hs
  by_cases hn0 : n = 0
  · have HE := Lib.hid (show V = 7 by rw [HV.out]; unfold setE; rw [if_pos hn0])
    subst hn0
    go_enter Tryd.func83, Tryd.ntmps83
    go_wp2
    all_goals
      go_ret
      exact ⟨by rw [HE.out]; rfl, Below.refl _ _⟩
  by_cases hn1 : 40 < n
  · have HE := Lib.hid (show V = 3 by rw [HV.out]; unfold setE; rw [if_neg hn0, if_pos hn1])
    have e1 : ((n : Int) == 0) = false := by simpa using hn0
    have e2 : (40 : Int) < (n : Int) := by omega
    go_enter Tryd.func83, Tryd.ntmps83
    go_wp2
    all_goals
      go_ret
      exact ⟨by rw [HE.out]; rfl, Below.refl _ _⟩
  have HF := Lib.hid (show V = fstE n (rgE f) 0 by rw [HV.out]; unfold setE; rw [if_neg hn0, if_neg hn1])
  have e1 : ((n : Int) == 0) = false := by simpa using hn0
  have e2 : ¬ (40 : Int) < (n : Int) := by omega
  clear HV
  go_enter Tryd.func83, Tryd.ntmps83
  go_wp2_with fail
  go_loopw [3, 14] (fun lv iv wr => ∃ i : Nat, iv = .int .i64 i ∧ i ≤ n ∧ lv = .int .i64 (lastV f i) ∧ (∀ j, j < i → rgE f j = 0) ∧ Below w.heap.size w wr) (fun _ iv _ => n - (intOf iv).toNat)
  case atStart => exact ⟨0, rfl, by omega, rfl, fun j hj => by omega, Below.refl _ _⟩
  case round =>
    obtain ⟨i, rfl, hi, rfl, hno, hbel⟩ := hrel
    have HNO := Lib.hid hno
    have HBEL := Lib.hid hbel
    have hsz := hbel.size
    have hlr := lastV_range hno
    obtain ⟨L, hL⟩ : ∃ L, L = lastV f i := ⟨_, rfl⟩
    have HL := Lib.hid hL
    rw [← hL] at hlr ⊢
    clear hno hbel hL
    by_cases hin : i < n
    · have hin2 : (i : Int) < (n : Int) := by omega
      obtain ⟨b, off, hba, hcellG⟩ := (CellsF.below HP.out (Nat.le_refl _) HBEL.out) (by omega)
      have hcell := hcellG i hin
      obtain ⟨x, hx⟩ : ∃ x, x = f i := ⟨_, rfl⟩
      simp only at hcell hba
      rw [← hx] at hcell
      have HX := Lib.hid hx
      obtain ⟨fr, tt⟩ := x
      have d0 : wr.cell? ⟨b, off + i * 2, none⟩ = some (.int .i64 fr) := hcell 0 (by omega)
      have d1 : wr.cell? ⟨b, off + i * 2 + 1, none⟩ = some (.int .i64 tt) := hcell 1 (by omega)
      have zb := lt_of_cell d0
      simp only at zb
      clear hcell hcellG hx
      subst hba
      have hw1 := Lib.hid (show IntKind.i64.wrap (L + 1) = L + 1 from IntWalk.i64_in _ ⟨by omega, by omega⟩)
      by_cases hr : fr < 0 ∨ tt < fr ∨ 1114111 < tt
      · have HE := Lib.hid (show V = 2 by
          have h1 : rgE f i = 2 := rgE_range (by rw [← HX.out]; exact hr)
          rw [HF.out, fstE_some hin HNO.out (by rw [h1]; decide), h1])
        have hb2 := HBEL.out.alloc hsz (.cells #[.int .i64 fr, .int .i64 tt] 119)
        have HB2 := Lib.hid hb2
        clear hb2
        go_wp2
        all_goals first
          | (exfalso; omega)
          | (go_ret; exact ⟨by rw [HE.out]; rfl, HB2.out⟩)
      have HR := Lib.hid hr
      have r1 : ¬ fr < 0 := by omega
      have r2 : ¬ tt < fr := by omega
      have r3 : ¬ 1114111 < tt := by omega
      clear hr
      have hb2 := HBEL.out.alloc hsz (.cells #[.int .i64 fr, .int .i64 tt] 119)
      have HB2 := Lib.hid hb2
      clear hb2
      have hw2 := hw1.out
      by_cases ho : fr ≤ L + 1
      · have HE := Lib.hid (show V = 5 by
          have h1 : rgE f i = 5 := rgE_order (by rw [← HX.out]; exact HR.out) (by rw [← HX.out, ← HL.out]; exact ho)
          rw [HF.out, fstE_some hin HNO.out (by rw [h1]; decide), h1])
        go_wp2_with fail
        go_ret
        exact ⟨by rw [HE.out]; rfl, HB2.out⟩
      have HN := Lib.hid (show rgE f i = 0 from rgE_fine (by rw [← HX.out]; exact HR.out) (by rw [← HX.out, ← HL.out]; exact ho))
      go_wp2_with fail
      go_roundw
      case rel => exact ⟨i + 1, by go_num, by omega, by unfold lastV; rw [if_neg (by omega), Nat.add_sub_cancel, ← HX.out], fun j hj => by
        rcases Nat.lt_or_ge j i with h | h
        · exact HNO.out j h
        · rw [show j = i by omega]; exact HN.out, HB2.out⟩
      case measure => simp [intOf]; omega
    · have hin2 : ¬ (i : Int) < (n : Int) := by omega
      have HE := Lib.hid (show V = 0 by rw [HF.out]; exact fstE_none (fun j hj => HNO.out j (by omega)))
      go_wp2_with fail
      go_ret
      exact ⟨by rw [HE.out]; rfl, HBEL.out⟩
end Go.Proofs.YtghbicajcffjhaaDoor.PC
