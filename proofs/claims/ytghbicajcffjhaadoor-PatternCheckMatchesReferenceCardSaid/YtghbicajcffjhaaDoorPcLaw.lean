
/-
  Patterns are there at all; the law of Check.
-/
import Derived.Test.YtghbicajcffjhaaDoorPcMMat
namespace Go.Law.Pn
open Go.RowKit
def tZ : PT := .mk ⟨0, false, false, 0, 0, 0, none, 0, fun _ => (0, 0), 0, none, 0⟩ (fun _ => .nil)
theorem tZ_ok (w : World) : tZ.Ok w := ⟨⟨fun h => absurd h (by simp), by simp⟩, fun h => absurd h (by simp), fun i hi => absurd hi (by simp)⟩
end Go.Law.Pn
namespace Go.Proofs.YtghbicajcffjhaaDoor.PC
open Go.RowKit Go.Law Go.Law.Pn
set_option linter.unusedVariables false
set_option linter.unusedSimpArgs false
set_option maxRecDepth 100000
def tD (S : Nat) : PT := .mk ⟨0, false, false, 0, 0, 1, some ⟨S, 0, none⟩, 1, digitsT, 0, none, 0⟩ (fun _ => .nil)
theorem tD_ok {S : Nat} {w : World} (h : Blk w S #[.int .i64 48, .int .i64 57] 119) : (tD S).Ok w := by
  refine ⟨⟨fun _ => ⟨S, 0, rfl, fun i hi j hj => ?_⟩, by simp⟩, fun h => absurd h (by simp), fun i hi => absurd hi (by simp)⟩
  simp only at hi
  obtain rfl : i = 0 := by omega
  match j, hj with
  | 0, _ => exact h.cell (i := 0) rfl
  | 1, _ => exact h.cell (i := 1) rfl
theorem setE_dig : setE 1 digitsT = 0 := by
  unfold setE
  rw [if_neg (by omega), if_neg (by omega)]
  refine fstE_none (fun j hj => ?_)
  rw [show j = 0 by omega]
  decide
theorem ck_dig (S : Nat) : ckN (tD S) 0 0 0 = (0, 1, 0) := by
  unfold tD
  rw [ckN_kids (by omega) (by omega) (by
    unfold shpE
    rw [if_neg (by simp), if_neg (by simp [frmBad]), if_pos (by rfl), if_neg (by simp)]
    exact setE_dig) (by simp)]
  rfl
theorem err_dig (S : Nat) : (tD S).err = 0 := by
  unfold PT.err
  rw [ck_dig]
  rw [if_neg (by simp), if_neg (by unfold tD; rw [PT.sz]; simp [szK])]
theorem nm_dig : nmB 1 digitsT = 100 := by
  unfold nmB
  rw [if_pos (by rw [eqR_true]; exact ⟨rfl, fun _ _ => rfl⟩)]
theorem shw_dig (S : Nat) : shwS (tD S) 0 = ⟨#[92, 100]⟩ := by
  unfold tD
  rw [shwS, if_pos (by rfl)]
  show brS 2 0 (setS false 1 digitsT) = _
  rw [brS, if_neg (by decide)]
  unfold setS
  rw [nm_dig, if_pos (by decide)]
  rfl
theorem chk_dig (S : Nat) : chkE (tD S) = 0 := by
  unfold chkE
  rw [err_dig, if_neg (by simp), shw_dig, if_neg (by decide)]
theorem chk_zero : chkE tZ = 7 := by
  have h : tZ.err = 7 := by
    have h1 : ckN tZ 0 0 0 = (7, 1, 0) := by
      unfold tZ
      rw [ckN, if_neg (by omega), if_neg (by omega)]
      have h2 : shpE ⟨0, false, false, 0, 0, 0, none, 0, fun _ => (0, 0), 0, none, 0⟩ = 7 := by
        unfold shpE
        rw [if_neg (by simp), if_neg (by simp [frmBad]), if_pos (by rfl), if_neg (by simp)]
        rfl
      rw [h2, if_pos (by decide)]
      rfl
    unfold PT.err
    rw [h1, if_pos (by decide)]
  unfold chkE
  rw [h, if_pos (by decide)]
theorem printD (S : Nat) (w : World) (hE : PEnv w) (hS : Blk w S #[.int .i64 48, .int .i64 57] 119) : Calls Tryd.prog 9 #[.agg (dgC S)] w fun e w' => e = .returned (.tuple #[.string ⟨#[92, 100]⟩, .int .i64 0]) ∧ Below w.heap.size w w' := by
  have h := print_any w hE (tD S) (tD_ok hS) w (Below.refl _ _)
  rw [chk_dig, if_pos rfl, shw_dig] at h
  exact h
set_option maxHeartbeats 8000000 in
theorem patterns_any (w : World) (hE : PEnv w) : Calls Tryd.prog 6 #[] w fun e w' => e = .returned (.bool true) ∧ Below w.heap.size w w' := by
  have HE := Lib.hid hE
  clear hE
  go_enter Tryd.func6, Tryd.ntmps6
  go_wp2_with (go_at_call 23; refine (digit_any _).mono ?_; rintro e w1 ⟨S, rfl, hSw, hS, hb1⟩)
  have HB1 := Lib.hid hb1
  have HP := Lib.hid (printD S w1 (HE.out.below hb1 (Nat.le_refl _)) hS)
  clear hSw hS hb1
  go_upto_region 2 with (go_at_call 9; refine HP.out.mono ?_; rintro e w2 ⟨rfl, hb2⟩)
  have HB2 := Lib.hid (HB1.out.trans (hb2.mono HB1.out.size))
  clear hb2 HP
  go_wp2_with (go_at_call 23; refine (digit_any _).mono ?_; rintro e w3 ⟨S2, rfl, hSw, hS, hb3⟩)
  have HB3 := Lib.hid (HB2.out.trans (hb3.mono HB2.out.size))
  obtain ⟨w4, hw4⟩ : ∃ x : World, x = w3.alloc (.cells #[.int .i64 97, .int .i64 49] 3) := ⟨_, rfl⟩
  obtain ⟨T, hT⟩ : ∃ x, x = w3.heap.size := ⟨_, rfl⟩
  have HT4 := Lib.hid (show Blk w4 T #[.int .i64 97, .int .i64 49] 3 by rw [hw4, hT]; exact Blk.new _ _ _)
  have HB4 := Lib.hid (show Below w.heap.size w w4 by rw [hw4]; exact HB3.out.alloc HB3.out.size _)
  have HS4 := Lib.hid (show Blk w4 S2 #[.int .i64 48, .int .i64 57] 119 by rw [hw4]; exact hS.alloc _)
  have HMT := Lib.hid (Match_any (S := S2) (T := T) (W := w4) (w := w4) (HE.out.below HB4.out (Nat.le_refl _)) (tD S2) (tD_ok HS4.out) rfl (chk_dig S2) (Below.refl _ _) HS4.out HT4.out)
  have HW4 := Lib.hid hw4
  have HTE := Lib.hid hT
  clear hw4 hT hSw hS hb3
  go_wp2_with (rw [← HW4.out, ← HTE.out]; go_at_call 24; refine HMT.out.mono ?_; rintro e w5 ⟨rfl, hb5⟩)
  go_ret
  exact ⟨rfl, (HB4.out.trans (hb5.mono HB4.out.size)).alloc (by have := HB4.out.size; have := hb5.size; omega) _⟩
set_option maxHeartbeats 16000000 in
theorem checkLaw_any (t : PT) (w : World) (hok : t.Ok w) (hE : PEnv w) : Calls Tryd.prog 3 #[.agg t.hd.cells.toArray] w fun e w' => e = .returned (.bool true) ∧ Below w.heap.size w w' := by
  have HPT := Lib.hid (fun (w' : World) (hb : Below w.heap.size w w') => patterns_any w' (hE.below hb (Nat.le_refl _)))
  have HCZ := Lib.hid (fun (w' : World) (hb : Below w.heap.size w w') => show Calls Tryd.prog 7 #[.agg #[.int .i64 0, .bool false, .bool false, .int .i64 0, .int .i64 0, .slice none 0 0, .slice none 0 0]] w' fun e w'' => e = .returned (.int .i64 7) ∧ Below w'.heap.size w' w'' from by
    have h := check_any w' (hE.below hb (Nat.le_refl _)) tZ (tZ_ok w') w' (Below.refl _ _)
    rw [chk_zero] at h
    exact h)
  have HCK := Lib.hid (fun (w' : World) (hb : Below w.heap.size w w') => check_any w hE t hok w' hb)
  have HER := Lib.hid (fun (w' : World) (hb : Below w.heap.size w w') => errorR_any w t hok w' hb)
  have HPR := Lib.hid (fun (w' : World) (hb : Below w.heap.size w w') => print_any w hE t hok w' hb)
  have HCE := Lib.hid (show t.err ≠ 0 → chkE t = t.err from fun h => by unfold chkE; rw [if_pos h])
  have HCS := Lib.hid (show t.err = 0 → (chkE t = 0 ∧ (shwS t 0).size ≤ 400) ∨ chkE t = 3 from fun h => by
    by_cases h2 : 400 < (shwS t 0).size
    · right; unfold chkE; rw [if_neg (by simpa using h), if_pos h2]
    · left; exact ⟨by unfold chkE; rw [if_neg (by simpa using h), if_neg h2], by omega⟩)
  obtain ⟨E, hEE⟩ : ∃ E, E = chkE t := ⟨_, rfl⟩
  obtain ⟨R, hR⟩ : ∃ R, R = t.err := ⟨_, rfl⟩
  obtain ⟨S, hS⟩ : ∃ S, S = shwS t 0 := ⟨_, rfl⟩
  obtain ⟨h, hh⟩ : ∃ h, h = t.hd := ⟨_, rfl⟩
  rw [← hEE, ← hh] at HCK
  rw [← hR, ← hh] at HER
  rw [← hEE, ← hS, ← hh] at HPR
  rw [← hEE, ← hR] at HCE
  rw [← hEE, ← hR, ← hS] at HCS
  rw [← hh]
  clear hEE hR hS hh hok hE
  obtain ⟨kind, nt, lz, lo, hi, sn, sa, sc, sf, kn, ka, kc⟩ := h
  unfold PH.cells at HCK HER HPR ⊢
  obtain ⟨w1, hw1⟩ : ∃ w1, w1 = w.alloc (.cells #[.int .i64 kind, .bool nt, .bool lz, .int .i64 lo, .int .i64 hi, .slice sa sn sc, .slice ka kn kc] 25) := ⟨_, rfl⟩
  have HB1 := Lib.hid (show Below w.heap.size w w1 by rw [hw1]; exact (Below.refl _ _).alloc (Nat.le_refl _) _)
  have HX := Lib.hid (show Blk w1 w.heap.size #[.int .i64 kind, .bool nt, .bool lz, .int .i64 lo, .int .i64 hi, .slice sa sn sc, .slice ka kn kc] 25 by rw [hw1]; exact Blk.new _ _ _)
  obtain ⟨P, hP⟩ : ∃ P, P = w.heap.size := ⟨_, rfl⟩
  rw [← hP] at HX
  have HPE := Lib.hid hP
  have HW1 := Lib.hid hw1
  clear hw1 hP
  have hPn : ∀ T1 : World, HPT = HPT := fun _ => rfl
  clear hPn
  go_enter Tryd.func3, Tryd.ntmps3
  go_upto_region 1 with fail
  rw [← HW1.out, ← HPE.out]
  go_upto_region 3 with (first | (go_at_call 6; refine (HPT.out w1 HB1.out).mono ?_; rintro e w2 ⟨rfl, hb2⟩; have HB2 := Lib.hid (HB1.out.trans (hb2.mono HB1.out.size))) | (go_at_call 7; refine (HCZ.out w2 HB2.out).mono ?_; rintro e w3 ⟨rfl, hb3⟩))
  have HB3 := Lib.hid (HB2.out.trans (hb3.mono HB2.out.size))
  have HX2 := Lib.hid (HX.out.below hb2 HX.out.lt)
  have HX3 := Lib.hid (HX2.out.below hb3 HX2.out.lt)
  have hPl := HX3.out.lt
  clear hb2 hb3 HB2 HX HX2 HPT HCZ
  have x0 : w3.cell? ⟨P, 0, none⟩ = some (.int .i64 kind) := HX3.out.cell (i := 0) rfl
  have x1 : w3.cell? ⟨P, 1, none⟩ = some (.bool nt) := HX3.out.cell (i := 1) rfl
  have x2 : w3.cell? ⟨P, 2, none⟩ = some (.bool lz) := HX3.out.cell (i := 2) rfl
  have x3 : w3.cell? ⟨P, 3, none⟩ = some (.int .i64 lo) := HX3.out.cell (i := 3) rfl
  have x4 : w3.cell? ⟨P, 4, none⟩ = some (.int .i64 hi) := HX3.out.cell (i := 4) rfl
  have x5 : w3.cell? ⟨P, 5, none⟩ = some (.slice sa sn sc) := HX3.out.cell (i := 5) rfl
  have x6 : w3.cell? ⟨P, 6, none⟩ = some (.slice ka kn kc) := HX3.out.cell (i := 6) rfl
  refine wp_region_held_drew (S := fun w' => w'.cell? ⟨P, 0, none⟩ = some (.int .i64 kind) ∧ w'.cell? ⟨P, 1, none⟩ = some (.bool nt) ∧ w'.cell? ⟨P, 2, none⟩ = some (.bool lz) ∧ w'.cell? ⟨P, 3, none⟩ = some (.int .i64 lo) ∧ w'.cell? ⟨P, 4, none⟩ = some (.int .i64 hi) ∧ w'.cell? ⟨P, 5, none⟩ = some (.slice sa sn sc) ∧ w'.cell? ⟨P, 6, none⟩ = some (.slice ka kn kc)) (by kernel_rfl) (by exact ⟨x0, x1, x2, x3, x4, x5, x6⟩) ?_
  intro hHeld
  refine takeD (i := 0) (oi := { dst := some 14, op := _, type := _, pos := _, after := _, guard := _ }) (d := some 14) (v := ?vva14) rfl rfl (by kernel_rfl) (by kernel_rfl) (by kernel_rfl) ?dda14 (by rfl) ?yya14 hHeld ?rra14
  case dda14 => first | exact fun _ _ _ h => h | exact fun _ _ _ h => HQ.out _ _ _ _ (by rfl) h
  case yya14 => (intro wx hSw; obtain ⟨y0, y1, y2, y3, y4, y5, y6⟩ := hSw; go_simp; try (with_reducible rfl))
  try simp (maxSteps := 1000000) only [Act.put, List.setIfInBounds_toArray, List.set_cons_zero, List.set_cons_succ]
  refine takeD (i := 2) (oi := { dst := some 16, op := _, type := _, pos := _, after := _, guard := _ }) (d := some 16) (v := ?vva16) rfl rfl (by kernel_rfl) (by kernel_rfl) (by kernel_rfl) ?dda16 (by rfl) ?yya16 hHeld ?rra16
  case dda16 => first | exact fun _ _ _ h => h | exact fun _ _ _ h => HQ.out _ _ _ _ (by rfl) h
  case yya16 => (intro wx hSw; obtain ⟨y0, y1, y2, y3, y4, y5, y6⟩ := hSw; go_simp; try (with_reducible rfl))
  try simp (maxSteps := 1000000) only [Act.put, List.setIfInBounds_toArray, List.set_cons_zero, List.set_cons_succ]
  refine wpAnyH_ready (rs := [1]) (by kernel_rfl) (by simp) ?_
  refine AllReadyH.cons (o := { dst := some 15, op := _, type := _, pos := _, after := _, guard := _ }) rfl (fun K hK => ?_) AllReadyH.nil
  go_simp
  refine (HCK.out w3.drew HB3.out.drew).mono ?_
  rintro e w4 ⟨rfl, hb4⟩
  have HB34 := Lib.hid (show Below w3.heap.size w3 w4 from ((Below.refl _ _).drew).trans hb4)
  have HB4 := Lib.hid (HB3.out.trans (HB34.out.mono HB3.out.size))
  have HX4 := Lib.hid (HX3.out.below HB34.out HX3.out.lt)
  refine hK.out _ _ (by exact ⟨HX4.out.cell (i := 0) rfl, HX4.out.cell (i := 1) rfl, HX4.out.cell (i := 2) rfl, HX4.out.cell (i := 3) rfl, HX4.out.cell (i := 4) rfl, HX4.out.cell (i := 5) rfl, HX4.out.cell (i := 6) rfl⟩) (fun hHeld2 => ?_)
  clear hK K hHeld hb4 x0 x1 x2 x3 x4 x5 x6
  try simp only [Act.put, List.setIfInBounds_toArray, List.set_cons_zero, List.set_cons_succ]
  refine wpAnyH_ready (rs := [3]) (by kernel_rfl) (by simp) ?_
  refine AllReadyH.cons (o := { dst := some 17, op := _, type := _, pos := _, after := _, guard := _ }) rfl (fun K hK => ?_) AllReadyH.nil
  go_simp
  refine (HER.out w4 HB4.out).mono ?_
  rintro e w5 ⟨rfl, hb5⟩
  have HB5 := Lib.hid (HB4.out.trans (hb5.mono HB4.out.size))
  have HX5 := Lib.hid (HX4.out.below hb5 HX4.out.lt)
  refine hK.out _ _ (by exact ⟨HX5.out.cell (i := 0) rfl, HX5.out.cell (i := 1) rfl, HX5.out.cell (i := 2) rfl, HX5.out.cell (i := 3) rfl, HX5.out.cell (i := 4) rfl, HX5.out.cell (i := 5) rfl, HX5.out.cell (i := 6) rfl⟩) (fun hHeld3 => ?_)
  clear hK K hHeld2 hb5
  try simp only [Act.put, List.setIfInBounds_toArray, List.set_cons_zero, List.set_cons_succ]
  refine takeD (i := 4) (oi := { dst := some 3, op := _, type := _, pos := _, after := _, guard := _ }) (d := some 3) (v := ?vvb3) rfl rfl (by kernel_rfl) (by kernel_rfl) (by kernel_rfl) ?ddb3 (by rfl) ?yyb3 hHeld3 ?rrb3
  case ddb3 => first | exact fun _ _ _ h => h | exact fun _ _ _ h => HQ.out _ _ _ _ (by rfl) h
  case yyb3 => (intro wx hSw; obtain ⟨y0, y1, y2, y3, y4, y5, y6⟩ := hSw; go_simp; try (with_reducible rfl))
  try simp (maxSteps := 1000000) only [Act.put, List.setIfInBounds_toArray, List.set_cons_zero, List.set_cons_succ]
  refine takeD (i := 5) (oi := { dst := some 4, op := _, type := _, pos := _, after := _, guard := _ }) (d := some 4) (v := ?vvb4) rfl rfl (by kernel_rfl) (by kernel_rfl) (by kernel_rfl) ?ddb4 (by rfl) ?yyb4 hHeld3 ?rrb4
  case ddb4 => first | exact fun _ _ _ h => h | exact fun _ _ _ h => HQ.out _ _ _ _ (by rfl) h
  case yyb4 => (intro wx hSw; obtain ⟨y0, y1, y2, y3, y4, y5, y6⟩ := hSw; go_simp; try (with_reducible rfl))
  try simp (maxSteps := 1000000) only [Act.put, List.setIfInBounds_toArray, List.set_cons_zero, List.set_cons_succ]
  refine wpAnyH_done (by kernel_rfl) ?_ _
  clear hHeld3
  by_cases hR0 : R = 0
  case neg =>
    have HEE := Lib.hid (HCE.out hR0)
    have r1 : (R != 0) = true := by simpa using hR0
    have r2 : (E == R) = true := by simpa using HCE.out hR0
    clear hR0
    go_wp2_with fail
    go_ret
    exact ⟨rfl, HB5.out⟩
  have r1 : (R != 0) = false := by simpa using hR0
  have HC := Lib.hid (HPR.out w5 HB5.out)
  have x0 : w5.cell? ⟨P, 0, none⟩ = some (.int .i64 kind) := HX5.out.cell (i := 0) rfl
  have x1 : w5.cell? ⟨P, 1, none⟩ = some (.bool nt) := HX5.out.cell (i := 1) rfl
  have x2 : w5.cell? ⟨P, 2, none⟩ = some (.bool lz) := HX5.out.cell (i := 2) rfl
  have x3 : w5.cell? ⟨P, 3, none⟩ = some (.int .i64 lo) := HX5.out.cell (i := 3) rfl
  have x4 : w5.cell? ⟨P, 4, none⟩ = some (.int .i64 hi) := HX5.out.cell (i := 4) rfl
  have x5 : w5.cell? ⟨P, 5, none⟩ = some (.slice sa sn sc) := HX5.out.cell (i := 5) rfl
  have x6 : w5.cell? ⟨P, 6, none⟩ = some (.slice ka kn kc) := HX5.out.cell (i := 6) rfl
  rcases HCS.out hR0 with ⟨hE0, hS4⟩ | hE3
  · rw [if_pos hE0] at HC
    have hs1 : (S.size : Int) ≤ 400 := by omega
    subst hE0
    clear hR0 hS4
    go_wp2_with (go_at_call 9; refine HC.out.mono ?_; rintro e w6 ⟨rfl, hb6⟩)
    go_ret
    exact ⟨rfl, HB5.out.trans (hb6.mono HB5.out.size)⟩
  · rw [if_neg (by omega)] at HC
    subst hE3
    clear hR0
    go_wp2_with (go_at_call 9; refine HC.out.mono ?_; rintro e w6 ⟨rfl, hb6⟩)
    go_ret
    exact ⟨rfl, HB5.out.trans (hb6.mono HB5.out.size)⟩
end Go.Proofs.YtghbicajcffjhaaDoor.PC
