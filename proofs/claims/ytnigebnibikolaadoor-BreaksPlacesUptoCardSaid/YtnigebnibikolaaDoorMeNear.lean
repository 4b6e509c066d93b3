
/-
  The reference's Nearer.
-/
import Derived.Test.YtnigebnibikolaaDoorMeKern
import Derived.Deep.CutRange
import Derived.Deep.CutBlock
namespace Go.Proofs.YtnigebnibikolaaDoor.ME
open Go.RowKit Go.Law Go.Law.Me Ref
set_option linter.unusedVariables false
set_option linter.unusedSimpArgs false
set_option maxRecDepth 100000
def s4 : ByteArray := ⟨#[84, 86, 87, 89]⟩
def s5 : ByteArray := ⟨#[84, 86, 87, 89, 80]⟩
theorem has4 (c : Int) : hasC s4 c = lean c := hasC_of (L := [84, 86, 87, 89]) (by decide +kernel) c
theorem has5 (c : Int) : hasC s5 c = (lean c || decide (c = 80)) := by
  rw [hasC_of (L := [84, 86, 87, 89, 80]) (by decide +kernel) c]
  simp only [lean, leanR, anyR, one, List.any_cons, List.any_nil, inR_one, List.map_cons, List.map_nil, Bool.or_false, Bool.or_assoc]
def n1 (LA LB : Bool) (a b : Int) : Int := if (LA && decide (b = 65) || decide (a = 65) && LB) = true then 70 else 0
def n2 (LA LB : Bool) (a b : Int) : Int := if ((LA || decide (a = 80)) && (decide (b = 46) || decide (b = 44))) = true then 90 else n1 LA LB a b
theorem lean46 : lean 46 = false := by decide +kernel
theorem lean44 : lean 44 = false := by decide +kernel
theorem n2_pair (a b : Int) : n2 (lean a) (lean b) a b = pair a b := by
  rw [pair_eq]
  unfold n2 n1
  by_cases h : ((lean a || decide (a = 80)) && (decide (b = 46) || decide (b = 44))) = true
  · rw [if_pos h]
    have hb : b = 46 ∨ b = 44 := by simp at h; exact h.2
    have h2 : ¬ (lean a && decide (b = 65) || decide (a = 65) && lean b) = true := by
      rcases hb with rfl | rfl
      · rw [lean46]; simp
      · rw [lean44]; simp
    rw [if_neg h2, if_pos h]
  · rw [if_neg h]
    by_cases h2 : (lean a && decide (b = 65) || decide (a = 65) && lean b) = true
    · rw [if_pos h2, if_pos h2]
    · rw [if_neg h2, if_neg h2, if_neg h]
theorem n1_bd (LA LB : Bool) (a b : Int) : 0 ≤ n1 LA LB a b ∧ n1 LA LB a b ≤ 90 := by unfold n1; split <;> omega
theorem n2_bd (LA LB : Bool) (a b : Int) : 0 ≤ n2 LA LB a b ∧ n2 LA LB a b ≤ 90 := by
  unfold n2; split
  · omega
  · exact n1_bd _ _ _ _
theorem cell3 {W w1 : World} {B : Nat} {s : Int} {bold fixed : Bool} (hb : Below B W w1) {g : Nat} (hg : g < B) (h0 : W.cell? ⟨g, 0, none⟩ = some (.int .i64 s)) (h1 : W.cell? ⟨g, 1, none⟩ = some (.bool bold)) (h2 : W.cell? ⟨g, 2, none⟩ = some (.bool fixed)) :
    w1.cell? ⟨g, 0, none⟩ = some (.int .i64 s) ∧ w1.cell? ⟨g, 1, none⟩ = some (.bool bold) ∧ w1.cell? ⟨g, 2, none⟩ = some (.bool fixed) :=
  ⟨(hb.cell (p := ⟨g, 0, none⟩) hg).trans h0, (hb.cell (p := ⟨g, 1, none⟩) hg).trans h1, (hb.cell (p := ⟨g, 2, none⟩) hg).trans h2⟩
def Kept (w : World) (s : Int) (bold fixed : Bool) (wx : World) : Prop :=
  Below w.heap.size w wx ∧ w.heap.size < wx.heap.size ∧ wx.cell? ⟨w.heap.size, 0, none⟩ = some (.int .i64 s) ∧ wx.cell? ⟨w.heap.size, 1, none⟩ = some (.bool bold) ∧ wx.cell? ⟨w.heap.size, 2, none⟩ = some (.bool fixed)
theorem Kept.start (w : World) (s : Int) (bold fixed : Bool) (e : TypeId) : Kept w s bold fixed (w.alloc (.cells #[.int .i64 s, .bool bold, .bool fixed] e)) :=
  ⟨(Below.refl _ _).alloc (Nat.le_refl _) _, by simp, by simp, by simp, by simp⟩
theorem Kept.more {w wx wy : World} {s : Int} {bold fixed : Bool} (h : Kept w s bold fixed wx) (hb : Below wx.heap.size wx wy) : Kept w s bold fixed wy := by
  obtain ⟨h0, h1, h2, h3, h4⟩ := h
  obtain ⟨a, b, c⟩ := cell3 hb h1 h2 h3 h4
  exact ⟨h0.trans (hb.mono (by omega)), by have := hb.size; omega, a, b, c⟩
set_option maxHeartbeats 8000000 in
theorem nearer_any (a b : Int) (k : Look) (w : World) (hk : k.ok) :
    Calls Tryd.prog 25 #[.int .i64 a, .int .i64 b, lookV k] w fun e w' => e = .returned (.int .i64 (nearer a b k)) ∧ Below w.heap.size w w' := by
  obtain ⟨s, bold, fixed⟩ := k
  unfold lookV Look.ok at *
  simp only at hk ⊢
  have hn := show nearer a b ⟨s, bold, fixed⟩ = if fixed = true then 0 else half (pair a b * s) from rfl
  rw [← n2_pair] at hn
  obtain ⟨V, hV⟩ : ∃ V, V = nearer a b ⟨s, bold, fixed⟩ := ⟨_, rfl⟩
  rw [← hV] at hn ⊢
  have ha := fun w => has_any s4 a w
  have hb := fun w => has_any s4 b w
  have h5 := fun w => has_any s5 a w
  rw [has4] at ha hb
  rw [has5] at h5
  obtain ⟨LA, hLA⟩ : ∃ LA, LA = lean a := ⟨_, rfl⟩
  obtain ⟨LB, hLB⟩ : ∃ LB, LB = lean b := ⟨_, rfl⟩
  rw [← hLA] at ha h5 hn
  rw [← hLB] at hb hn
  obtain ⟨N1, hN1⟩ : ∃ N1, N1 = n1 LA LB a b := ⟨_, rfl⟩
  obtain ⟨N2, hN2⟩ : ∃ N2, N2 = n2 LA LB a b := ⟨_, rfl⟩
  rw [← hN2] at hn
  have hb1 := n1_bd LA LB a b
  have hb2 := n2_bd LA LB a b
  rw [← hN1] at hb1
  rw [← hN2] at hb2
  have HN1 := Lib.hid (show N1 = if (LA && decide (b = 65) || decide (a = 65) && LB) = true then 70 else 0 from hN1)
  have HN2 := Lib.hid (show N2 = if ((LA || decide (a = 80)) && (decide (b = 46) || decide (b = 44))) = true then 90 else N1 by rw [hN1]; exact hN2)
  have HV := Lib.hid hn
  have HAA := Lib.hid ha
  have HBB := Lib.hid hb
  have H5 := Lib.hid h5
  have hm := mul_bd (e := N2) (by omega) hk
  obtain ⟨hm1, hm2⟩ := hm
  obtain ⟨hk1, hk2⟩ := hk
  obtain ⟨hb11, hb12⟩ := hb1
  obtain ⟨hb21, hb22⟩ := hb2
  clear hn ha hb h5 hV hLA hLB hN1 hN2
  go_enter Tryd.func25, Tryd.ntmps25
  go_upto_region 2 with fail
  obtain ⟨C1, hC1⟩ : ∃ C1, C1 = (LA && decide (b = 65) || decide (a = 65) && LB) := ⟨_, rfl⟩
  obtain ⟨C2, hC2⟩ : ∃ C2, C2 = ((LA || decide (a = 80)) && (decide (b = 46) || decide (b = 44))) := ⟨_, rfl⟩
  rw [← hC1] at HN1
  rw [← hC2] at HN2
  have HC1 := Lib.hid hC1
  have HC2 := Lib.hid hC2
  clear hC1 hC2
  go_cut [7, 21] from 8 (fun nv tv wx => nv = .int .i64 0 ∧ tv = .bool C1 ∧ Kept w s bold fixed wx)
  case first =>
    have HK := Lib.hid (Kept.start w s bold fixed 37)
    cases LA
    · go_wp2_with fail
      refine (HAA.out _).mono ?_
      rintro e w1 ⟨rfl, hb1⟩
      have HK1 := Lib.hid (HK.out.more hb1)
      clear hb1
      by_cases h : a = 65
      · have h' : (a == 65) = true := by simpa using h
        have HX := Lib.hid h
        clear h
        go_wp2_with fail
        refine (HBB.out _).mono ?_
        rintro e w2 ⟨rfl, hb2⟩
        have HK2 := Lib.hid (HK1.out.more hb2)
        clear hb2
        go_wp2_with fail
        go_meet
        exact ⟨rfl, by rw [HC1.out, HX.out]; simp, HK2.out⟩
      · have h' : (a == 65) = false := by simpa using h
        have HX := Lib.hid h
        clear h
        go_wp2_with fail
        go_meet
        exact ⟨rfl, by rw [HC1.out]; simp [HX.out], HK1.out⟩
    · go_wp2_with fail
      refine (HAA.out _).mono ?_
      rintro e w1 ⟨rfl, hb1⟩
      have HK1 := Lib.hid (HK.out.more hb1)
      clear hb1
      by_cases h65 : b = 65
      · have h65' : (b == 65) = true := by simpa using h65
        have HY := Lib.hid h65
        clear h65
        go_wp2_with fail
        go_meet
        exact ⟨rfl, by rw [HC1.out, HY.out]; simp, HK1.out⟩
      · have h65' : (b == 65) = false := by simpa using h65
        have HY := Lib.hid h65
        clear h65
        by_cases h : a = 65
        · have h' : (a == 65) = true := by simpa using h
          have HX := Lib.hid h
          clear h
          go_wp2_with fail
          refine (HBB.out _).mono ?_
          rintro e w2 ⟨rfl, hb2⟩
          have HK2 := Lib.hid (HK1.out.more hb2)
          clear hb2
          go_wp2_with fail
          go_meet
          exact ⟨rfl, by rw [HC1.out, HX.out]; simp [HY.out], HK2.out⟩
        · have h' : (a == 65) = false := by simpa using h
          have HX := Lib.hid h
          clear h
          go_wp2_with fail
          go_meet
          exact ⟨rfl, by rw [HC1.out]; simp [HX.out, HY.out], HK1.out⟩
  case rest =>
  obtain ⟨rfl, rfl, hk1⟩ := hcut
  obtain ⟨wa, rfl⟩ : ∃ wa, wa = wc := ⟨_, rfl⟩
  go_upto_if 21 with fail
  go_cut [7] from 8 (fun nv wx => nv = .int .i64 N1 ∧ wx = wa)
  case first =>
    cases C1
    · have HX := Lib.hid (show N1 = 0 by rw [HN1.out]; simp)
      go_wp2_with fail
      go_meet
      exact ⟨by rw [HX.out], rfl⟩
    · have HX := Lib.hid (show N1 = 70 by rw [HN1.out]; simp)
      go_wp2_with fail
      go_meet
      exact ⟨by rw [HX.out], rfl⟩
  case rest =>
  obtain ⟨rfl, rfl⟩ := hcut
  go_upto_region 4 with fail
  go_cut [7, 31] from 8 (fun nv tv wx => nv = .int .i64 N1 ∧ tv = .bool C2 ∧ Kept w s bold fixed wx)
  case first =>
    obtain ⟨C5, hC5⟩ : ∃ C5, C5 = (LA || decide (a = 80)) := ⟨_, rfl⟩
    rw [← hC5] at H5 HC2
    clear hC5
    cases C5
    · go_wp2_with fail
      refine (H5.out _).mono ?_
      rintro e w1 ⟨rfl, hb1⟩
      have HK1 := Lib.hid (hk1.more hb1)
      clear hb1
      go_wp2_with fail
      go_meet
      exact ⟨rfl, by rw [HC2.out]; simp, HK1.out⟩
    · go_wp2_with fail
      refine (H5.out _).mono ?_
      rintro e w1 ⟨rfl, hb1⟩
      have HK1 := Lib.hid (hk1.more hb1)
      clear hb1
      by_cases h : b = 46
      · have h' : (b == 46) = true := by simpa using h
        have HX := Lib.hid h
        clear h
        go_wp2_with fail
        go_meet
        exact ⟨rfl, by rw [HC2.out, HX.out]; simp, HK1.out⟩
      · have h' : (b == 46) = false := by simpa using h
        have HX := Lib.hid h
        clear h
        by_cases h : b = 44
        · have h' : (b == 44) = true := by simpa using h
          have HY := Lib.hid h
          clear h
          go_wp2_with fail
          go_meet
          exact ⟨rfl, by rw [HC2.out, HY.out]; simp, HK1.out⟩
        · have h' : (b == 44) = false := by simpa using h
          have HY := Lib.hid h
          clear h
          go_wp2_with fail
          go_meet
          exact ⟨rfl, by rw [HC2.out]; simp [HX.out, HY.out], HK1.out⟩
  case rest =>
  obtain ⟨rfl, rfl, hk2⟩ := hcut
  obtain ⟨wb, rfl⟩ : ∃ wb, wb = wc := ⟨_, rfl⟩
  go_upto_if 31 with fail
  go_cut [7] from 8 (fun nv wx => nv = .int .i64 N2 ∧ wx = wb)
  case first =>
    cases C2
    · have HX := Lib.hid (show N2 = N1 by rw [HN2.out]; simp)
      go_wp2_with fail
      go_meet
      exact ⟨by rw [HX.out], rfl⟩
    · have HX := Lib.hid (show N2 = 90 by rw [HN2.out]; simp)
      go_wp2_with fail
      go_meet
      exact ⟨by rw [HX.out], rfl⟩
  case rest =>
  obtain ⟨rfl, rfl⟩ := hcut
  obtain ⟨hbel, hz, x0, x1, x2⟩ := hk2
  clear hk1
  cases fixed
  · have HE := Lib.hid (show V = half (N2 * s) by rw [HV.out]; simp)
    go_wp2_with fail
    refine (half_any (N2 * s) _ ⟨by omega, by omega⟩).mono ?_
    rintro e9 w2 ⟨rfl, m, rfl⟩
    go_wp2_with fail
    go_ret
    exact ⟨retI HE.out.symm, below_drewN hbel _⟩
  · have HE := Lib.hid (show V = half 0 by rw [HV.out]; rfl)
    go_wp2_with fail
    refine (half_any 0 _ ⟨by omega, by omega⟩).mono ?_
    rintro e9 w2 ⟨rfl, m, rfl⟩
    go_wp2_with fail
    go_ret
    exact ⟨retI HE.out.symm, below_drewN hbel _⟩
end Go.Proofs.YtnigebnibikolaaDoor.ME
