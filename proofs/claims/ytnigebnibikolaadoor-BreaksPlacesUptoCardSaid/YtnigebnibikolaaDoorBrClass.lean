
/-
  breaks.class and the reference's breakClass.
-/
import Derived.Test.YtnigebnibikolaaDoorMeRef
import Derived.Test.YtnigebnibikolaaDoorBrPlain
namespace Go.Proofs.YtnigebnibikolaaDoor.BR
open Go.RowKit Go.Law Go.Law.Me Go.Law.Br Ref ME
set_option linter.unusedVariables false
set_option linter.unusedSimpArgs false
set_option maxRecDepth 100000
/-- the table of the marks is in its variable -/
structure MarkT (w : World) : Prop where
  marks : TabAt w 1 3 marksT
theorem MarkT.below {W w : World} {B : Nat} (h : MarkT W) (hB : W.heap.size ≤ B) (hb : Below B W w) : MarkT w := ⟨h.marks.below marks_len (by omega) (by decide) hB hb⟩
theorem markT_any (c : Int) (w : World) (ht : MarkT w) :
    Calls Tryd.prog 13 #[.int .i64 c] w fun e w' => e = .returned (.bool (markC c)) ∧ Below w.heap.size w w' := by
  obtain ⟨b, off, cap, h1, h2⟩ := cells_of ht.marks marks_len
  have hw := within_any marksT c b off cap w h2 (by decide)
  rw [show marksT.length = 12 from rfl] at h1 hw
  have HW := Lib.hid hw
  have HM := Lib.hid (show anyR c (rngs marksT) = markC c from rfl)
  clear h2 hw ht
  go_enter Tryd.func13, Tryd.ntmps13
  go_wp2_with fail
  refine HW.out.mono ?_
  rintro e w1 ⟨rfl, hb1⟩
  rw [HM.out]
  go_wp2_with fail
  go_ret
  exact ⟨rfl, hb1⟩
theorem cls_eq (c : Int) : clsC c = (if decide (c = 10) = true then 1 else if (decide (c = 32) || decide (c = 9)) = true then 2 else if decide (c = 8203) = true then 3 else if (decide (c = 160) || (decide (c = 8239) || (decide (c = 8288) || decide (c = 65279)))) = true then 4
    else if (decide (c = 45) || (decide (c = 8208) || decide (c = 8211))) = true then 5 else if decide (c = 173) = true then 6 else if (decide (48 ≤ c) && decide (c ≤ 57)) = true then 11
    else if (decide (c = 40) || (decide (c = 91) || (decide (c = 123) || (decide (c = 171) || (decide (c = 191) || (decide (c = 161) || (decide (c = 8216) || (decide (c = 8220) || decide (c = 12300))))))))) = true then 7
    else if (decide (c = 41) || (decide (c = 93) || (decide (c = 125) || (decide (c = 187) || (decide (c = 44) || (decide (c = 46) || (decide (c = 58) || (decide (c = 59) || (decide (c = 33) || (decide (c = 63) || (decide (c = 8217) || (decide (c = 8221) || (decide (c = 8230) || (decide (c = 12289) || (decide (c = 12290) || decide (c = 12301)))))))))))))))) = true then 8
    else if (decide (c = 65532) || ((decide (11904 ≤ c) && decide (c ≤ 42191)) || ((decide (44032 ≤ c) && decide (c ≤ 55203)) || ((decide (63744 ≤ c) && decide (c ≤ 64255)) || ((decide (65280 ≤ c) && decide (c ≤ 65376)) || (decide (131072 ≤ c) && decide (c ≤ 262141))))))) = true then 9
    else if (decide (c = 8205) || markC c) = true then 10 else 0) := by
  have h2 : ∀ a b : Int, decide (a ≤ c ∧ c ≤ b) = (decide (a ≤ c) && decide (c ≤ b)) := fun a b => by rw [Bool.eq_iff_iff]; simp
  have h3 : ∀ k : Int, decide (k ≤ c ∧ c ≤ k) = decide (c = k) := fun k => by rw [decide_eq_decide]; omega
  have h4 : (rngs marksT).any (inR c) = markC c := rfl
  simp only [clsC, classR, openR, closR, wideR, lookC, anyR, one, List.any_cons, List.any_nil, h4, inR, h3, Bool.or_false, h2]
theorem brk_eq (c : Int) : brkC c = (if decide (c = 10) = true then 110 else if (decide (c = 9) || decide (c = 32)) = true then 115 else if decide (c = 8203) = true then 122 else if (decide (c = 160) || (decide (c = 8239) || (decide (c = 8288) || decide (c = 65279)))) = true then 103
    else if (decide (c = 45) || (decide (c = 8208) || decide (c = 8211))) = true then 104 else if decide (c = 173) = true then 45 else if inR c (48, 57) = true then 100
    else if anyR c openQ = true then 111
    else if anyR c closQ = true then 99
    else if (decide (c = 65532) || (inR c (11904, 42191) || (inR c (44032, 55203) || (inR c (63744, 64255) || (inR c (65280, 65376) || inR c (131072, 262141)))))) = true then 119
    else if (decide (c = 8205) || markC c) = true then 109 else 120) := by
  have h4 : markQ.any (inR c) = markC c := mark_same c
  simp only [brkC, breakR, wideR, lookC, anyR, one, List.any_cons, List.any_nil, h4, inR_one, Bool.or_false]
  rfl
theorem retK {k : IntKind} {a b : Int} (h : a = b) : Ending.returned (.int k a) = .returned (.int k b) := by rw [h]
set_option maxHeartbeats 8000000 in
theorem class_any (c : Int) (w : World) (ht : MarkT w) :
    Calls Tryd.prog 58 #[.int .i64 c] w fun e w' => e = .returned (.int .i64 (clsC c)) ∧ Below w.heap.size w w' := by
  have he := cls_eq c
  have hm := markT_any c w ht
  obtain ⟨E, hE⟩ : ∃ E, E = clsC c := ⟨_, rfl⟩
  obtain ⟨M, hM⟩ : ∃ M, M = markC c := ⟨_, rfl⟩
  rw [← hE, ← hM] at he
  rw [← hM] at hm
  rw [← hE]
  have HE := Lib.hid he
  have HMK := Lib.hid hm
  clear he hm hE hM ht
  have hb0 := Below.refl w.heap.size w
  go_enter Tryd.func58, Tryd.ntmps58
  go_wp2_with (go_at_call 13; refine HMK.out.mono ?_; rintro e w1 ⟨rfl, hb1⟩)
  all_goals
    go_ret
    refine ⟨retK ?_, (by assumption)⟩
    rw [HE.out]
    clear HE
    go_tidy
    first | (subst ‹c = _›; decide) | (simp [*]; done) | (simp_all; done) | (simp_all; omega)
def sOpen : ByteArray := ⟨#[40, 91, 123, 194, 171, 194, 191, 194, 161, 226, 128, 152, 226, 128, 156, 227, 128, 140]⟩
def sClos : ByteArray := ⟨#[41, 93, 125, 44, 46, 58, 59, 33, 63, 194, 187, 226, 128, 153, 226, 128, 157, 226, 128, 166, 227, 128, 129, 227, 128, 130, 227, 128, 141]⟩
theorem hasOpen (c : Int) : hasC sOpen c = anyR c openQ := hasC_of (L := [40, 91, 123, 171, 191, 161, 8216, 8220, 12300]) (by decide +kernel) c
theorem hasClos (c : Int) : hasC sClos c = anyR c closQ := hasC_of (L := [41, 93, 125, 44, 46, 58, 59, 33, 63, 187, 8217, 8221, 8230, 12289, 12290, 12301]) (by decide +kernel) c
set_option maxHeartbeats 8000000 in
theorem breakClass_any (c : Int) (w : World) :
    Calls Tryd.prog 45 #[.int .i64 c] w fun e w' => e = .returned (.int .u8 (brkC c)) ∧ Below w.heap.size w w' := by
  have he := brk_eq c
  rw [← hasOpen, ← hasClos] at he
  have hmk := fun w => isMark_any c w
  have h1 := fun w => has_any sOpen c w
  have h2 := fun w => has_any sClos c w
  obtain ⟨E, hE⟩ : ∃ E, E = brkC c := ⟨_, rfl⟩
  obtain ⟨M, hM⟩ : ∃ M, M = markC c := ⟨_, rfl⟩
  obtain ⟨B1, hB1⟩ : ∃ B1, B1 = hasC sOpen c := ⟨_, rfl⟩
  obtain ⟨B2, hB2⟩ : ∃ B2, B2 = hasC sClos c := ⟨_, rfl⟩
  rw [← hE, ← hM, ← hB1, ← hB2] at he
  rw [← hM] at hmk
  rw [← hB1] at h1
  rw [← hB2] at h2
  rw [← hE]
  have HE := Lib.hid he
  have HMK := Lib.hid hmk
  have H1 := Lib.hid h1
  have H2 := Lib.hid h2
  clear he hmk h1 h2 hE hM hB1 hB2
  have hb0 := Below.refl w.heap.size w
  go_enter Tryd.func45, Tryd.ntmps45
  go_wp2_with (go_at_call 27; refine (in_r _ _ _ _).mono ?_; rintro e w3 ⟨rfl, rfl⟩)
  all_goals try (
    go_ret
    refine ⟨retK ?_, hb0⟩
    rw [HE.out]
    clear HE
    go_tidy
    first | (subst ‹c = _›; decide) | (simp [*]; done) | (simp_all; done) | (simp_all; omega)
    )
  refine (H1.out _).mono ?_
  rintro e w1 ⟨rfl, hb1⟩
  cases B1
  · go_wp2_with fail
    refine (H2.out _).mono ?_
    rintro e w2 ⟨rfl, hb2⟩
    have hb2 := hb1.trans (hb2.mono hb1.size)
    clear hb1
    cases B2
    · cases M
      · go_wp2_with (first | (go_at_call 27; refine (in_r _ _ _ _).mono ?_; rintro e w3 ⟨rfl, rfl⟩) | (go_at_call 14; refine (HMK.out _).mono ?_; rintro e w3 ⟨rfl, rfl⟩))
        all_goals
          go_ret
          refine ⟨retK ?_, hb2⟩
          rw [HE.out]
          clear HE
          go_tidy
          first | (subst ‹c = _›; decide) | (simp [*]; done) | (simp_all; done) | (simp_all; omega)
      · go_wp2_with (first | (go_at_call 27; refine (in_r _ _ _ _).mono ?_; rintro e w3 ⟨rfl, rfl⟩) | (go_at_call 14; refine (HMK.out _).mono ?_; rintro e w3 ⟨rfl, rfl⟩))
        all_goals
          go_ret
          refine ⟨retK ?_, hb2⟩
          rw [HE.out]
          clear HE
          go_tidy
          first | (subst ‹c = _›; decide) | (simp [*]; done) | (simp_all; done) | (simp_all; omega)
    · go_wp2_with fail
      go_ret
      refine ⟨retK ?_, hb2⟩
      rw [HE.out]
      clear HE
      go_tidy
      first | (subst ‹c = _›; decide) | (simp [*]; done) | (simp_all; done) | (simp_all; omega)
  · go_wp2_with fail
    go_ret
    refine ⟨retK ?_, hb1⟩
    rw [HE.out]
    clear HE
    go_tidy
    first | (subst ‹c = _›; decide) | (simp [*]; done) | (simp_all; done) | (simp_all; omega)
end Go.Proofs.YtnigebnibikolaaDoor.BR
