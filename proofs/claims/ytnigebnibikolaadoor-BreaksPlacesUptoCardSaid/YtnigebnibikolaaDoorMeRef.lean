
/-
  The reference's Em.
-/
import Derived.Test.YtnigebnibikolaaDoorMeEm
namespace Go.Proofs.YtnigebnibikolaaDoor.ME
open Go.RowKit Go.Law Go.Law.Me Ref
set_option linter.unusedVariables false
set_option linter.unusedSimpArgs false
set_option maxRecDepth 100000
theorem any_has (c : Int) : ∀ (L : List Int), L.any (fun x => x == c) = anyR c (L.map one)
  | [] => rfl
  | k :: L => by
    have h := any_has c L
    unfold anyR at h ⊢
    rw [List.map_cons, List.any_cons, List.any_cons, h]
    congr 1
    unfold one
    rw [inR_one, Bool.eq_iff_iff]
    simp
    exact ⟨fun h => h.symm, fun h => h.symm⟩
theorem hasC_of {s : ByteArray} {L : List Int} (h : runesFrom s s.size 0 = L) (c : Int) : hasC s c = anyR c (L.map one) := by
  rw [← any_has, ← h]; rfl
def s280 : ByteArray := ⟨#[105, 106, 108, 33, 39, 44, 46, 58, 59, 124]⟩
def s330 : ByteArray := ⟨#[73, 102, 114, 116, 40, 41, 91, 93, 45]⟩
theorem has280 (c : Int) : hasC s280 c = anyR c ([105, 106, 108, 33, 39, 44, 46, 58, 59, 124].map one) := hasC_of (by decide +kernel) c
theorem has330 (c : Int) : hasC s330 c = anyR c ([73, 102, 114, 116, 40, 41, 91, 93, 45].map one) := hasC_of (by decide +kernel) c
theorem emQ_eq (c : Int) : lookC c emQ 600 = (if (markC c || (decide (c = 9) || decide (c = 10))) = true then 0 else if (decide (c = 32) || decide (c = 160)) = true then 250 else if hasC s280 c = true then 280 else if hasC s330 c = true then 330
    else if (decide (c = 109) || decide (c = 119)) = true then 760 else if (decide (c = 77) || decide (c = 87)) = true then 880 else if (inR c (65, 90) || inR c (192, 222)) = true then 660 else if (inR c (33, 126) || (inR c (223, 591) || inR c (8208, 8211))) = true then 500
    else if inR c (880, 1327) = true then 560 else if inR c (1424, 2303) = true then 520 else if (inR c (4352, 4447) || (decide (c = 8212) || (inR c (11904, 42191) || (inR c (44032, 55203) || (inR c (63744, 64255) || (inR c (65280, 65376) || inR c (131072, 262141))))))) = true then 1000 else 600) := by
  rw [has280, has330, ← mark_same]
  simp only [emQ, lookC, anyR, List.any_append, List.any_cons, List.any_nil, one, inR_one, Bool.or_false, List.map_cons, List.map_nil]
set_option maxHeartbeats 4000000 in
theorem emRef_any (c : Int) (w : World) : Calls Tryd.prog 12 #[.int .i64 c] w fun e w' => e = .returned (.int .i64 (emC c)) ∧ Below w.heap.size w w' := by
  rw [← em_same]
  have he := emQ_eq c
  have hmk := fun w => isMark_any c w
  have h1 := fun w => has_any s280 c w
  have h2 := fun w => has_any s330 c w
  obtain ⟨E, hE⟩ : ∃ E, E = lookC c emQ 600 := ⟨_, rfl⟩
  obtain ⟨M, hM⟩ : ∃ M, M = markC c := ⟨_, rfl⟩
  obtain ⟨B1, hB1⟩ : ∃ B1, B1 = hasC s280 c := ⟨_, rfl⟩
  obtain ⟨B2, hB2⟩ : ∃ B2, B2 = hasC s330 c := ⟨_, rfl⟩
  rw [← hE, ← hM, ← hB1, ← hB2] at he
  rw [← hM] at hmk
  rw [← hB1] at h1
  rw [← hB2] at h2
  rw [← hE]
  have HE := Lib.hid he
  have HMK := Lib.hid hmk
  have H1 := Lib.hid h1
  have H2 := Lib.hid h2
  clear he hmk h1 h2 hE hM hB1 hB2
  cases M
  · go_enter Tryd.func12, Tryd.ntmps12
    go_wp2_with (go_at_call 14; refine (HMK.out _).mono ?_; rintro e w3 ⟨rfl, rfl⟩)
    all_goals try (
      go_ret
      have e1 := HE.out
      clear HE
      go_tidy
      simp [*] at e1
      subst e1
      first | exact ⟨rfl, (Below.refl _ _)⟩ | (refine ⟨retI ?_, (Below.refl _ _)⟩; simp [inR]; done) | (refine ⟨retI ?_, (Below.refl _ _)⟩; simp [*]; done) | (refine ⟨retI ?_, (Below.refl _ _)⟩; simp_all; done)
      )
    refine (H1.out _).mono ?_
    rintro e w1 ⟨rfl, hb1⟩
    cases B1
    · go_wp2_with fail
      refine (H2.out _).mono ?_
      rintro e w2 ⟨rfl, hb2⟩
      have hb2 := hb1.trans (hb2.mono hb1.size)
      clear hb1
      cases B2
      · go_wp2_with (go_at_call 27; refine (in_r _ _ _ _).mono ?_; rintro e w3 ⟨rfl, rfl⟩)
        all_goals
          go_ret
          have e1 := HE.out
          clear HE
          go_tidy
          simp [*] at e1
          subst e1
          first | exact ⟨rfl, hb2⟩ | (refine ⟨retI ?_, hb2⟩; simp [inR]; done) | (refine ⟨retI ?_, hb2⟩; simp [*]; done) | (refine ⟨retI ?_, hb2⟩; simp_all; done)
      · go_wp2_with fail
        go_ret
        have e1 := HE.out
        clear HE
        go_tidy
        simp [*] at e1
        subst e1
        first | exact ⟨rfl, hb2⟩ | (refine ⟨retI ?_, hb2⟩; simp [inR]; done) | (refine ⟨retI ?_, hb2⟩; simp [*]; done) | (refine ⟨retI ?_, hb2⟩; simp_all; done)
    · go_wp2_with fail
      go_ret
      have e1 := HE.out
      clear HE
      go_tidy
      simp [*] at e1
      subst e1
      first | exact ⟨rfl, hb1⟩ | (refine ⟨retI ?_, hb1⟩; simp [inR]; done) | (refine ⟨retI ?_, hb1⟩; simp [*]; done) | (refine ⟨retI ?_, hb1⟩; simp_all; done)
  · go_enter Tryd.func12, Tryd.ntmps12
    go_wp2_with (go_at_call 14; refine (HMK.out _).mono ?_; rintro e w3 ⟨rfl, rfl⟩)
    go_ret
    have e1 := HE.out
    clear HE
    go_tidy
    simp [*] at e1
    subst e1
    first | exact ⟨rfl, (Below.refl _ _)⟩ | (refine ⟨retI ?_, (Below.refl _ _)⟩; simp [inR]; done) | (refine ⟨retI ?_, (Below.refl _ _)⟩; simp [*]; done) | (refine ⟨retI ?_, (Below.refl _ _)⟩; simp_all; done)
end Go.Proofs.YtnigebnibikolaaDoor.ME
