
/-
  metric.Em, the reference's IsMark and Em.
-/
import Derived.Test.YtnigebnibikolaaDoorMeWalk
import Derived.Test.YtnigebnibikolaaDoorHas
import Derived.Test.YtnigebnibikolaaDoorIn
namespace Go.Proofs.YtnigebnibikolaaDoor.ME
open Go.RowKit Go.Law Go.Law.Me Ref
set_option linter.unusedVariables false
set_option linter.unusedSimpArgs false
set_option maxRecDepth 100000
theorem em_mark {c : Int} (h : markC c = true) : emC c = 0 := lookC_yes h
theorem em_single {c : Int} (h : markC c = false) (h2 : sglB c = true) : emC c = sglV c := (lookC_no h).trans (lookC_left h2)
theorem em_other {c : Int} (h : markC c = false) (h2 : sglB c = false) (h3 : anyR c (rngs othersT) = true) : emC c = winV othersT c := by
  refine (lookC_no h).trans ((lookC_right h2).trans ?_)
  rw [← rows3_any] at h3
  exact (lookC_left (d' := 0) h3).trans (lookC_left (d' := 0) h3).symm
theorem em_else {c : Int} (h : markC c = false) (h2 : sglB c = false) (h3 : anyR c (rngs othersT) = false) : emC c = 600 := by
  refine (lookC_no h).trans ((lookC_right h2).trans ?_)
  rw [← rows3_any] at h3
  exact lookC_right h3
set_option maxHeartbeats 2000000 in
theorem em_any (c : Int) (w : World) (ht : Tabs w) :
    Calls Tryd.prog 11 #[.int .i64 c] w fun e w' => e = .returned (.int .i64 (emC c)) ∧ Below w.heap.size w w' := by
  have HT := Lib.hid ht
  have hm := mark_any c w ht
  have hsg := fun w => single_any c w
  have H1 := Lib.hid (@em_mark c)
  have H2 := Lib.hid (@em_single c)
  have H3 := Lib.hid (@em_other c)
  have H4 := Lib.hid (@em_else c)
  obtain ⟨M, hM⟩ : ∃ M, M = markC c := ⟨_, rfl⟩
  obtain ⟨V, hV⟩ : ∃ V, V = sglV c := ⟨_, rfl⟩
  obtain ⟨B, hB⟩ : ∃ B, B = sglB c := ⟨_, rfl⟩
  obtain ⟨E, hE⟩ : ∃ E, E = emC c := ⟨_, rfl⟩
  rw [← hM] at hm
  rw [← hM, ← hE] at H1
  rw [← hM, ← hE, ← hB, ← hV] at H2
  rw [← hM, ← hE, ← hB] at H3 H4
  rw [← hV, ← hB] at hsg
  rw [← hE]
  have HMK := Lib.hid hm
  have HSG := Lib.hid hsg
  clear hM hV hB hE hm hsg ht
  cases M
  · cases B
    · have hwn := fun w1 (hb : Below w.heap.size w w1) => cells_of (HT.out.below (Nat.le_refl _) hb).others others_len
      have HW := Lib.hid hwn
      have H3' := Lib.hid (H3.out rfl rfl)
      have H4' := Lib.hid (H4.out rfl rfl)
      obtain ⟨OV, hOV⟩ : ∃ OV, OV = winV othersT c := ⟨_, rfl⟩
      obtain ⟨OB, hOB⟩ : ∃ OB, OB = anyR c (rngs othersT) := ⟨_, rfl⟩
      rw [← hOB, ← hOV] at H3'
      rw [← hOB] at H4'
      have HOV := Lib.hid hOV
      have HOB := Lib.hid hOB
      clear hwn H1 H2 H3 H4 hOV hOB
      go_enter Tryd.func11, Tryd.ntmps11
      go_wp2_with fail
      refine HMK.out.mono ?_
      rintro e w1 ⟨rfl, hb1⟩
      obtain ⟨b, off, cap, h1, h2⟩ := HW.out w1 hb1
      rw [show othersT.length = 17 from rfl] at h1
      have H2c := Lib.hid h2
      clear h2
      go_wp2_with fail
      refine (HSG.out _).mono ?_
      rintro e w2 ⟨rfl, rfl⟩
      go_wp2_with fail
      refine (within_any othersT c b off cap _ H2c.out (by decide)).mono ?_
      rintro e w3 ⟨rfl, hb3⟩
      rw [← HOV.out, ← HOB.out]
      have hb4 := hb1.trans (hb3.mono hb1.size)
      cases OB
      · have HE := Lib.hid (H4'.out rfl)
        clear H3' H4' h1
        go_wp2_with fail
        go_ret
        exact ⟨by rw [HE.out]; rfl, hb4⟩
      · have HE := Lib.hid (H3'.out rfl)
        clear H3' H4' h1
        go_wp2_with fail
        go_ret
        exact ⟨by rw [HE.out]; rfl, hb4⟩
    · have HE := Lib.hid (H2.out rfl rfl)
      clear H1 H2 H3 H4
      go_enter Tryd.func11, Tryd.ntmps11
      go_wp2_with fail
      refine HMK.out.mono ?_
      rintro e w1 ⟨rfl, hb1⟩
      go_wp2_with fail
      refine (HSG.out _).mono ?_
      rintro e w2 ⟨rfl, rfl⟩
      go_wp2_with fail
      go_ret
      exact ⟨by rw [HE.out]; rfl, hb1⟩
  · have HE := Lib.hid (H1.out rfl)
    clear H1 H2 H3 H4
    go_enter Tryd.func11, Tryd.ntmps11
    go_wp2_with fail
    refine HMK.out.mono ?_
    rintro e w1 ⟨rfl, hb1⟩
    go_wp2_with fail
    go_ret
    exact ⟨by rw [HE.out]; rfl, hb1⟩
theorem retB {a b : Bool} (h : a = b) : Ending.returned (.bool a) = .returned (.bool b) := by rw [h]
theorem retI {a b : Int} (h : a = b) : Ending.returned (.int .i64 a) = .returned (.int .i64 b) := by rw [h]
-- the reference's
theorem in_r (n lo hi : Int) (w : World) : Calls Tryd.prog 27 #[.int .i64 n, .int .i64 lo, .int .i64 hi] w fun e w' => e = .returned (.bool (inR n (lo, hi))) ∧ w = w' := in_any n lo hi w
set_option maxHeartbeats 2000000 in
theorem isMark_any (c : Int) (w : World) : Calls Tryd.prog 14 #[.int .i64 c] w fun e w' => e = .returned (.bool (markC c)) ∧ w = w' := by
  rw [← mark_same]
  obtain ⟨B, hB⟩ : ∃ B, B = anyR c markQ := ⟨_, rfl⟩
  rw [← hB]
  have HB := Lib.hid hB
  clear hB
  go_enter Tryd.func14, Tryd.ntmps14
  go_wp2_with (go_at_call 27; refine (in_r _ _ _ _).mono ?_; rintro e w3 ⟨rfl, rfl⟩)
  all_goals
    go_ret
    have e1 := HB.out
    clear HB
    go_tidy
    simp only [markQ, anyR, one, List.any_cons, List.any_nil, inR_one] at e1
    simp [*] at e1
    subst e1
    first | exact ⟨rfl, rfl⟩ | (simp [inR]; done) | (refine ⟨retB ?_, rfl⟩; rw [Bool.eq_iff_iff]; simp [*])
end Go.Proofs.YtnigebnibikolaaDoor.ME
