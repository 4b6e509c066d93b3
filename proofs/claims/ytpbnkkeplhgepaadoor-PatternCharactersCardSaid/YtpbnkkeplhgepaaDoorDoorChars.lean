
/-
  PatternCharacters returns true for every number, where the program's tables hold what its text lays: the walk.
-/
import Derived.Test.YtpbnkkeplhgepaaDoorDoorSmall
namespace Go.Proofs.YtpbnkkeplhgepaaDoor.PC
open Go.RowKit Go.Law
set_option linter.unusedVariables false
set_option linter.unusedSimpArgs false
set_option maxRecDepth 100000
theorem hit_eq (T : List (List Int)) (c : Int) (i : Nat) : hit T c i = decide (ent T i 0 ≤ c ∧ c ≤ ent T i 1) := rfl
theorem low_small (c : Int) : low c = small c := by
  have e : findR casesT c = [0, 1, 2, 3, 4, 5, 6].find? (hit casesT c) := rfl
  unfold low small
  rw [e]
  simp only [List.find?_cons, hit_eq, List.find?_nil,
    show ent casesT 0 0 = 65 from rfl, show ent casesT 0 1 = 90 from rfl, show ent casesT 1 0 = 192 from rfl, show ent casesT 1 1 = 214 from rfl, show ent casesT 2 0 = 216 from rfl, show ent casesT 2 1 = 222 from rfl,
    show ent casesT 3 0 = 913 from rfl, show ent casesT 3 1 = 929 from rfl, show ent casesT 4 0 = 931 from rfl, show ent casesT 4 1 = 937 from rfl, show ent casesT 5 0 = 1024 from rfl, show ent casesT 5 1 = 1039 from rfl, show ent casesT 6 0 = 1040 from rfl, show ent casesT 6 1 = 1071 from rfl]
  by_cases h0 : 65 ≤ c ∧ c ≤ 90
  · simp [h0]; rfl
  by_cases h1 : 192 ≤ c ∧ c ≤ 214
  · simp [h0, h1]; rfl
  by_cases h2 : 216 ≤ c ∧ c ≤ 222
  · simp [h0, h1, h2]; rfl
  by_cases h3 : 913 ≤ c ∧ c ≤ 929
  · simp [h0, h1, h2, h3]; rfl
  by_cases h4 : 931 ≤ c ∧ c ≤ 937
  · simp [h0, h1, h2, h3, h4]; rfl
  by_cases h5 : 1024 ≤ c ∧ c ≤ 1039
  · have h6 : ¬ (1040 ≤ c ∧ c ≤ 1071) := by omega
    simp [h0, h1, h2, h3, h4, h5, h6]; rfl
  by_cases h6 : 1040 ≤ c ∧ c ≤ 1071
  · simp [h0, h1, h2, h3, h4, h5, h6]; rfl
  simp [h0, h1, h2, h3, h4, h5, h6]
theorem word_wordC (c : Int) : word c = wordC c := by
  have e : findR lettersT c = [0, 1, 2, 3, 4, 5].find? (hit lettersT c) := rfl
  unfold word wordC
  rw [e, Bool.eq_iff_iff]
  rw [List.find?_isSome]
  simp only [List.mem_cons, List.not_mem_nil, or_false, hit_eq, decide_eq_true_eq]
  constructor
  · rintro ⟨x, rfl | rfl | rfl | rfl | rfl | rfl, hx⟩
    · exact .inl hx
    · exact .inr (.inl hx)
    · have : (95 : Int) ≤ c ∧ c ≤ 95 := hx
      exact .inr (.inr (.inr (.inl (by omega))))
    · exact .inr (.inr (.inl hx))
    · exact .inr (.inr (.inr (.inr (.inl hx))))
    · exact .inr (.inr (.inr (.inr (.inr hx))))
  · rintro (h | h | h | h | h | h)
    · exact ⟨0, .inl rfl, h⟩
    · exact ⟨1, .inr (.inl rfl), h⟩
    · exact ⟨3, .inr (.inr (.inr (.inl rfl))), h⟩
    · exact ⟨2, .inr (.inr (.inl rfl)), (show (95 : Int) ≤ c ∧ c ≤ 95 by omega)⟩
    · exact ⟨4, .inr (.inr (.inr (.inr (.inl rfl)))), h⟩
    · exact ⟨5, .inr (.inr (.inr (.inr (.inr rfl)))), h⟩
set_option maxHeartbeats 4000000 in
theorem chars_any (c : Int) (w : World) (h1 : TabAt w 0 3 casesT) (h2 : TabAt w 1 2 lettersT) :
    Calls Tryd.prog 3 #[.int .i64 c] w fun e w' => e = .returned (.bool true) ∧ Below w.heap.size w w' := by
  go_enter Tryd.func3, Tryd.ntmps3
  go_wp2_with fail
  refine (lower_any 1040 _ h1).mono ?_
  rintro e w1 ⟨rfl, hb1⟩
  rw [show low 1040 = 1072 by rw [low_small]; rfl]
  go_wp2_with fail
  refine (word_any 95 _ (h2.below letters_len (by omega) (by decide) (Nat.le_refl _) hb1)).mono ?_
  rintro e w2 ⟨rfl, hb2⟩
  rw [show word 95 = true by rw [word_wordC]; rfl]
  have hs1 := hb1.size
  have hb12 := hb1.trans (hb2.mono hs1)
  clear hb1 hb2
  go_wp2_with fail
  refine (within_any c 0 1536 _ (by omega) (by omega) (by omega)).mono ?_
  rintro e w3 ⟨r, rfl, rfl, hr1, hr2⟩
  have hs2 := hb12.size
  have H1 := Lib.hid h1
  have H2 := Lib.hid h2
  clear h1 h2
  go_wp2_with fail
  go_loopw [16] (fun ix wr => ∃ k : Nat, ix = .int .i64 k ∧ k ≤ 2 ∧ Below (w2.heap.size + 1) (w2.alloc (.cells #[.int .i64 c, .int .i64 r] 3)) wr) (fun ix _ => 2 - (intOf ix).toNat)
  case atStart => exact ⟨0, rfl, by omega, Below.refl _ _⟩
  case round =>
    obtain ⟨k, rfl, hk, hbel⟩ := hrel
    have hsz := hbel.size
    simp at hsz
    have hbw : Below w.heap.size w wr := hb12.trans (((Below.refl _ _).alloc hs2 _).trans (hbel.mono (by omega)))
    by_cases hk2 : k < 2
    · obtain ⟨x, hx⟩ : ∃ x, wr.cell? ⟨w2.heap.size, k, none⟩ = some (.int .i64 x) := by
        rw [hbel.cell (show w2.heap.size < w2.heap.size + 1 by omega)]
        have : k = 0 ∨ k = 1 := by omega
        rcases this with rfl | rfl
        · exact ⟨c, by simp⟩
        · exact ⟨r, by simp⟩
      go_wp2_with fail
      refine (lower_any x _ (H1.out.below cases_len (by omega) (by decide) (Nat.le_refl _) hbw)).mono ?_
      rintro e w4 ⟨rfl, hb4⟩
      rw [low_small]
      have hs4 := hb4.size
      go_wp2_with fail
      refine (small_any x _).mono ?_
      rintro e w5 ⟨rfl, rfl⟩
      have d1 : (small x != small x) = false := by simp
      have d2 : (wordC x != wordC x) = false := by simp
      go_wp2_with fail
      refine (word_any x _ (H2.out.below letters_len (by omega) (by decide) (Nat.le_refl _) (hbw.trans (hb4.mono (by omega))))).mono ?_
      rintro e w6 ⟨rfl, hb6⟩
      rw [word_wordC]
      go_wp2_with fail
      refine (wordC_any x _).mono ?_
      rintro e w7 ⟨rfl, rfl⟩
      go_wp2_with fail
      go_roundw
      case rel => exact ⟨k + 1, by go_num, by omega, (hbel.trans (hb4.mono (by omega))).trans (hb6.mono (by omega))⟩
      case measure => simp [intOf]; omega
    · obtain rfl : k = 2 := by omega
      go_wp2_with fail
      go_ret
      exact ⟨rfl, hbw⟩
end Go.Proofs.YtpbnkkeplhgepaaDoor.PC
