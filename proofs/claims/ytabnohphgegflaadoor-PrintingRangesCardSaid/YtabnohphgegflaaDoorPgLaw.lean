
/-
  PrintingRanges: the law's walk.
-/
import Derived.Test.YtabnohphgegflaaDoorPgRan
import Derived.Test.YtabnohphgegflaaDoorPgRef
import Derived.Test.YtabnohphgegflaaDoorSameInts
namespace Go.Proofs.YtabnohphgegflaaDoor.PG
open Go.RowKit Go.Law Go.Law.Pg Ref
set_option linter.unusedVariables false
set_option linter.unusedSimpArgs false
set_option maxRecDepth 100000
theorem first_ranges : rangesL (ByteArray.data ⟨#[51, 45, 49, 44, 50, 45]⟩).toList 3 = ([3, 2, 1, 2, 3], 0) := by decide +kernel
theorem same_lists (l : List Int) : sameB l.length l.length (fun i => l.getD i 0) (fun i => l.getD i 0) = true := by
  rw [sameB_true]; exact ⟨rfl, fun _ _ => rfl⟩
set_option maxHeartbeats 2000000 in
theorem printingLaw_any (s : ByteArray) (pages : Int) (w : World) (hT : TEnv w) : Calls Tryd.prog 3 #[.string s, .int .i64 pages] w fun e w' => e = .returned (.bool true) ∧ Below w.heap.size w w' := by
  have HT := Lib.hid hT
  obtain ⟨L, E, hLE⟩ : ∃ L E, rangesL s.data.toList pages = (L, E) := ⟨_, _, rfl⟩
  have HLE := Lib.hid hLE
  have hlen : L.length ≤ 1000000000 := by
    have := rangesL_len s.data.toList pages
    rw [hLE] at this
    simp only at this
    omega
  have HF := Lib.hid first_ranges
  clear hT hLE
  go_enter Tryd.func3, Tryd.ntmps3
  go_wp2_with fail
  refine (ranges_any _ 3 w HT.out).mono ?_
  rintro e w1 ⟨v1, rfl, hr1, hb1⟩
  rw [HF.out] at hr1 ⊢
  simp only
  obtain ⟨a1, c1, rfl, _, _, hi1⟩ := RowL.ints hr1 rfl
  have HB1 := Lib.hid hb1
  have HI1 := Lib.hid hi1
  clear hr1 hi1 hb1
  go_wp2_with fail
  refine (same_any 5 5 _ (fun i => ([3, 2, 1, 2, 3] : List Int).getD i 0) _ _ _ _ _ (HI1.out.below (Nat.le_refl _) ((Below.refl _ _).alloc (Nat.le_refl _) _)) ?_ (by decide) (by decide)).mono ?_
  · intro _
    refine ⟨_, 0, rfl, fun i hi => ?_⟩
    obtain rfl | rfl | rfl | rfl | rfl : i = 0 ∨ i = 1 ∨ i = 2 ∨ i = 3 ∨ i = 4 := by omega
    all_goals exact (Blk.new w1 _ _).cell rfl
  rintro e w2 ⟨rfl, hb2⟩
  rw [show sameB 5 5 (fun i => ([3, 2, 1, 2, 3] : List Int).getD i 0) (fun i => ([3, 2, 1, 2, 3] : List Int).getD i 0) = true by rw [sameB_true]; exact ⟨rfl, fun _ _ => rfl⟩]
  have HB2 := Lib.hid (HB1.out.trans (((Below.refl w1.heap.size w1).alloc (Nat.le_refl _) _ |>.trans (hb2.mono (by simp))).mono HB1.out.size))
  clear hb2
  go_wp2_with fail
  refine (ranges_any s pages w2 (HT.out.below HB2.out (Nat.le_refl _))).mono ?_
  rintro e w3 ⟨v3, rfl, hr3, hb3⟩
  rw [HLE.out] at hr3 ⊢
  simp only at hr3 ⊢
  obtain ⟨a3, c3, rfl, _, _, hi3⟩ := RowL.ints hr3 rfl
  have HB3 := Lib.hid (HB2.out.trans (hb3.mono HB2.out.size))
  have HI3 := Lib.hid hi3
  clear hr3 hi3 hb3
  go_wp2_with fail
  refine (refRanges_any s pages w3).mono ?_
  rintro e w4 ⟨v4, rfl, hr4, hb4⟩
  rw [HLE.out] at hr4 ⊢
  simp only at hr4 ⊢
  obtain ⟨a4, c4, rfl, _, _, hi4⟩ := RowL.ints hr4 rfl
  have HB4 := Lib.hid (HB3.out.trans (hb4.mono HB3.out.size))
  have HI4 := Lib.hid hi4
  have HI5 := Lib.hid (HI3.out.below (Nat.le_refl _) hb4)
  clear hr4 hi4 hb4
  have hee : (E == E) = true := by simp
  go_wp2_with fail
  refine (same_any L.length L.length _ _ _ _ _ _ _ HI5.out HI4.out (by omega) (by omega)).mono ?_
  rintro e w5 ⟨rfl, hb5⟩
  rw [same_lists]
  have HB5 := Lib.hid (HB4.out.trans (hb5.mono HB4.out.size))
  clear hb5
  go_wp2_with fail
  go_ret
  exact ⟨rfl, HB5.out⟩
end Go.Proofs.YtabnohphgegflaaDoor.PG
