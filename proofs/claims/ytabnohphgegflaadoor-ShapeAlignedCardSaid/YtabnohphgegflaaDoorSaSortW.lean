
/-
  slices.Sort and slices.Contains at rows of ints told by functions.
-/
import Derived.Test.YtabnohphgegflaaDoorSaLib
import Derived.Test.YtabnohphgegflaaDoorOwnR
import Derived.Sort.OwnSortedInts
namespace Go.Proofs.YtabnohphgegflaaDoor.ShT
open Go.RowKit Go.Law
set_option linter.unusedVariables false
set_option linter.unusedSimpArgs false
theorem contains_any (i cap : Nat) (It : Nat → Int) (x : Int) (a : Option Addr) (w : World) (h : IntsF w a i It) (hi : i ≤ 1000000000000000000) :
    Calls Tryd.prog 36 #[.slice a i cap, .int .i64 x] w fun e w' => e = .returned (.bool ((List.range i).any fun m => decide (It m = x))) ∧ w = w' := by
  rcases Nat.eq_zero_or_pos i with h0 | h0
  · subst h0
    exact (Tryd.slices_Contains_int_empty a cap x w).mono fun e w' ⟨h1, h2⟩ => ⟨h1, h2.symm⟩
  · obtain ⟨b, off, rfl, hc⟩ := h h0
    obtain ⟨zs, hzs⟩ : ∃ zs, zs = (List.range i).map It := ⟨_, rfl⟩
    have hl : zs.length = i := by rw [hzs]; simp
    have hg : ∀ j, j < i → zs.getD j 0 = It j := by
      intro j hj
      rw [hzs, List.getD_eq_getElem?_getD, List.getElem?_map, List.getElem?_range hj]
      rfl
    refine (Tryd.slices_Contains_int b off i cap zs x w (by omega) (by omega) (fun j hj => by rw [hg j (by omega)]; exact hc j (by omega))).mono fun e w' ⟨h1, h2⟩ => ⟨?_, h2.symm⟩
    rw [h1]
    have : (zs.take i).contains x = (List.range i).any fun m => decide (It m = x) := by
      rw [List.take_of_length_le (by omega), hzs, Bool.eq_iff_iff]
      simp [List.any_eq_true]
    rw [this]
/-- a row, sorted -/
def srt (c : Nat) (F : Nat → Int) : List Int := ((List.range c).map F).mergeSort fun x y => decide (x ≤ y)
theorem srt_len (c : Nat) (F : Nat → Int) : (srt c F).length = c := by unfold srt; rw [List.length_mergeSort]; simp
theorem sort_own (B c : Nat) (v : Value) (F : Nat → Int) (w : World) (h : RowI w B 3 1 v c F) (hc : 0 < c) (hc2 : c ≤ 1000) (hB : B ≤ w.heap.size) :
    Calls Tryd.prog 37 #[v] w fun e w' => e = .returned (.tuple #[]) ∧ RowI w' B 3 1 v c (fun i => (srt c F).getD i 0) ∧ Below B w w' := by
  obtain ⟨xs, ⟨hl, h1⟩, h2⟩ := h
  rcases h1 with ⟨_, h0⟩ | ⟨g, cap, cur, rfl, hg, hh, hnc, hcm, hcs, ht⟩
  · omega
  · obtain ⟨zs, hzs⟩ : ∃ zs, zs = (List.range c).map F := ⟨_, rfl⟩
    have hzl : zs.length = c := by rw [hzs]; simp
    have hxs : xs = zs.map (Value.int .i64) := by
      apply List.ext_getElem?
      intro j
      rcases Nat.lt_or_ge j c with hj | hj
      · rw [h2 j (by omega), hzs, List.getElem?_map, List.getElem?_map, List.getElem?_range hj]
        rfl
      · rw [List.getElem?_eq_none (by omega), List.getElem?_eq_none (by simp; omega)]
    rw [Nat.mul_one, hxs] at ht
    have hH := holds_of_blockI (ss := zs) hh (by rw [hzl]; exact ht)
    have hlt := (Array.getElem?_eq_some_iff.1 hh).1
    have hk := Tryd.slices_Sort_int g 0 cap zs w hH hlt (by omega)
    rw [hzl] at hk
    refine hk.mono fun e w' ⟨e1, n, os, e2⟩ => ?_
    subst e2
    have hs : (zs.mergeSort fun x y => decide (x ≤ y)) = srt c F := by rw [hzs]; rfl
    rw [hs]
    refine ⟨e1, ⟨(srt c F).map (Value.int .i64), ?_, fun i hi => ?_⟩, ?_⟩
    · have := ownsRow_sortedI (w := w) (base := B) (g := g) (cap := cap) (n := n) (e := 3) (os := os) (cur := cur) (ss := zs) (ts := srt c F) (by rw [srt_len, hzl]) hg hh (by omega) hcm hcs
      rw [hzl] at this
      exact this
    · rw [List.getElem?_map]
      have h3 : i < (srt c F).length := by rw [srt_len]; omega
      rw [List.getElem?_eq_getElem h3]
      simp [List.getD, List.getElem?_eq_getElem h3]
    · exact (Below.refl B w).grown (grownBy_sortedI _) hB (fun k hk => by cases hk; exact hg)
end Go.Proofs.YtabnohphgegflaaDoor.ShT
