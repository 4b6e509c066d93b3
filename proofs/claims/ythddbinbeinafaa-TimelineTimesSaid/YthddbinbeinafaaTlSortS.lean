/-
  The row of states under the library's sort: the same states, by item.
-/
import Derived.Test.YthddbinbeinafaaTlSortP
import Derived.Test.YthddbinbeinafaaTlStateP
namespace Go.Law.Tl
open Go.Law Go.RowKit
set_option linter.unusedVariables false
section
variable (L : Nat → Eff) (click at' : Int)
def f4 (l : List Int) (i k : Nat) : St4 := mk4 (l.getD k 0) (seenF (staF L click at' (l.getD k 0) i)) (staF L click at' (l.getD k 0) i).x (staF L click at' (l.getD k 0) i).y
end
/-- what is asked of the sort -/
structure SortC (P : Program) (f g : Nat) : Prop where
  some : ∀ (blk cap : Nat) (d : Array St4) (w : World), Go.Sort.HoldsK enc4 4 w blk 0 d → blk < w.heap.size → d.size < 4611686018427387904 →
    Calls P f #[.slice (some ⟨blk, 0, none⟩) d.size cap, .func (.func g) #[] #[]] w fun e w' => e = .returned (.tuple #[]) ∧ ∃ d' n os, Go.Sort.PermIn 0 d.size d d' ∧ Go.Sort.SortedIn (Go.Proofs.ltOf cf4) 0 d.size d' ∧ w' = Go.Proofs.sortWorldK enc4 4 w blk 0 n d' os
  none : ∀ (p : Option Addr) (cap : Nat) (w : World), Calls P f #[.slice p 0 cap, .func (.func g) #[] #[]] w fun e w' => e = .returned (.tuple #[]) ∧ w' = w
section
variable {L : Nat → Eff} {click at' : Int}
theorem getD_mem {l : List Int} {k : Nat} (hk : k < l.length) : l.getD k 0 ∈ l := by
  rw [List.getD, List.getElem?_eq_getElem hk, Option.getD_some]
  exact List.getElem_mem hk
theorem f4_enc {l : List Int} (hb : ∀ x ∈ l, 0 ≤ x ∧ x ≤ 1073741824) {i k : Nat} (hk : k < l.length) : enc4 (f4 L click at' l i k) = [.int .i64 (l.getD k 0), .int .i64 (seenF (staF L click at' (l.getD k 0) i)), .int .i64 (staF L click at' (l.getD k 0) i).x, .int .i64 (staF L click at' (l.getD k 0) i).y] :=
  mk4_enc (hb _ (getD_mem hk))
theorem cells_list (a s x y : Int) (j : Nat) (hj : j < 4) : (([.int .i64 a, .int .i64 s, .int .i64 x, .int .i64 y] : List Value)[j]?).getD (.int .i64 0) = if j = 0 then .int .i64 a else .int .i64 (if j = 1 then s else if j = 2 then x else y) := by
  match j, hj with
  | 0, _ => rfl
  | 1, _ => rfl
  | 2, _ => rfl
  | 3, _ => rfl
theorem V4_f4 {l : List Int} (hb : ∀ x ∈ l, 0 ≤ x ∧ x ≤ 1073741824) {i k : Nat} (hk : k < l.length) {j : Nat} (hj : j < 4) : V4 (f4 L click at' l i) k j = OV L click at' l i k j := by
  unfold V4
  rw [f4_enc hb hk, cells_list _ _ _ _ _ hj]
  rfl
theorem f4_item {l : List Int} (hb : ∀ x ∈ l, 0 ≤ x ∧ x ≤ 1073741824) {i k : Nat} (hk : k < l.length) : (f4 L click at' l i k).1.1 = l.getD k 0 := by
  unfold f4
  rw [mk4_item (hb _ (getD_mem hk))]
theorem map_getD (l : List Int) : (List.range l.length).map (fun k => l.getD k 0) = l := by
  apply List.ext_getElem
  · simp
  · intro k h1 h2
    simp [List.getD, List.getElem?_eq_getElem h2]
theorem states_sorted {l : List Int} (hb : ∀ x ∈ l, 0 ≤ x ∧ x ≤ 1073741824) (hd : l.Nodup) {i : Nat} {d' : Array St4}
    (hp : Go.Sort.PermIn 0 ((List.range l.length).map (f4 L click at' l i)).toArray.size ((List.range l.length).map (f4 L click at' l i)).toArray d') (hs : Go.Sort.SortedIn (Go.Proofs.ltOf cf4) 0 ((List.range l.length).map (f4 L click at' l i)).toArray.size d') :
    ∃ l' : List Int, l'.length = l.length ∧ d'.size = l'.length ∧ l'.Perm l ∧ (∀ a b, a < b → b < l'.length → l'.getD a 0 < l'.getD b 0) ∧ ∀ k, k < l'.length → ∀ j, j < 4 → V4 (fun k => d'[k]!) k j = OV L click at' l' i k j := by
  obtain ⟨h1, h2, h3⟩ := sorted4 hp hs
  have hsz : d'.size = l.length := by simpa using h1
  refine ⟨d'.toList.map (fun x => x.1.1), by simpa using hsz, by simp, ?_, ?_, ?_⟩
  · have h4 := h2.map (fun x : St4 => x.1.1)
    rw [List.map_map] at h4
    have h5 : (List.range l.length).map ((fun x : St4 => x.1.1) ∘ f4 L click at' l i) = l := by
      conv => rhs; rw [← map_getD l]
      apply List.map_congr_left
      intro k hk
      exact f4_item hb (List.mem_range.1 hk)
    rw [h5] at h4
    exact h4
  all_goals
    have hg : ∀ k, k < l.length → (d'.toList.map (fun x => x.1.1)).getD k 0 = (d'[k]!).1.1 := by
      intro k hk
      have hk' : k < d'.size := by omega
      rw [List.getD, List.getElem?_map, getElem!_pos d' k hk']
      simp [hk']
  · intro a b hab hb'
    have hbl : b < l.length := by simp at hb'; omega
    have hle := h3 a b hab hbl
    rw [hg a (by omega), hg b hbl]
    have hpm : (d'.toList.map (fun x => x.1.1)).Perm l := by
      have h4 := h2.map (fun x : St4 => x.1.1)
      rw [List.map_map] at h4
      have h5 : (List.range l.length).map ((fun x : St4 => x.1.1) ∘ f4 L click at' l i) = l := by
        conv => rhs; rw [← map_getD l]
        apply List.map_congr_left
        intro k hk
        exact f4_item hb (List.mem_range.1 hk)
      rw [h5] at h4
      exact h4
    have hnd := hpm.nodup_iff.2 hd
    have hne := getD_ne hnd (k := b) (k' := a) hb' (by simp; omega) (by omega)
    rw [hg a (by omega), hg b hbl] at hne
    omega
  · intro k hk j hj
    have hkl : k < l.length := by simp at hk; omega
    have hm : d'[k]! ∈ (List.range l.length).map (f4 L click at' l i) := by
      rw [← h2.mem_iff, getElem!_pos d' k (by omega)]
      simp
    obtain ⟨m, hm1, hm2⟩ := List.mem_map.1 hm
    have hml := List.mem_range.1 hm1
    unfold V4
    show ((enc4 d'[k]!)[j]?).getD (.int .i64 0) = _
    unfold OV
    rw [hg k hkl, ← hm2, f4_enc hb hml, cells_list _ _ _ _ _ hj, f4_item hb hml]
/-- slices.SortFunc at the row of states -/
theorem sort_row {P : Program} {f g B : Nat} {TO : TypeId} {w : World} {ov : Value} {l : List Int} {i : Nat} (hC : SortC P f g) (hr : RowV w B TO 4 ov l.length (OV L click at' l i)) (hB : B ≤ w.heap.size) (hn : l.length ≤ 1000) (hb : ∀ x ∈ l, 0 ≤ x ∧ x ≤ 1073741824) (hd : l.Nodup) :
    Calls P f #[ov, .func (.func g) #[] #[]] w fun e w' => e = .returned (.tuple #[]) ∧ Below B w w' ∧ ∃ (l' : List Int) (a : Option Addr) (c : Nat), ov = .slice a l'.length c ∧ l'.length = l.length ∧ l'.Perm l ∧ (∀ a b, a < b → b < l'.length → l'.getD a 0 < l'.getD b 0) ∧ CellsF w' a l'.length 4 (OV L click at' l' i) := by
  rcases Nat.eq_zero_or_pos l.length with h0 | h0
  · obtain rfl := List.eq_nil_of_length_eq_zero h0
    obtain ⟨a, c, rfl, _, _⟩ := hr.slice
    refine (hC.none a c w).mono ?_
    rintro e w' ⟨rfl, rfl⟩
    exact ⟨rfl, Below.refl _ _, [], a, c, rfl, rfl, List.Perm.refl _, fun a b _ h => by simp at h, fun h => by simp at h⟩
  · obtain ⟨q, cap, rfl, h1, h2, _, _, h5, h6⟩ := hr.at h0
    have hs : ((List.range l.length).map (f4 L click at' l i)).toArray.size = l.length := by simp
    have hH : Go.Sort.HoldsK enc4 4 w q 0 ((List.range l.length).map (f4 L click at' l i)).toArray := holds4 h5 (fun k hk j hj => by rw [V4_f4 hb hk hj]; exact h6 k hk j hj)
    have h7 := hC.some q cap _ w hH h2 (by rw [hs]; omega)
    rw [hs] at h7
    refine h7.mono ?_
    rintro e w' ⟨rfl, d', n, os, hp, hso, rfl⟩
    obtain ⟨l', e1, e2, e3, e4, e5⟩ := states_sorted hb hd (by rw [hs]; exact hp) (by rw [hs]; exact hso)
    refine ⟨rfl, below_sort h1 hB h2, l', Option.some ⟨q, 0, Option.none⟩, cap, by rw [e1], e1, e3, e4, ?_⟩
    have h8 := cells4 (Go.Proofs.holdsK_sortWorldK_c enc4 4 w q 0 _ d' n os hH h2 (by rw [e2, e1, hs]))
    rw [e2] at h8
    intro hn'
    obtain ⟨b, off, hbo, hc⟩ := h8 hn'
    exact ⟨b, off, hbo, fun k hk j hj => by rw [hc k hk j hj, e5 k hk j hj]⟩
end
end Go.Law.Tl
