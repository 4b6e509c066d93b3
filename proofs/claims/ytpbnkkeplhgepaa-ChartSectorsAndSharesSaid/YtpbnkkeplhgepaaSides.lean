/-
  Rows of rows of ints: what printing.Several builds.
-/
import Derived.OneCell
import Derived.Test.YtpbnkkeplhgepaaOwn
namespace Go.Law
open Go.RowKit
/-- where the page with number i of a side stands: down a column of r, or as it is -/
def stF (r c : Nat) (down : Bool) (i : Nat) : Nat := if down then i % r * c + i / r else i
/-- the number of the page that stands at place j -/
def posF (r c : Nat) (down : Bool) (j : Nat) : Nat := if down then j % c * r + j / c else j
def sideF (m k r c : Nat) (down : Bool) (f : Nat → Int) (q : Nat) : Nat → Int := fun j => if q * m + posF r c down j < k then f (q * m + posF r c down j) else 0
theorem mul_lt_mn {a b r c : Nat} (ha : a < r) (hb : b < c) : b * r + a < r * c := by
  have h1 : (b + 1) * r ≤ c * r := Nat.mul_le_mul_right r hb
  rw [Nat.succ_mul, Nat.mul_comm c r] at h1
  omega
theorem stF_lt {r c : Nat} {down : Bool} {i : Nat} (hi : i < r * c) : stF r c down i < r * c := by
  unfold stF
  cases down
  · simpa using hi
  · have hr : 0 < r := by rcases Nat.eq_zero_or_pos r with h | h; rw [h, Nat.zero_mul] at hi; omega; exact h
    rw [if_pos rfl, Nat.mul_comm r c]
    exact mul_lt_mn (Nat.div_lt_of_lt_mul hi) (Nat.mod_lt _ hr)
theorem posF_lt {r c : Nat} {down : Bool} {i : Nat} (hi : i < r * c) : posF r c down i < r * c := by
  unfold posF
  cases down
  · simpa using hi
  · have hc : 0 < c := by rcases Nat.eq_zero_or_pos c with h | h; rw [h, Nat.mul_zero] at hi; omega; exact h
    rw [if_pos rfl]
    exact mul_lt_mn (Nat.div_lt_of_lt_mul (by rw [Nat.mul_comm]; exact hi)) (Nat.mod_lt _ hc)
theorem posF_stF {r c : Nat} {down : Bool} {i : Nat} (hi : i < r * c) : posF r c down (stF r c down i) = i := by
  unfold posF stF
  cases down
  · rfl
  · have hr : 0 < r := by rcases Nat.eq_zero_or_pos r with h | h; rw [h, Nat.zero_mul] at hi; omega; exact h
    have h1 : i / r < c := Nat.div_lt_of_lt_mul hi
    simp only [if_pos]
    rw [Nat.mul_comm (i % r) c, Nat.mul_add_mod, Nat.mod_eq_of_lt h1, Nat.mul_add_div (Nat.lt_of_le_of_lt (Nat.zero_le _) h1), Nat.div_eq_of_lt h1, Nat.mul_comm, Nat.add_zero]
    exact Nat.div_add_mod i r
theorem stF_posF {r c : Nat} {down : Bool} {i : Nat} (hi : i < r * c) : stF r c down (posF r c down i) = i := by
  unfold posF stF
  cases down
  · rfl
  · have hc : 0 < c := by rcases Nat.eq_zero_or_pos c with h | h; rw [h, Nat.mul_zero] at hi; omega; exact h
    have h1 : i / c < r := Nat.div_lt_of_lt_mul (by rw [Nat.mul_comm]; exact hi)
    simp only [if_pos]
    rw [Nat.mul_comm (i % c) r, Nat.mul_add_mod, Nat.mod_eq_of_lt h1, Nat.mul_add_div (Nat.lt_of_le_of_lt (Nat.zero_le _) h1), Nat.div_eq_of_lt h1, Nat.mul_comm, Nat.add_zero]
    exact Nat.div_add_mod i c
def SevInv (w : World) (base : Nat) (v : Value) (cnt m k r c : Nat) (down : Bool) (f : Nat → Int) : Prop :=
  ∃ (xs : List Value) (G : Nat → Nat), w.ownsRow base 34 1 v cnt xs ∧
    (∀ q, q < cnt → base ≤ G q ∧ xs[q]? = some (.slice (some ⟨G q, 0, none⟩) m m) ∧ OwnF w 3 (G q) m (sideF m k r c down f q)) ∧ (∀ q q', q < q' → q' < cnt → G q ≠ G q')
theorem SevInv.nil (w : World) (base m r c : Nat) (down : Bool) (f : Nat → Int) : SevInv w base (.slice none 0 0) 0 m 0 r c down f :=
  ⟨[], fun _ => 0, World.ownsRow_nil _ _ _ _, fun q hq => by omega, fun q q' _ h => by omega⟩
/-- what the row reads, once it is not empty -/
theorem ownsRow_some {w : World} {base e n : Nat} {v : Value} {xs : List Value} (h : w.ownsRow base e 1 v n xs) (hn : 0 < n) :
    ∃ g cap, v = .slice (some ⟨g, 0, none⟩) n cap ∧ base ≤ g ∧ n ≤ cap ∧ cap ≤ maxLen ∧ ∀ j u, xs[j]? = some u → w.cell? ⟨g, j, none⟩ = some u := by
  obtain ⟨hl, h⟩ := h
  rcases h with ⟨_, h0⟩ | ⟨g, cap, cur, hv, hg, hh, hnc, hcm, hcs, ht⟩
  · omega
  · refine ⟨g, cap, hv, hg, hnc, hcm, fun j u hj => ?_⟩
    rw [← ht, List.getElem?_take] at hj
    split at hj
    · simp [World.cell?, hh]
      simpa using hj
    · cases hj
theorem ownsRow_block_ne {w : World} {base n m : Nat} {v : Value} {xs : List Value} {g : Nat} {f : Nat → Int} (h : w.ownsRow base 34 1 v n xs) (ho : OwnF w 3 g m f) : v.ownBlock ≠ some g := by
  obtain ⟨cur, hc, _⟩ := ho
  obtain ⟨_, ⟨rfl, _⟩ | ⟨g', cap, cur', rfl, hg, hh, _⟩⟩ := h
  · simp [Value.ownBlock]
  · simp only [Value.ownBlock]
    intro he
    have : g' = g := by simpa using he
    rw [this, hc] at hh
    simp at hh
theorem ownsRow_block_lt {w : World} {base e n : Nat} {v : Value} {xs : List Value} (h : w.ownsRow base e 1 v n xs) : ∀ g, v.ownBlock = some g → g < w.heap.size := by
  obtain ⟨_, ⟨rfl, _⟩ | ⟨g', cap, cur', rfl, hg, hh, _⟩⟩ := h
  · intro g hg; simp [Value.ownBlock] at hg
  · intro g hg'
    simp [Value.ownBlock] at hg'
    rw [← hg']
    exact (Array.getElem?_eq_some_iff.1 hh).1
theorem SevInv.read {w : World} {base : Nat} {v : Value} {cnt m k r c : Nat} {down : Bool} {f : Nat → Int} (h : SevInv w base v (cnt + 1) m k r c down f) :
    ∃ g cap gl, v = .slice (some ⟨g, 0, none⟩) (cnt + 1) cap ∧ base ≤ g ∧ cnt + 1 ≤ cap ∧ cap ≤ maxLen ∧ w.cell? ⟨g, cnt, none⟩ = some (.slice (some ⟨gl, 0, none⟩) m m) ∧ base ≤ gl ∧
      (∀ j, j < m → w.cell? ⟨gl, j, none⟩ = some (.int .i64 (sideF m k r c down f cnt j))) ∧ (∀ j, w.frozen? ⟨gl, j, none⟩ = false) ∧
      ∀ st i0 x, i0 < m → m = r * c → cnt * m + i0 = k → st = stF r c down i0 → x = f k → SevInv (w.setCell ⟨gl, st, none⟩ (.int .i64 x)) base v (cnt + 1) m (k + 1) r c down f := by
  obtain ⟨xs, G, hown, hall, hinj⟩ := h
  obtain ⟨g, cap, rfl, hg, hnc, hcm, hcell⟩ := ownsRow_some hown (by omega)
  obtain ⟨hb, hx, ho⟩ := hall cnt (by omega)
  refine ⟨g, cap, G cnt, rfl, hg, hnc, hcm, hcell _ _ hx, hb, fun j hj => ho.cell hj, fun j => ho.frozen j, ?_⟩
  rintro st i0 x hi hm hk rfl rfl
  refine ⟨xs, G, ownsRow_setCell_other hown (ownsRow_block_ne hown ho) _, fun q hq => ?_, hinj⟩
  obtain ⟨hb', hx', ho'⟩ := hall q hq
  refine ⟨hb', hx', ?_⟩
  by_cases hqc : q = cnt
  · subst hqc
    refine (ho.set _ _).congr fun j hj => ?_
    unfold upd
    have hp := posF_stF (down := down) (show i0 < r * c by omega)
    by_cases hjs : j = stF r c down i0
    · subst hjs
      rw [if_pos rfl]
      unfold sideF
      rw [hp, hk, if_pos (by omega)]
    · rw [if_neg hjs]
      have hne : posF r c down j ≠ i0 := by
        intro he
        apply hjs
        rw [← he, stF_posF (by omega)]
      unfold sideF
      by_cases h2 : q * m + posF r c down j < k
      · rw [if_pos h2, if_pos (by omega)]
      · rw [if_neg h2, if_neg (by omega)]
  · have hlt : q < cnt := by omega
    refine (ho'.other (hinj q cnt hlt (by omega)) _).congr fun j hj => ?_
    have hp := posF_lt (down := down) (show j < r * c by omega)
    have h3 : (q + 1) * m ≤ cnt * m := Nat.mul_le_mul_right m hlt
    rw [Nat.succ_mul] at h3
    unfold sideF
    rw [if_pos (by omega), if_pos (by omega)]
theorem SevInv.row {w : World} {base : Nat} {v : Value} {cnt m k r c : Nat} {down : Bool} {f : Nat → Int} (h : SevInv w base v cnt m k r c down f) :
    ∃ xs, w.ownsRow base 34 1 v cnt xs ∧ (k = cnt * m → base ≤ w.heap.size → ∀ (w1 : World) (v' : Value) (o : Obj), ((w.alloc (.cells (madeCells #[.int .i64 0] m) 3)).alloc o).grownBy w1 v.ownBlock →
      w1.ownsRow base 34 1 v' (cnt + 1) (xs ++ [.slice (some ⟨w.heap.size, 0, none⟩) m m]) → SevInv w1 base v' (cnt + 1) m k r c down f) := by
  obtain ⟨xs, G, hown, hall, hinj⟩ := h
  refine ⟨xs, hown, ?_⟩
  intro hk hbase w1 v' o hg ho
  have hblk : ∀ g, g < w.heap.size + 1 → some g ≠ v.ownBlock → w1.heap[g]? = (w.alloc (.cells (madeCells #[.int .i64 0] m) 3)).heap[g]? := by
    intro g hg' hne
    rw [hg.block g (by simp; omega) hne]
    exact Below.heap_alloc _ _ _ (by simp; omega)
  refine ⟨_, fun q => if q = cnt then w.heap.size else G q, ho, fun q hq => ?_, ?_⟩
  · have hl := hown.1
    by_cases hqc : q = cnt
    · subst hqc
      simp only [if_pos]
      refine ⟨hbase, ?_, ?_⟩
      · rw [List.getElem?_append_right (by omega)]
        simp [hl]
      · refine ((OwnF.make 3 m).block (w' := w1) (hblk w.heap.size (by omega) ?_)).congr fun j hj => ?_
        · intro he
          have := ownsRow_block_lt hown _ he.symm
          omega
        · unfold sideF
          rw [if_neg (by omega)]
    · obtain ⟨h1, h2, h3⟩ := hall q (by omega)
      simp only [if_neg hqc]
      refine ⟨h1, ?_, ?_⟩
      · rw [List.getElem?_append_left (by omega)]
        exact h2
      · exact (h3.alloc _).block (hblk _ (by have := h3.lt; omega) (fun he => ownsRow_block_ne hown h3 he.symm))
  · intro q q' hqq hq'
    show (if q = cnt then w.heap.size else G q) ≠ (if q' = cnt then w.heap.size else G q')
    rw [if_neg (by omega)]
    by_cases hqc : q' = cnt
    · rw [if_pos hqc]
      have := (hall q (by omega)).2.2.lt
      omega
    · rw [if_neg hqc]
      exact hinj q q' hqq (by omega)
theorem SevInv.heap {w w' : World} {base : Nat} {v : Value} {cnt m k r c : Nat} {down : Bool} {f : Nat → Int} (h : SevInv w base v cnt m k r c down f) (he : w'.heap = w.heap) : SevInv w' base v cnt m k r c down f := by
  obtain ⟨xs, G, hown, hall, hinj⟩ := h
  refine ⟨xs, G, ?_, fun q hq => ⟨(hall q hq).1, (hall q hq).2.1, (hall q hq).2.2.block (by rw [he])⟩, hinj⟩
  unfold World.ownsRow at hown ⊢
  rw [he]
  exact hown
end Go.Law
