/-
  Rows of the call's own whose cells are told by a function: element i's cell j.
-/
import Derived.Test.YtabnohphgegflaaDoorBlk
import Derived.Test.YtabnohphgegflaaDoorCellsF
namespace Go.Law
open Go.RowKit
set_option linter.unusedVariables false
def RowV (w : World) (base : Nat) (e : TypeId) (s : Nat) (v : Value) (n : Nat) (V : Nat → Nat → Value) : Prop :=
  ∃ xs, w.ownsRow base e s v n xs ∧ ∀ i, i < n → ∀ j, j < s → xs[i * s + j]? = some (V i j)
section
variable {w w' : World} {base : Nat} {e : TypeId} {s : Nat} {v : Value} {n : Nat} {V V' : Nat → Nat → Value}
theorem RowV.nil (w : World) (base : Nat) (e : TypeId) (s : Nat) (V : Nat → Nat → Value) : RowV w base e s (.slice none 0 0) 0 V :=
  ⟨[], World.ownsRow_nil _ _ _ _, fun i hi => by omega⟩
theorem RowV.congr (h : RowV w base e s v n V) (he : ∀ i, i < n → ∀ j, j < s → V i j = V' i j) : RowV w base e s v n V' := by
  obtain ⟨xs, h1, h2⟩ := h
  exact ⟨xs, h1, fun i hi j hj => by rw [h2 i hi j hj, he i hi j hj]⟩
theorem RowV.own (h : RowV w base e s v n V) : ∃ xs, w.ownsRow base e s v n xs ∧ xs.length = n * s ∧ ∀ i, i < n → ∀ j, j < s → xs[i * s + j]? = some (V i j) := by
  obtain ⟨xs, h1, h2⟩ := h
  exact ⟨xs, h1, h1.1, h2⟩
theorem RowV.slice (h : RowV w base e s v n V) : ∃ a cap, v = .slice a n cap ∧ n ≤ cap ∧ cap ≤ maxLen := by
  obtain ⟨xs, h1, _⟩ := h
  exact RowL.slice h1
theorem RowV.at (h : RowV w base e s v n V) (hn : 0 < n) :
    ∃ g cap, v = .slice (some ⟨g, 0, none⟩) n cap ∧ base ≤ g ∧ g < w.heap.size ∧ n ≤ cap ∧ cap ≤ maxLen ∧ (∀ i, w.frozen? ⟨g, i, none⟩ = false) ∧ ∀ i, i < n → ∀ j, j < s → w.cell? ⟨g, i * s + j, none⟩ = some (V i j) := by
  obtain ⟨xs, h1, h2⟩ := h
  obtain ⟨g, cap, a1, a2, a3, a4, a5, a6, a7⟩ := RowL.at h1 hn
  exact ⟨g, cap, a1, a2, a3, a4, a5, a6, fun i hi j hj => a7 _ _ (h2 i hi j hj)⟩
theorem RowV.cells (h : RowV w base e s v n V) : ∃ a cap, v = .slice a n cap ∧ CellsF w a n s V := by
  obtain ⟨a, cap, rfl, _, _⟩ := h.slice
  refine ⟨a, cap, rfl, fun hn => ?_⟩
  obtain ⟨g, cap', hv, _, _, _, _, _, hc⟩ := h.at hn
  cases hv
  exact ⟨g, 0, rfl, fun i hi j hj => by rw [Nat.zero_add]; exact hc i hi j hj⟩
theorem RowV.block (h : RowV w base e s v n V) (hb : ∀ k, v.ownBlock = some k → w'.heap[k]? = w.heap[k]?) : RowV w' base e s v n V := by
  obtain ⟨xs, h1, h2⟩ := h
  exact ⟨xs, RowL.block h1 hb, h2⟩
theorem RowV.obj (h : RowV w base e s v n V) {k : Nat} (hk : v.ownBlock = some k) : ∃ cs, w.heap[k]? = some (.cells cs e (0, 0)) := by
  obtain ⟨_, ⟨_, ⟨rfl, _⟩ | ⟨g, cap, cur, rfl, _, hg, _⟩⟩, _⟩ := h
  · simp [Value.ownBlock] at hk
  · simp [Value.ownBlock] at hk
    subst hk
    exact ⟨cur, hg⟩
theorem RowV.lt (h : RowV w base e s v n V) {k : Nat} (hk : v.ownBlock = some k) : k < w.heap.size := by
  obtain ⟨c, hc⟩ := h.obj hk
  exact (Array.getElem?_eq_some_iff.1 hc).1
theorem RowV.ge (h : RowV w base e s v n V) : ∀ k, v.ownBlock = some k → base ≤ k := by
  obtain ⟨xs, h1, _⟩ := h
  exact RowL.ge h1
theorem RowV.mono {base' : Nat} (h : RowV w base e s v n V) (hb : base' ≤ base) : RowV w base' e s v n V := by
  obtain ⟨xs, h1, h2⟩ := h
  exact ⟨xs, RowL.mono h1 hb, h2⟩
theorem RowV.below {B : Nat} (h : RowV w base e s v n V) (hb : Below B w w') (hB : w.heap.size ≤ B) : RowV w' base e s v n V :=
  h.block fun k hk => hb.block k (by have := h.lt hk; omega)
theorem RowV.other (h : RowV w base e s v n V) {a : Addr} (ha : v.ownBlock ≠ some a.block) (u : Value) : RowV (w.setCell a u) base e s v n V :=
  h.block fun k hk => Below.heap_setCell _ _ _ _ (by rintro rfl; exact ha hk)
/-- the function V with u at i, j -/
def updV (V : Nat → Nat → Value) (i j : Nat) (u : Value) : Nat → Nat → Value := fun a b => if a = i ∧ b = j then u else V a b
theorem RowV.set {g cap : Nat} (h : RowV w base e s (.slice (some ⟨g, 0, none⟩) n cap) n V) (i j : Nat) (hi : i < n) (hj : j < s) (u : Value) :
    RowV (w.setCell ⟨g, i * s + j, none⟩ u) base e s (.slice (some ⟨g, 0, none⟩) n cap) n (updV V i j u) := by
  obtain ⟨xs, ⟨hl, h⟩, h2⟩ := h
  have hij : i * s + j < n * s := by
    have := Nat.mul_le_mul_right s (show i + 1 ≤ n by omega)
    rw [Nat.succ_mul] at this
    omega
  rcases h with ⟨hv, h0⟩ | ⟨g', cap', cur, hv, hg, hh, hnc, hcm, hcs, ht⟩
  · cases hv
  · cases hv
    refine ⟨xs.set (i * s + j) u, ⟨by simpa using hl, .inr ⟨g, cap, cur.setIfInBounds (i * s + j) u, rfl, hg, ?_, hnc, hcm, by simpa using hcs, ?_⟩⟩, fun a ha b hb => ?_⟩
    · simp only [World.setCell, Array.getElem?_modify, hh, Option.map_some]
      simp
    · rw [Array.toList_setIfInBounds, List.take_set, ht]
    · unfold updV
      by_cases hab : a = i ∧ b = j
      · obtain ⟨rfl, rfl⟩ := hab
        rw [if_pos ⟨rfl, rfl⟩, List.getElem?_set_self (by omega)]
      · rw [if_neg hab, List.getElem?_set_ne ?_]
        · exact h2 a ha b hb
        · intro he
          apply hab
          have h3 : (i * s + j) / s = (a * s + b) / s := by rw [he]
          have h4 : (i * s + j) % s = (a * s + b) % s := by rw [he]
          rw [Nat.mul_comm i s, Nat.mul_comm a s, Nat.mul_add_div (by omega), Nat.mul_add_div (by omega), Nat.div_eq_of_lt hj, Nat.div_eq_of_lt hb] at h3
          rw [Nat.mul_comm i s, Nat.mul_comm a s, Nat.mul_add_mod, Nat.mul_add_mod, Nat.mod_eq_of_lt hj, Nat.mod_eq_of_lt hb] at h4
          omega
theorem RowV.push {xs news : List Value} (h : w.ownsRow base e s v (n + 1) (xs ++ news)) (hl : xs.length = n * s)
    (hx : ∀ i, i < n → ∀ j, j < s → xs[i * s + j]? = some (V i j)) (hn : ∀ j, j < s → news[j]? = some (V' n j)) (hV : ∀ i, i < n → ∀ j, j < s → V i j = V' i j) : RowV w base e s v (n + 1) V' := by
  refine ⟨_, h, fun i hi j hj => ?_⟩
  by_cases h1 : i < n
  · have : i * s + j < n * s := by
      have := Nat.mul_le_mul_right s (show i + 1 ≤ n by omega)
      rw [Nat.succ_mul] at this
      omega
    rw [List.getElem?_append_left (by omega), hx i h1 j hj, hV i h1 j hj]
  · obtain rfl : i = n := by omega
    rw [List.getElem?_append_right (by omega), hl, show i * s + j - i * s = j by omega]
    exact hn j hj
end
/-- rows of different types share no block -/
theorem RowV.apart {w : World} {base base' : Nat} {e e' : TypeId} {s s' : Nat} {v v' : Value} {n n' : Nat} {V V' : Nat → Nat → Value} (h : RowV w base e s v n V) (h' : RowV w base' e' s' v' n' V') (hne : e ≠ e') {k : Nat} (hk : v.ownBlock = some k) : v'.ownBlock ≠ some k := by
  intro h2
  obtain ⟨c1, e1⟩ := h.obj hk
  obtain ⟨c2, e2⟩ := h'.obj h2
  rw [e1] at e2
  injection e2 with e3
  injection e3 with _ e4
  exact hne e4
theorem RowV.notblk {w : World} {base : Nat} {e e' : TypeId} {s : Nat} {v : Value} {n : Nat} {V : Nat → Nat → Value} (h : RowV w base e s v n V) {q : Nat} {cs : Array Value} (hq : Blk w q cs e') (hne : e ≠ e') : v.ownBlock ≠ some q := by
  intro h2
  obtain ⟨c1, e1⟩ := h.obj h2
  unfold Blk at hq
  rw [hq] at e1
  injection e1 with e3
  injection e3 with _ e4
  exact hne e4.symm
end Go.Law
