/-
  Rows of ints (or of structs of ints, s cells each) of the call's own that may grow: 'RowI'; rows of structs of ints that are read: 'StrF'.
-/
import Derived.Laws.AppendOwn
import Derived.Test.YtghbicajcffjhaaDoorOwn
namespace Go.Law
open Go.RowKit
/-- n structs of s ints at an address. -/
def StrF (w : World) (a : Option Addr) (n s : Nat) (f : Nat → Nat → Int) : Prop :=
  0 < n → ∃ b off, a = some ⟨b, off, none⟩ ∧ ∀ i, i < n → ∀ j, j < s → w.cell? ⟨b, off + i * s + j, none⟩ = some (.int .i64 (f i j))
theorem StrF.below {W w : World} {B : Nat} {a : Option Addr} {n s : Nat} {f : Nat → Nat → Int} (h : StrF W a n s f) (hB : W.heap.size ≤ B) (hb : Below B W w) : StrF w a n s f := by
  intro hn
  obtain ⟨b, off, rfl, hh⟩ := h hn
  refine ⟨b, off, rfl, fun i hi j hj => ?_⟩
  have h1 := hh i hi j hj
  have hlt : b < W.heap.size := lt_of_cell h1
  rw [hb.cell (show b < B by omega)]
  exact h1
theorem StrF.of_elems {α : Type} {R : Rd α} {s : Nat} {w : World} {a : Option Addr} {xs : List α} {g : α → List Int} (h : Elems R s w a xs) (hR : ∀ cs x, R w cs x → cs = (g x).map (Value.int .i64)) :
    StrF w a xs.length s (fun i j => ((xs[i]?.map g).getD []).getD j 0) := by
  intro hn
  obtain ⟨b, off, rfl, hh⟩ := h (by rintro rfl; simp at hn)
  refine ⟨b, off, rfl, fun i hi j hj => ?_⟩
  have hx := List.getElem?_eq_getElem hi
  obtain ⟨cs, hl, hc, hr⟩ := hh i _ hx
  have hcs := hR _ _ hr
  subst hcs
  simp at hl
  refine hc j _ ?_
  rw [List.getElem?_map]
  simp only [hx, Option.map_some, Option.getD_some]
  rw [List.getElem?_eq_getElem (by omega)]
  simp [show j < (g xs[i]).length by omega]

/-- A row of the call's own (type e, s cells each), n long, whose cells are the ints F. -/
def RowI (w : World) (base : Nat) (e : TypeId) (s : Nat) (v : Value) (n : Nat) (F : Nat → Int) : Prop :=
  ∃ xs, w.ownsRow base e s v n xs ∧ ∀ i, i < n * s → xs[i]? = some (.int .i64 (F i))
theorem RowI.nil (w : World) (base : Nat) (e : TypeId) (s : Nat) (F : Nat → Int) : RowI w base e s (.slice none 0 0) 0 F :=
  ⟨[], World.ownsRow_nil _ _ _ _, fun i hi => by rw [Nat.zero_mul] at hi; omega⟩
theorem RowI.congr {w : World} {base : Nat} {e : TypeId} {s : Nat} {v : Value} {n : Nat} {F F' : Nat → Int} (h : RowI w base e s v n F) (he : ∀ i, i < n * s → F i = F' i) : RowI w base e s v n F' := by
  obtain ⟨xs, h1, h2⟩ := h
  exact ⟨xs, h1, fun i hi => by rw [h2 i hi, he i hi]⟩
/-- what an append makes of it -/
theorem RowI.push {w : World} {base : Nat} {e : TypeId} {s : Nat} {v : Value} {n : Nat} {F F' : Nat → Int} {xs news : List Value} (h : w.ownsRow base e s v (n + 1) (xs ++ news)) (hl : xs.length = n * s)
    (hx : ∀ i, i < n * s → xs[i]? = some (.int .i64 (F i))) (hn : ∀ j, j < s → news[j]? = some (.int .i64 (F' (n * s + j)))) (hF : ∀ i, i < n * s → F i = F' i) : RowI w base e s v (n + 1) F' := by
  refine ⟨_, h, fun i hi => ?_⟩
  rw [Nat.succ_mul] at hi
  by_cases h1 : i < n * s
  · rw [List.getElem?_append_left (by omega), hx i h1, hF i h1]
  · rw [List.getElem?_append_right (by omega), hl, hn (i - n * s) (by omega)]
    congr 3
    omega
/-- where it lies, once it is not empty -/
theorem RowI.at {w : World} {base : Nat} {e : TypeId} {s : Nat} {v : Value} {n : Nat} {F : Nat → Int} (h : RowI w base e s v n F) (hn : 0 < n) :
    ∃ g cap, v = .slice (some ⟨g, 0, none⟩) n cap ∧ base ≤ g ∧ g < w.heap.size ∧ n ≤ cap ∧ cap ≤ maxLen ∧ (∀ i, w.frozen? ⟨g, i, none⟩ = false) ∧ ∀ i, i < n * s → w.cell? ⟨g, i, none⟩ = some (.int .i64 (F i)) := by
  obtain ⟨xs, ⟨hl, h⟩, h2⟩ := h
  rcases h with ⟨_, h0⟩ | ⟨g, cap, cur, hv, hg, hh, hnc, hcm, hcs, ht⟩
  · omega
  · refine ⟨g, cap, hv, hg, (Array.getElem?_eq_some_iff.1 hh).1, hnc, hcm, fun i => by simp [World.frozen?, hh], fun i hi => ?_⟩
    have h1 := h2 i hi
    rw [← ht, List.getElem?_take_of_lt (by omega)] at h1
    have h3 : cur[i]? = some (.int .i64 (F i)) := by simpa using h1
    simp [World.cell?, hh, h3]
/-- a row that is a value of a slice: its length is n, whatever it is -/
theorem RowI.slice {w : World} {base : Nat} {e : TypeId} {s : Nat} {v : Value} {n : Nat} {F : Nat → Int} (h : RowI w base e s v n F) : ∃ a cap, v = .slice a n cap ∧ n ≤ cap ∧ cap ≤ maxLen := by
  obtain ⟨xs, ⟨hl, h⟩, h2⟩ := h
  rcases h with ⟨hv, h0⟩ | ⟨g, cap, cur, hv, hg, hh, hnc, hcm, hcs, ht⟩
  · exact ⟨none, 0, by rw [hv, h0], by omega, by unfold maxLen; omega⟩
  · exact ⟨_, cap, hv, hnc, hcm⟩
/-- the same row in a world whose block of it is the same -/
theorem RowI.block {w w' : World} {base : Nat} {e : TypeId} {s : Nat} {v : Value} {n : Nat} {F : Nat → Int} (h : RowI w base e s v n F) (hb : ∀ k, v.ownBlock = some k → w'.heap[k]? = w.heap[k]?) : RowI w' base e s v n F := by
  obtain ⟨xs, ⟨hl, h⟩, h2⟩ := h
  refine ⟨xs, ⟨hl, ?_⟩, h2⟩
  rcases h with h | ⟨g, cap, cur, hv, hg, hh, r⟩
  · exact .inl h
  · refine .inr ⟨g, cap, cur, hv, hg, ?_, r⟩
    rw [hb g (by rw [hv]; rfl)]
    exact hh
theorem RowI.below {w w' : World} {base B : Nat} {e : TypeId} {s : Nat} {v : Value} {n : Nat} {F : Nat → Int} (h : RowI w base e s v n F) (hb : Below B w w') (hB : w.heap.size ≤ B) : RowI w' base e s v n F := by
  refine h.block fun k hk => hb.block k ?_
  obtain ⟨xs, ⟨hl, h⟩, h2⟩ := h
  rcases h with ⟨h, _⟩ | ⟨g, cap, cur, hv, hg, hh, r⟩
  · rw [h] at hk; cases hk
  · rw [hv] at hk
    simp [Value.ownBlock] at hk
    subst hk
    have := (Array.getElem?_eq_some_iff.1 hh).1
    omega
theorem RowI.alloc {w : World} {base : Nat} {e : TypeId} {s : Nat} {v : Value} {n : Nat} {F : Nat → Int} (h : RowI w base e s v n F) (o : Obj) : RowI (w.alloc o) base e s v n F :=
  h.below ((Below.refl _ _).alloc (Nat.le_refl _) o) (Nat.le_refl _)
theorem RowI.drew {w : World} {base : Nat} {e : TypeId} {s : Nat} {v : Value} {n : Nat} {F : Nat → Int} (h : RowI w base e s v n F) : RowI w.drew base e s v n F := h.block fun _ _ => rfl
theorem RowI.drewN {w : World} {base : Nat} {e : TypeId} {s : Nat} {v : Value} {n : Nat} {F : Nat → Int} (h : RowI w base e s v n F) (k : Nat) : RowI (w.drewN k) base e s v n F := h.block fun _ _ => rfl
theorem RowI.mono {w : World} {base base' : Nat} {e : TypeId} {s : Nat} {v : Value} {n : Nat} {F : Nat → Int} (h : RowI w base e s v n F) (hb : base' ≤ base) : RowI w base' e s v n F := by
  obtain ⟨xs, ⟨hl, h⟩, h2⟩ := h
  refine ⟨xs, ⟨hl, ?_⟩, h2⟩
  rcases h with h | ⟨g, cap, cur, hv, hg, r⟩
  · exact .inl h
  · exact .inr ⟨g, cap, cur, hv, by omega, r⟩
theorem RowI.ge {w : World} {base : Nat} {e : TypeId} {s : Nat} {v : Value} {n : Nat} {F : Nat → Int} (h : RowI w base e s v n F) : ∀ k, v.ownBlock = some k → base ≤ k := by
  obtain ⟨xs, h, _⟩ := h
  exact ownBlock_ge h
/-- a write into another block -/
theorem RowI.other {w : World} {base : Nat} {e : TypeId} {s : Nat} {v : Value} {n : Nat} {F : Nat → Int} (h : RowI w base e s v n F) {a : Addr} (ha : v.ownBlock ≠ some a.block) (u : Value) : RowI (w.setCell a u) base e s v n F :=
  h.block fun k hk => Below.heap_setCell _ _ _ _ (by rintro rfl; exact ha hk)
/-- a write into the row -/
theorem RowI.set {w : World} {base : Nat} {e : TypeId} {s : Nat} {g n cap : Nat} {F : Nat → Int} (h : RowI w base e s (.slice (some ⟨g, 0, none⟩) n cap) n F) (i : Nat) (hi : i < n * s) (x : Int) :
    RowI (w.setCell ⟨g, i, none⟩ (.int .i64 x)) base e s (.slice (some ⟨g, 0, none⟩) n cap) n (upd F i x) := by
  obtain ⟨xs, ⟨hl, h⟩, h2⟩ := h
  rcases h with ⟨hv, h0⟩ | ⟨g', cap', cur, hv, hg, hh, hnc, hcm, hcs, ht⟩
  · cases hv
  · cases hv
    refine ⟨xs.set i (.int .i64 x), ⟨by simpa using hl, .inr ⟨g, cap, cur.setIfInBounds i (.int .i64 x), rfl, hg, ?_, hnc, hcm, by simpa using hcs, ?_⟩⟩, fun j hj => ?_⟩
    · simp only [World.setCell, Array.getElem?_modify, hh, Option.map_some]
      simp
    · rw [Array.toList_setIfInBounds, List.take_set, ht]
    · unfold upd
      by_cases hij : j = i
      · subst hij
        rw [if_pos rfl, List.getElem?_set_self (by omega)]
      · rw [if_neg hij, List.getElem?_set_ne (by omega)]
        exact h2 j hj
end Go.Law
