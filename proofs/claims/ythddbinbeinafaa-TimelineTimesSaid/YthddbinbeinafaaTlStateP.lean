/-
  While State goes through effects: plain laws, and what holds of memory.
-/
import Derived.Test.YthddbinbeinafaaRowV
import Derived.Test.YthddbinbeinafaaTlClicksP
namespace Go.Law.Tl
open Go.Law Go.RowKit
set_option linter.unusedVariables false
section
variable (L : Nat → Eff) (click at' : Int)
/-- the states of the items l behind i effects, cell by cell -/
def OV (l : List Int) (i : Nat) (k j : Nat) : Value :=
  if j = 0 then .int .i64 (l.getD k 0) else .int .i64 (if j = 1 then seenF (staF L click at' (l.getD k 0) i) else if j = 2 then (staF L click at' (l.getD k 0) i).x else (staF L click at' (l.getD k 0) i).y)
def KV (l : List Int) (i : Nat) (k _j : Nat) : Value := .bool (decide (0 ≤ (staF L click at' (l.getD k 0) i).seen))
end
structure StS (TO TK TT TE : TypeId) (B : Nat) (w : World) (n : Nat) (L : Nat → Eff) (click at' : Int) (tv ov kv : Value) (l : List Int) (V K : Nat → Nat → Value) (wr : World) : Prop where
  below : Below B w wr
  low : B ≤ wr.heap.size
  tm : RowI wr B TT 3 tv n (TF L)
  out : RowV wr B TO 4 ov l.length V
  kno : RowV wr B TK 1 kv l.length K
  kinds : TO ≠ TK ∧ TT ≠ TO ∧ TT ≠ TK ∧ TO ≠ TE ∧ TK ≠ TE
theorem rowI_notrow {w : World} {base base' : Nat} {e e' : TypeId} {s s' : Nat} {v v' : Value} {n n' : Nat} {F : Nat → Int} {V : Nat → Nat → Value} (h : RowI w base e s v n F) (h' : RowV w base' e' s' v' n' V) (hne : e ≠ e') {k : Nat} (hk : v.ownBlock = some k) : v'.ownBlock ≠ some k := by
  intro h2
  obtain ⟨c1, e1⟩ := rowI_obj h hk
  obtain ⟨c2, e2⟩ := h'.obj h2
  rw [e1] at e2
  injection e2 with e3
  injection e3 with _ e4
  exact hne e4
section
variable {TO TK TT TE : TypeId} {B : Nat} {w : World} {n : Nat} {L : Nat → Eff} {click at' : Int} {tv ov kv : Value} {l : List Int} {V K : Nat → Nat → Value} {wr w' : World}
theorem StS.under (h : StS TO TK TT TE B w n L click at' tv ov kv l V K wr) (hb : Below wr.heap.size wr w') : StS TO TK TT TE B w n L click at' tv ov kv l V K w' :=
  ⟨h.below.trans (hb.mono h.low), Nat.le_trans h.low hb.size, h.tm.below hb (Nat.le_refl _), h.out.below hb (Nat.le_refl _), h.kno.below hb (Nat.le_refl _), h.kinds⟩
theorem StS.setO {g cap : Nat} (h : StS TO TK TT TE B w n L click at' tv (.slice (some ⟨g, 0, none⟩) l.length cap) kv l V K wr) {k j : Nat} (hk : k < l.length) (hj : j < 4) (u : Value) : StS TO TK TT TE B w n L click at' tv (.slice (some ⟨g, 0, none⟩) l.length cap) kv l (updV V k j u) K (wr.setCell ⟨g, k * 4 + j, none⟩ u) := by
  have hg : (Value.slice (some ⟨g, 0, none⟩) l.length cap).ownBlock = some g := by simp [Value.ownBlock]
  refine ⟨h.below.setCell (h.out.ge g hg) _, by simpa [World.setCell] using h.low, h.tm.other (fun e => rowI_notrow h.tm h.out h.kinds.2.1 e hg) _, h.out.set k j hk hj u, h.kno.other (fun e => h.out.apart h.kno h.kinds.1 hg e) _, h.kinds⟩
theorem StS.setK {g cap : Nat} (h : StS TO TK TT TE B w n L click at' tv ov (.slice (some ⟨g, 0, none⟩) l.length cap) l V K wr) {k : Nat} (hk : k < l.length) (u : Value) : StS TO TK TT TE B w n L click at' tv ov (.slice (some ⟨g, 0, none⟩) l.length cap) l V (updV K k 0 u) (wr.setCell ⟨g, k, none⟩ u) := by
  have hg : (Value.slice (some ⟨g, 0, none⟩) l.length cap).ownBlock = some g := by simp [Value.ownBlock]
  have hset := h.kno.set k 0 hk (by omega) u
  rw [Nat.mul_one, Nat.add_zero] at hset
  exact ⟨h.below.setCell (h.kno.ge g hg) _, by simpa [World.setCell] using h.low, h.tm.other (fun e => rowI_notrow h.tm h.kno h.kinds.2.2.1 e hg) _, h.out.other (fun e => h.out.apart h.kno h.kinds.1 e hg) _, hset, h.kinds⟩
theorem StS.congr {V' K' : Nat → Nat → Value} (h : StS TO TK TT TE B w n L click at' tv ov kv l V K wr) (hV : ∀ i, i < l.length → ∀ j, j < 4 → V i j = V' i j) (hK : ∀ i, i < l.length → ∀ j, j < 1 → K i j = K' i j) : StS TO TK TT TE B w n L click at' tv ov kv l V' K' wr :=
  ⟨h.below, h.low, h.tm, h.out.congr hV, h.kno.congr hK, h.kinds⟩
theorem StS.kno1 {w1 : World} {o1 : Obj} (h : StS TO TK TT TE B w n L click at' tv ov kv l V K wr) (hg1 : (wr.alloc o1).grownBy w1 ov.ownBlock) : RowV w1 B TK 1 kv l.length K := by
  have ha := h.under (w' := wr.alloc o1) ((Below.refl _ _).alloc (Nat.le_refl _) _)
  exact ha.kno.block (fun k hk => hg1.block k (ha.kno.lt hk) (fun e => ha.out.apart ha.kno h.kinds.1 e.symm hk))
theorem StS.box {q : Nat} {cs : Array Value} {w1 w2 : World} {o1 o2 : Obj} (h : StS TO TK TT TE B w n L click at' tv ov kv l V K wr) (hq : Blk wr q cs TE) (hg1 : (wr.alloc o1).grownBy w1 ov.ownBlock) (hg2 : (w1.alloc o2).grownBy w2 kv.ownBlock) : Blk w2 q cs TE := by
  have ha := h.under (w' := wr.alloc o1) ((Below.refl _ _).alloc (Nat.le_refl _) _)
  have h1 : Blk w1 q cs TE := (hq.alloc o1).block (hg1.block q (hq.alloc o1).lt (fun e => ha.out.notblk (hq.alloc o1) h.kinds.2.2.2.1 e.symm))
  have hk := (h.kno1 hg1).below ((Below.refl w1.heap.size w1).alloc (Nat.le_refl _) o2) (Nat.le_refl _)
  exact (h1.alloc o2).block (hg2.block q (h1.alloc o2).lt (fun e => hk.notblk (h1.alloc o2) h.kinds.2.2.2.2 e.symm))
/-- both rows are appended to, one behind the other -/
theorem StS.both {l' : List Int} {V' K' : Nat → Nat → Value} {ov' kv' : Value} {w1 w2 : World} {o1 o2 : Obj} (h : StS TO TK TT TE B w n L click at' tv ov kv l V K wr) (hg1 : (wr.alloc o1).grownBy w1 ov.ownBlock) (hr1 : RowV w1 B TO 4 ov' l'.length V')
    (hg2 : (w1.alloc o2).grownBy w2 kv.ownBlock) (hr2 : RowV w2 B TK 1 kv' l'.length K') : StS TO TK TT TE B w n L click at' tv ov' kv' l' V' K' w2 := by
  have hb0 : Below wr.heap.size wr (wr.alloc o1) := (Below.refl _ _).alloc (Nat.le_refl _) _
  have ha := h.under hb0
  have hk1 : RowV w1 B TK 1 kv l.length K := ha.kno.block (fun k hk => hg1.block k (ha.kno.lt hk) (fun e => ha.out.apart ha.kno h.kinds.1 e.symm hk))
  have ht1 : RowI w1 B TT 3 tv n (TF L) := ha.tm.block (fun k hk => hg1.block k (rowI_lt ha.tm hk) (fun e => rowI_notrow ha.tm ha.out h.kinds.2.1 hk e.symm))
  have hb1 : Below B w w1 := Below.grown ha.below hg1 ha.low (fun k hk => ha.out.ge k hk)
  have hl1 : B ≤ w1.heap.size := Nat.le_trans ha.low hg1.size
  have hc : Below w1.heap.size w1 (w1.alloc o2) := (Below.refl _ _).alloc (Nat.le_refl _) _
  have hk2 := hk1.below hc (Nat.le_refl _)
  have ho2 := hr1.below hc (Nat.le_refl _)
  have ht2 := ht1.below hc (Nat.le_refl _)
  have hl2 : B ≤ (w1.alloc o2).heap.size := by simp; omega
  refine ⟨Below.grown (hb1.alloc hl1 _) hg2 hl2 (fun k hk => hk2.ge k hk), Nat.le_trans hl2 hg2.size, ht2.block (fun k hk => hg2.block k (rowI_lt ht2 hk) (fun e => rowI_notrow ht2 hk2 h.kinds.2.2.1 hk e.symm)), ho2.block (fun k hk => hg2.block k (ho2.lt hk) (fun e => ho2.apart hk2 h.kinds.1 hk e.symm)), hr2, h.kinds⟩
end
section
variable {L : Nat → Eff} {click at' : Int}
theorem getD_ne {l : List Int} (hd : l.Nodup) {k k' : Nat} (hk : k < l.length) (hk' : k' < l.length) (h : k' ≠ k) : l.getD k' 0 ≠ l.getD k 0 := by
  simp only [List.getD, List.getElem?_eq_getElem hk, List.getElem?_eq_getElem hk', Option.getD_some]
  have hp := List.pairwise_iff_getElem.1 hd
  rcases Nat.lt_or_ge k' k with h1 | h1
  · exact hp k' k hk' hk h1
  · exact (hp k k' hk hk' (by omega)).symm
/-- the states behind one effect more: only those of its item are others -/
theorem OV_step {l : List Int} (hd : l.Nodup) {i k : Nat} (hk : k < l.length) (he : l.getD k 0 = (L i).item) {V : Nat → Nat → Value} (hV : ∀ a, a < l.length → ∀ b, b < 4 → a ≠ k ∨ b = 0 → V a b = OV L click at' l i a b)
    (h1 : V k 1 = .int .i64 (seenF (stepS (staF L click at' (L i).item i) (L i) (prI L click at' i)))) (h2 : V k 2 = .int .i64 (stepS (staF L click at' (L i).item i) (L i) (prI L click at' i)).x) (h3 : V k 3 = .int .i64 (stepS (staF L click at' (L i).item i) (L i) (prI L click at' i)).y) :
    ∀ a, a < l.length → ∀ b, b < 4 → V a b = OV L click at' l (i + 1) a b := by
  intro a ha b hb
  by_cases hak : a = k
  · subst hak
    have hs : staF L click at' (l.getD a 0) (i + 1) = stepS (staF L click at' (L i).item i) (L i) (prI L click at' i) := by rw [he, staF, if_pos rfl]
    match b, hb with
    | 0, _ => rw [hV a ha 0 (by omega) (.inr rfl)]; rfl
    | 1, _ => rw [h1]; unfold OV; rw [if_neg (by omega), if_pos rfl, hs]
    | 2, _ => rw [h2]; unfold OV; rw [if_neg (by omega), if_neg (by omega), if_pos rfl, hs]
    | 3, _ => rw [h3]; unfold OV; rw [if_neg (by omega), if_neg (by omega), if_neg (by omega), hs]
  · have hne := getD_ne hd hk ha hak
    rw [he] at hne
    rw [hV a ha b hb (.inl hak)]
    unfold OV
    rw [show staF L click at' (l.getD a 0) (i + 1) = staF L click at' (l.getD a 0) i by rw [staF, if_neg (fun e => hne e.symm)]]
theorem KV_step {l : List Int} (hd : l.Nodup) {i k : Nat} (hk : k < l.length) (he : l.getD k 0 = (L i).item) {K : Nat → Nat → Value} (hK : ∀ a, a < l.length → a ≠ k → K a 0 = KV L click at' l i a 0)
    (h1 : K k 0 = .bool (decide (0 ≤ (stepS (staF L click at' (L i).item i) (L i) (prI L click at' i)).seen))) : ∀ a, a < l.length → ∀ b, b < 1 → K a b = KV L click at' l (i + 1) a b := by
  intro a ha b hb
  obtain rfl : b = 0 := by omega
  by_cases hak : a = k
  · subst hak
    rw [h1]
    unfold KV
    rw [he, staF, if_pos rfl]
  · have hne := getD_ne hd hk ha hak
    rw [he] at hne
    rw [hK a ha hak]
    unfold KV
    rw [staF, if_neg (fun e => hne e.symm)]
/-- one item more, that has no state yet -/
theorem OV_push {l : List Int} {x : Int} (i : Nat) : ∀ a, a < l.length → ∀ b, OV L click at' l i a b = OV L click at' (l ++ [x]) i a b := by
  intro a ha b
  unfold OV
  have e : (l ++ [x]).getD a 0 = l.getD a 0 := by simp [List.getD, List.getElem?_append_left ha]
  rw [e]
theorem KV_push {l : List Int} {x : Int} (i : Nat) : ∀ a, a < l.length → ∀ b, KV L click at' l i a b = KV L click at' (l ++ [x]) i a b := by
  intro a ha b
  unfold KV
  have e : (l ++ [x]).getD a 0 = l.getD a 0 := by simp [List.getD, List.getElem?_append_left ha]
  rw [e]
theorem OV_new {l : List Int} {x : Int} {i : Nat} (h : staF L click at' x i = ⟨-1, 0, 0⟩) (j : Nat) (hj : j < 4) : ([.int .i64 x, .int .i64 1000, .int .i64 0, .int .i64 0] : List Value)[j]? = some (OV L click at' (l ++ [x]) i l.length j) := by
  have e : (l ++ [x]).getD l.length 0 = x := by simp [List.getD]
  unfold OV
  rw [e, h]
  match j, hj with
  | 0, _ => rfl
  | 1, _ => rfl
  | 2, _ => rfl
  | 3, _ => rfl
theorem KV_new {l : List Int} {x : Int} {i : Nat} (h : staF L click at' x i = ⟨-1, 0, 0⟩) (j : Nat) (hj : j < 1) : ([.bool false] : List Value)[j]? = some (KV L click at' (l ++ [x]) i l.length j) := by
  have e : (l ++ [x]).getD l.length 0 = x := by simp [List.getD]
  unfold KV
  rw [e, h]
  match j, hj with
  | 0, _ => rfl
theorem getD_last (l : List Int) (x : Int) : (l ++ [x]).getD l.length 0 = x := by simp [List.getD]
theorem step_by {s : Sta} {e : Eff} {p : Int} (h : e.kind = 2) : stepS s e p = ⟨s.seen, s.x + (e.x * p).tdiv 1000, s.y + (e.y * p).tdiv 1000⟩ := by
  unfold stepS
  simp only
  have e1 : (if e.kind ≠ 2 ∧ s.seen < 0 then 1000 * e.kind else s.seen) = s.seen := if_neg (fun hh => hh.1 h)
  rw [e1]
  by_cases hp : p = 0
  · rw [if_pos hp, hp]; simp
  · rw [if_neg hp, if_pos h]
theorem step_in {s : Sta} {e : Eff} {p : Int} (h : e.kind = 0) (hp : 0 ≤ p) : stepS s e p = ⟨if p = 0 then (if s.seen < 0 then 0 else s.seen) else max (if s.seen < 0 then 0 else s.seen) p, s.x, s.y⟩ := by
  unfold stepS
  simp only
  have e1 : (if e.kind ≠ 2 ∧ s.seen < 0 then 1000 * e.kind else s.seen) = if s.seen < 0 then 0 else s.seen := by
    by_cases hs : s.seen < 0
    · rw [if_pos ⟨by omega, hs⟩, if_pos hs, h]; rfl
    · rw [if_neg (fun h => hs h.2), if_neg hs]
  rw [e1]
  by_cases h0 : p = 0
  · rw [if_pos h0, if_pos h0]
  · rw [if_neg h0, if_neg (by omega), if_pos h, if_neg h0]
theorem step_out {s : Sta} {e : Eff} {p : Int} (h : e.kind = 1) : stepS s e p = ⟨if p = 0 then (if s.seen < 0 then 1000 else s.seen) else min (if s.seen < 0 then 1000 else s.seen) (1000 - p), s.x, s.y⟩ := by
  unfold stepS
  simp only
  have e1 : (if e.kind ≠ 2 ∧ s.seen < 0 then 1000 * e.kind else s.seen) = if s.seen < 0 then 1000 else s.seen := by
    by_cases hs : s.seen < 0
    · rw [if_pos ⟨by omega, hs⟩, if_pos hs, h]; rfl
    · rw [if_neg (fun h => hs h.2), if_neg hs]
  rw [e1]
  by_cases h0 : p = 0
  · rw [if_pos h0, if_pos h0]
  · rw [if_neg h0, if_neg (by omega), if_neg (by omega), if_neg h0]
/-- where an item stands among the items, or nowhere -/
theorem mem_at {l : List Int} {x : Int} (h : x ∈ l) : ∃ k, k < l.length ∧ l.getD k 0 = x := by
  obtain ⟨k, hk, he⟩ := List.mem_iff_getElem.1 h
  exact ⟨k, hk, by simp [List.getD, List.getElem?_eq_getElem hk, he]⟩
theorem first_at (l : Nat → Int) (I : Int) : ∀ (n : Nat), (∃ k, k < n ∧ l k = I ∧ ∀ j, j < k → l j ≠ I) ∨ ∀ j, j < n → l j ≠ I
  | 0 => .inr fun j hj => by omega
  | n + 1 => by
    rcases first_at l I n with ⟨k, h1, h2, h3⟩ | h
    · exact .inl ⟨k, by omega, h2, h3⟩
    · by_cases hn : l n = I
      · exact .inl ⟨n, by omega, hn, h⟩
      · refine .inr fun j hj => ?_
        by_cases hjn : j = n
        · subst hjn; exact hn
        · exact h j (by omega)
end
end Go.Law.Tl
