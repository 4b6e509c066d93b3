/-
  The memory of plans: a plan is put; what holds in the round of a search.
-/
import Derived.Test.YtnigebnibikolaaLnMemo
import Derived.Test.YtnigebnibikolaaLnEnds
namespace Go.Law.Ln
set_option linter.unusedVariables false
open Go.RowKit Go.Law
theorem Blk.out {n kb B : Nat} {w w' : World} {G G' : Nat → Option Nat} {b : Nat} {cs : Array Value} {e : TypeId} (h : Blk w b cs e) (ho : Out n w kb G b) (hf : Fr n kb B w G w' G') : Blk w' b cs e := Blk.block h (hf.2.2.2 b ho)
section
variable {n : Nat} {L : Nat → Part} {nw : Nat} {W : Nat → Int} {D : Int} {TR TP : TypeId} {w w' : World} {kb B : Nat} {G G' : Nat → Option Nat}
def put4 (w : World) (g o : Nat) (p : Pl) : World := (((w.setCell ⟨g, o, none⟩ (.bool true)).setCell ⟨g, o + 1, none⟩ (.int .i64 p.1)).setCell ⟨g, o + 2, none⟩ (.int .i64 p.2.1)).setCell ⟨g, o + 3, none⟩ (.int .i64 p.2.2)
theorem put4_heap (w : World) (g o : Nat) (p : Pl) {b : Nat} (h : b ≠ g) : (put4 w g o p).heap[b]? = w.heap[b]? := by
  unfold put4
  rw [Below.heap_setCell _ _ _ _ h, Below.heap_setCell _ _ _ _ h, Below.heap_setCell _ _ _ _ h, Below.heap_setCell _ _ _ _ h]
theorem put4_below {B : Nat} {W : World} (w : World) (g o : Nat) (p : Pl) (h : Below B W w) (hg : B ≤ g) : Below B W (put4 w g o p) :=
  (((h.setCell (p := ⟨g, o, none⟩) hg _).setCell (p := ⟨g, o + 1, none⟩) hg _).setCell (p := ⟨g, o + 2, none⟩) hg _).setCell (p := ⟨g, o + 3, none⟩) hg _
def putV (V : Nat → Value) (o : Nat) (p : Pl) : Nat → Value := updV (updV (updV (updV V o (.bool true)) (o + 1) (.int .i64 p.1)) (o + 2) (.int .i64 p.2.1)) (o + 3) (.int .i64 p.2.2)
theorem putV_same (V : Nat → Value) (o : Nat) (p : Pl) : PlanAt (putV V (o * 4) p) o p := by
  refine .inr ⟨?_, ?_, ?_, ?_⟩ <;> simp [putV, updV]
theorem putV_other {V : Nat → Value} {o o' : Nat} {p p' : Pl} (h : o' ≠ o) (hp : PlanAt V o' p') : PlanAt (putV V (o * 4) p) o' p' := by
  have e : ∀ j, j < 4 → putV V (o * 4) p (o' * 4 + j) = V (o' * 4 + j) := by
    intro j hj
    unfold putV updV
    rw [if_neg (by omega), if_neg (by omega), if_neg (by omega), if_neg (by omega)]
  have e0 := e 0 (by omega)
  rw [Nat.add_zero] at e0
  unfold PlanAt
  rw [e0, e 1 (by omega), e 2 (by omega), e 3 (by omega)]
  exact hp
theorem keyN_inj {k k' : Nat} {f f' : Bool} (h : keyN k f = keyN k' f') : k = k' ∧ f = f' := by
  unfold keyN at h
  cases f <;> cases f' <;> simp at h ⊢ <;> omega
theorem Memo.put {a g k : Nat} {flag : Bool} (hm : Memo n L nw W D TR TP w kb B G) (hga : G a = some g) (ha : a ≤ n) (hk : k < nw) (hne : TR ≠ TP) :
    Memo n L nw W D TR TP (put4 w g (keyN k flag * 4) (bestF n L nw W D a k flag)) kb B G ∧ Fr n kb B w G (put4 w g (keyN k flag * 4) (bestF n L nw W D a k flag)) G := by
  obtain ⟨⟨h1, h2⟩, h3, h4⟩ := hm
  obtain ⟨V, k1, k2, k3⟩ := h3 a g ha hga
  have hgk : kb ≠ g := h1.ne k1 hne
  refine ⟨⟨⟨h1.block (put4_heap _ _ _ _ hgk), h2⟩, fun f g' hf hg' => ?_, h4⟩, put4_below _ _ _ _ (Below.refl _ _) k2, fun _ _ _ h => .inl h, fun _ _ _ h => h, fun b hb => put4_heap _ _ _ _ (fun h => hb.2.2 a ha (by rw [hga, h]))⟩
  by_cases hgg : g' = g
  · subst hgg
    obtain rfl := h4 f a _ hf ha hg' hga
    refine ⟨putV V (keyN k flag * 4) (bestF n L nw W D f k flag), (((k1.set _ _).set _ _).set _ _).set _ _, k2, fun k' flag' hk' => ?_⟩
    by_cases he : keyN k' flag' = keyN k flag
    · obtain ⟨rfl, rfl⟩ := keyN_inj he
      exact putV_same _ _ _
    · exact putV_other he (k3 k' flag' hk')
  · obtain ⟨V', l1, l2, l3⟩ := h3 f g' hf hg'
    exact ⟨V', l1.block (put4_heap _ _ _ _ hgg), l2, l3⟩
end
def accC : Option Pl → Array Value
  | none => #[.bool true, .int .i64 (-1), .int .i64 0, .int .i64 0]
  | some p => #[.bool true, .int .i64 p.1, .int .i64 p.2.1, .int .i64 p.2.2]
/-- in a round of the search: what is known, the result's cells, the best way so far, the worker, the lines -/
structure Rnd (n : Nat) (L : Nat → Part) (nw : Nat) (W : Nat → Int) (D : Int) (TR TP TW TL : TypeId) (m wb kb B : Nat) (w : World) (G : Nat → Option Nat) (q : Nat) (v : Value) (xs : List Line) (acc : Option Pl) (a g : Nat) (wr : World) (Gr : Nat → Option Nat) : Prop where
  size : B ≤ w.heap.size ∧ w.heap.size < q
  row : Gr a = some g
  memo : Memo n L nw W D TR TP wr kb B Gr
  fr : Fr n kb B w G wr Gr
  res : Blk wr w.heap.size #[.bool false, .int .i64 0, .int .i64 0, .int .i64 0] TP
  resO : Out n wr kb Gr w.heap.size
  best : Blk wr q (accC acc) TP
  bestO : Out n wr kb Gr q
  work : Blk wr wb #[.pointer (some ⟨m, 0, none⟩), .slice (some ⟨kb, 0, none⟩) (n + 1) (n + 1)] TW
  workO : Out n wr kb Gr wb
  workL : wb < w.heap.size
  lines : RowL wr (q + 1) TL 6 v xs.length (linesC xs)
  linesO : ∀ k, v.ownBlock = some k → Out n wr kb Gr k
section
variable {n : Nat} {L : Nat → Part} {nw : Nat} {W : Nat → Int} {D : Int} {TR TP TW TL : TypeId} {m wb kb B : Nat} {w w' : World} {G G' : Nat → Option Nat} {q : Nat} {v : Value} {xs : List Line} {acc : Option Pl} {a g : Nat} {wr : World} {Gr : Nat → Option Nat}
theorem Rnd.step (h : Rnd n L nw W D TR TP TW TL m wb kb B w G q v xs acc a g wr Gr) (ha : a ≤ n) (hm : Memo n L nw W D TR TP w' kb B G') (hf : Fr n kb B wr Gr w' G') : Rnd n L nw W D TR TP TW TL m wb kb B w G q v xs acc a g w' G' :=
  ⟨h.size, hf.2.2.1 a g ha h.row, hm, h.fr.trans hf, Blk.out h.res h.resO hf, h.resO.keep hf, Blk.out h.best h.bestO hf, h.bestO.keep hf, Blk.out h.work h.workO hf, h.workO.keep hf, h.workL, h.lines.block (fun k hk => hf.2.2.2 k (h.linesO k hk)), fun k hk => (h.linesO k hk).keep hf⟩
theorem Rnd.big (h : Rnd n L nw W D TR TP TW TL m wb kb B w G q v xs acc a g wr Gr) : B ≤ wr.heap.size := Nat.le_trans h.size.1 h.fr.1.size
theorem Rnd.below (h : Rnd n L nw W D TR TP TW TL m wb kb B w G q v xs acc a g wr Gr) (ha : a ≤ n) (hb : Below wr.heap.size wr w') : Rnd n L nw W D TR TP TW TL m wb kb B w G q v xs acc a g w' Gr :=
  h.step ha (h.memo.below hb) (Fr.of_below hb h.big)
theorem Rnd.better (h : Rnd n L nw W D TR TP TW TL m wb kb B w G q v xs acc a g wr Gr) (x : Pl) :
    Rnd n L nw W D TR TP TW TL m wb kb B w G q v xs (some x) a g (((wr.setCell ⟨q, 1, none⟩ (.int .i64 x.1)).setCell ⟨q, 2, none⟩ (.int .i64 x.2.1)).setCell ⟨q, 3, none⟩ (.int .i64 x.2.2)) Gr := by
  have e : ∀ {b : Nat}, b ≠ q → (((wr.setCell ⟨q, 1, none⟩ (.int .i64 x.1)).setCell ⟨q, 2, none⟩ (.int .i64 x.2.1)).setCell ⟨q, 3, none⟩ (.int .i64 x.2.2)).heap[b]? = wr.heap[b]? := by
    intro b hb
    rw [Below.heap_setCell _ _ _ _ hb, Below.heap_setCell _ _ _ _ hb, Below.heap_setCell _ _ _ _ hb]
  have hs := h.size
  have hb : Below q wr (((wr.setCell ⟨q, 1, none⟩ (.int .i64 x.1)).setCell ⟨q, 2, none⟩ (.int .i64 x.2.1)).setCell ⟨q, 3, none⟩ (.int .i64 x.2.2)) :=
    (((Below.refl q wr).setCell (p := ⟨q, 1, none⟩) (Nat.le_refl _) _).setCell (p := ⟨q, 2, none⟩) (Nat.le_refl _) _).setCell (p := ⟨q, 3, none⟩) (Nat.le_refl _) _
  have hmm := (((h.memo.other (p := ⟨q, 1, none⟩) h.bestO (.int .i64 x.1)).other (p := ⟨q, 2, none⟩) (h.bestO.set _ _) (.int .i64 x.2.1)).other (p := ⟨q, 3, none⟩) ((h.bestO.set _ _).set _ _) (.int .i64 x.2.2))
  have keep : ∀ {b : Nat}, Out n wr kb Gr b → Out n (((wr.setCell ⟨q, 1, none⟩ (.int .i64 x.1)).setCell ⟨q, 2, none⟩ (.int .i64 x.2.1)).setCell ⟨q, 3, none⟩ (.int .i64 x.2.2)) kb Gr b := fun ho => ((ho.set _ _).set _ _).set _ _
  have hbest : Blk (((wr.setCell ⟨q, 1, none⟩ (.int .i64 x.1)).setCell ⟨q, 2, none⟩ (.int .i64 x.2.1)).setCell ⟨q, 3, none⟩ (.int .i64 x.2.2)) q (accC (some x)) TP := by
    have := (((h.best.set 1 (.int .i64 x.1)).set 2 (.int .i64 x.2.1)).set 3 (.int .i64 x.2.2))
    cases acc <;> exact this
  refine ⟨hs, h.row, hmm, ⟨h.fr.1.trans (hb.mono (by omega)), h.fr.2.1, h.fr.2.2.1, fun b hbO => ?_⟩, Blk.block h.res (e (by omega)), keep h.resO, hbest, keep h.bestO, Blk.block h.work (e ?_), keep h.workO, h.workL, h.lines.block (fun k hk => e ?_), fun k hk => keep (h.linesO k hk)⟩
  · have := hbO.1
    rw [e (by omega)]
    exact h.fr.2.2.2 b hbO
  · have := h.workL; omega
  · have := RowL.ge h.lines k hk; omega
end
end Go.Law.Ln
namespace Go.Law.Ln
set_option linter.unusedVariables false
open Go.RowKit Go.Law
theorem fin4 {n : Nat} {L : Nat → Part} {nw : Nat} {W : Nat → Int} {D : Int} {TR TP : TypeId} {kb B : Nat} {w wr : World} {G Gr : Nat → Option Nat} (hm : Memo n L nw W D TR TP wr kb B Gr) (hf : Fr n kb B w G wr Gr) (hr : Blk wr w.heap.size #[.bool false, .int .i64 0, .int .i64 0, .int .i64 0] TP) (ho : Out n wr kb Gr w.heap.size) (hB : B ≤ w.heap.size) (p : Pl) :
    ∃ w', w' = (((wr.setCell ⟨w.heap.size, 0, none⟩ (.bool true)).setCell ⟨w.heap.size, 1, none⟩ (.int .i64 p.1)).setCell ⟨w.heap.size, 2, none⟩ (.int .i64 p.2.1)).setCell ⟨w.heap.size, 3, none⟩ (.int .i64 p.2.2) ∧ (Memo n L nw W D TR TP w' kb B Gr ∧ Fr n kb B w G w' Gr) ∧ Blk w' w.heap.size #[.bool true, .int .i64 p.1, .int .i64 p.2.1, .int .i64 p.2.2] TP := by
  refine ⟨_, rfl, ⟨?_, ?_, hf.2.1, hf.2.2.1, fun b hb => ?_⟩, ?_⟩
  · exact (((hm.other (p := ⟨w.heap.size, 0, none⟩) ho _).other (p := ⟨w.heap.size, 1, none⟩) (ho.set _ _) _).other (p := ⟨w.heap.size, 2, none⟩) ((ho.set _ _).set _ _) _).other (p := ⟨w.heap.size, 3, none⟩) (((ho.set _ _).set _ _).set _ _) _
  · exact (((hf.1.setCell (p := ⟨w.heap.size, 0, none⟩) hB _).setCell (p := ⟨w.heap.size, 1, none⟩) hB _).setCell (p := ⟨w.heap.size, 2, none⟩) hB _).setCell (p := ⟨w.heap.size, 3, none⟩) hB _
  · have hne : b ≠ w.heap.size := by have := hb.1; omega
    rw [Below.heap_setCell _ _ _ _ hne, Below.heap_setCell _ _ _ _ hne, Below.heap_setCell _ _ _ _ hne, Below.heap_setCell _ _ _ _ hne]
    exact hf.2.2.2 b hb
  · exact (((hr.set 0 (.bool true)).set 1 (.int .i64 p.1)).set 2 (.int .i64 p.2.1)).set 3 (.int .i64 p.2.2)
end Go.Law.Ln
namespace Go.Law.Ln
set_option linter.unusedVariables false
open Go.RowKit Go.Law
/-- what holds behind the fold of all lines -/
theorem fold_best {n : Nat} {L : Nat → Part} {nw : Nat} {W : Nat → Int} {D : Int} {a k : Nat} {flag : Bool} (ha : a ≤ n) : (endF n L nw W a k).foldl (stepB n L D (bestF n L nw W D) k flag) none = some (bestF n L nw W D a k flag) := by
  obtain ⟨p, hp⟩ := fold_some (n := n) (L := L) (D := D) (rec := bestF n L nw W D) (num := k) (flag := flag) (endF n L nw W a k) none (.inr (endF_some ha))
  rw [bestF_eq ha, hp]; rfl
/-- a line, cell by cell, and the worker's maker -/
def SX (wb m q a z : Nat) (N S R Wd : Int) (w : World) : Prop :=
  w.cell? ⟨wb, 0, none⟩ = some (.pointer (some ⟨m, 0, none⟩)) ∧ w.cell? ⟨q, 0, none⟩ = some (.int .i64 a) ∧ w.cell? ⟨q, 1, none⟩ = some (.int .i64 z) ∧ w.cell? ⟨q, 2, none⟩ = some (.int .i64 N) ∧ w.cell? ⟨q, 3, none⟩ = some (.int .i64 S) ∧ w.cell? ⟨q, 4, none⟩ = some (.int .i64 R) ∧ w.cell? ⟨q, 5, none⟩ = some (.int .i64 Wd)
theorem SX.of {wb m q a z n kb : Nat} {N S R Wd : Int} {w : World} {T U : TypeId} (hw : Blk w wb #[.pointer (some ⟨m, 0, none⟩), .slice (some ⟨kb, 0, none⟩) (n + 1) (n + 1)] U) (h : Blk w q #[.int .i64 a, .int .i64 z, .int .i64 N, .int .i64 S, .int .i64 R, .int .i64 Wd] T) : SX wb m q a z N S R Wd w :=
  ⟨hw.cell (i := 0) rfl, h.cell (i := 0) rfl, h.cell (i := 1) rfl, h.cell (i := 2) rfl, h.cell (i := 3) rfl, h.cell (i := 4) rfl, h.cell (i := 5) rfl⟩
/-- with the line that is looked at -/
def RndX (n : Nat) (L : Nat → Part) (nw : Nat) (W : Nat → Int) (D : Int) (TR TP TW TL : TypeId) (m wb kb B : Nat) (w : World) (G : Nat → Option Nat) (q : Nat) (v : Value) (xs : List Line) (acc : Option Pl) (a g : Nat) (px z : Nat) (N S R Wd : Int) (wr : World) (Gr : Nat → Option Nat) : Prop :=
  Rnd n L nw W D TR TP TW TL m wb kb B w G q v xs acc a g wr Gr ∧ Blk wr px #[.int .i64 a, .int .i64 z, .int .i64 N, .int .i64 S, .int .i64 R, .int .i64 Wd] TL ∧ Out n wr kb Gr px
section
variable {n : Nat} {L : Nat → Part} {nw : Nat} {W : Nat → Int} {D : Int} {TR TP TW TL : TypeId} {m wb kb B : Nat} {w w' : World} {G G' : Nat → Option Nat} {q : Nat} {v : Value} {xs : List Line} {acc : Option Pl} {a g px z : Nat} {N S R Wd : Int} {wr : World} {Gr : Nat → Option Nat}
theorem RndX.step (h : RndX n L nw W D TR TP TW TL m wb kb B w G q v xs acc a g px z N S R Wd wr Gr) (ha : a ≤ n) (hm : Memo n L nw W D TR TP w' kb B G') (hf : Fr n kb B wr Gr w' G') : RndX n L nw W D TR TP TW TL m wb kb B w G q v xs acc a g px z N S R Wd w' G' :=
  ⟨h.1.step ha hm hf, Blk.out h.2.1 h.2.2 hf, h.2.2.keep hf⟩
theorem RndX.below (h : RndX n L nw W D TR TP TW TL m wb kb B w G q v xs acc a g px z N S R Wd wr Gr) (ha : a ≤ n) (hb : Below wr.heap.size wr w') : RndX n L nw W D TR TP TW TL m wb kb B w G q v xs acc a g px z N S R Wd w' Gr :=
  h.step ha (h.1.memo.below hb) (Fr.of_below hb h.1.big)
theorem RndX.sx (h : RndX n L nw W D TR TP TW TL m wb kb B w G q v xs acc a g px z N S R Wd wr Gr) : SX wb m px a z N S R Wd wr := SX.of h.1.work h.2.1
theorem RndX.drewN (h : RndX n L nw W D TR TP TW TL m wb kb B w G q v xs acc a g px z N S R Wd wr Gr) (ha : a ≤ n) (k : Nat) : RndX n L nw W D TR TP TW TL m wb kb B w G q v xs acc a g px z N S R Wd (wr.drewN k) Gr := h.below ha (below_drewN (Below.refl _ _) _)
theorem RndX.start (h : Rnd n L nw W D TR TP TW TL m wb kb B w G q v xs acc a g wr Gr) (ha : a ≤ n) (hpx : px = wr.heap.size) :
    RndX n L nw W D TR TP TW TL m wb kb B w G q v xs acc a g px z N S R Wd (wr.alloc (.cells #[.int .i64 a, .int .i64 z, .int .i64 N, .int .i64 S, .int .i64 R, .int .i64 Wd] TL)) Gr := by
  subst hpx
  have hb : Below wr.heap.size wr (wr.alloc (.cells #[.int .i64 a, .int .i64 z, .int .i64 N, .int .i64 S, .int .i64 R, .int .i64 Wd] TL)) := (Below.refl _ _).alloc (Nat.le_refl _) _
  exact ⟨h.below ha hb, Blk.new _ _ _, Out.new h.memo hb (Nat.le_refl _) (by simp)⟩
/-- a block that is made last -/
def Late (w : World) (wb q px pq : Nat) (v : Value) : Prop := w.heap.size < pq ∧ wb < pq ∧ q < pq ∧ px < pq ∧ ∀ k, v.ownBlock = some k → k < pq
/-- memory is made -/
theorem RndX.fresh (h : RndX n L nw W D TR TP TW TL m wb kb B w G q v xs acc a g px z N S R Wd wr Gr) (T : TypeId) :
    ∃ (wo w4 : World) (pq : Nat), w4 = wr.alloc (.cells #[.bool false, .int .i64 0, .int .i64 0, .int .i64 0] T) ∧ pq = wr.heap.size ∧ Below wr.heap.size wr w4 ∧ Blk w4 pq #[.bool false, .int .i64 0, .int .i64 0, .int .i64 0] T ∧ Out n w4 kb Gr pq ∧ Late w wb q px pq v :=
  have hb : Below wr.heap.size wr (wr.alloc (.cells #[.bool false, .int .i64 0, .int .i64 0, .int .i64 0] T)) := (Below.refl _ _).alloc (Nat.le_refl _) _
  ⟨wr, _, _, rfl, rfl, hb, Blk.new _ _ _, Out.new h.1.memo hb (Nat.le_refl _) (by simp), h.1.resO.1, h.1.workO.1, h.1.bestO.1, h.2.2.1, fun k hk => (h.1.linesO k hk).1⟩
theorem RndX.put {pq : Nat} (h : RndX n L nw W D TR TP TW TL m wb kb B w G q v xs acc a g px z N S R Wd wr Gr) (hl : Late w wb q px pq v) (ho : Out n wr kb Gr pq) (x : Pl) :
    RndX n L nw W D TR TP TW TL m wb kb B w G q v xs acc a g px z N S R Wd ((((wr.setCell ⟨pq, 0, none⟩ (.bool true)).setCell ⟨pq, 1, none⟩ (.int .i64 x.1)).setCell ⟨pq, 2, none⟩ (.int .i64 x.2.1)).setCell ⟨pq, 3, none⟩ (.int .i64 x.2.2)) Gr := by
  obtain ⟨l1, l2, l3, l4, l5⟩ := hl
  have e : ∀ {b : Nat}, b < pq → ((((wr.setCell ⟨pq, 0, none⟩ (.bool true)).setCell ⟨pq, 1, none⟩ (.int .i64 x.1)).setCell ⟨pq, 2, none⟩ (.int .i64 x.2.1)).setCell ⟨pq, 3, none⟩ (.int .i64 x.2.2)).heap[b]? = wr.heap[b]? := by
    intro b hb
    have hb : b ≠ pq := by omega
    rw [Below.heap_setCell _ _ _ _ hb, Below.heap_setCell _ _ _ _ hb, Below.heap_setCell _ _ _ _ hb, Below.heap_setCell _ _ _ _ hb]
  have hs := h.1.size
  have hb : Below pq wr ((((wr.setCell ⟨pq, 0, none⟩ (.bool true)).setCell ⟨pq, 1, none⟩ (.int .i64 x.1)).setCell ⟨pq, 2, none⟩ (.int .i64 x.2.1)).setCell ⟨pq, 3, none⟩ (.int .i64 x.2.2)) :=
    ((((Below.refl pq wr).setCell (p := ⟨pq, 0, none⟩) (Nat.le_refl _) _).setCell (p := ⟨pq, 1, none⟩) (Nat.le_refl _) _).setCell (p := ⟨pq, 2, none⟩) (Nat.le_refl _) _).setCell (p := ⟨pq, 3, none⟩) (Nat.le_refl _) _
  have hmm := ((((h.1.memo.other (p := ⟨pq, 0, none⟩) ho (.bool true)).other (p := ⟨pq, 1, none⟩) (ho.set _ _) (.int .i64 x.1)).other (p := ⟨pq, 2, none⟩) ((ho.set _ _).set _ _) (.int .i64 x.2.1)).other (p := ⟨pq, 3, none⟩) (((ho.set _ _).set _ _).set _ _) (.int .i64 x.2.2))
  have keep : ∀ {b : Nat}, Out n wr kb Gr b → Out n ((((wr.setCell ⟨pq, 0, none⟩ (.bool true)).setCell ⟨pq, 1, none⟩ (.int .i64 x.1)).setCell ⟨pq, 2, none⟩ (.int .i64 x.2.1)).setCell ⟨pq, 3, none⟩ (.int .i64 x.2.2)) kb Gr b := fun ho => (((ho.set _ _).set _ _).set _ _).set _ _
  refine ⟨⟨hs, h.1.row, hmm, ⟨h.1.fr.1.trans (hb.mono (by omega)), h.1.fr.2.1, h.1.fr.2.2.1, fun b hbO => ?_⟩, Blk.block h.1.res (e l1), keep h.1.resO, Blk.block h.1.best (e l3), keep h.1.bestO, Blk.block h.1.work (e l2), keep h.1.workO, h.1.workL, h.1.lines.block (fun k hk => e (l5 k hk)), fun k hk => keep (h.1.linesO k hk)⟩, Blk.block h.2.1 (e l4), keep h.2.2⟩
  have := hbO.1
  rw [e (by omega)]
  exact h.1.fr.2.2.2 b hbO
theorem Rnd.mk0 (h : Rnd n L nw W D TR TP TW TL m wb kb B w G q v xs acc a g wr Gr) {w0 : World} (hB : B = w0.heap.size) (hw : Below w0.heap.size w0 w) (hm : Mk w0 m n L nw W D) : Mk wr m n L nw W D :=
  hm.below (Nat.le_refl _) (hw.trans (hB ▸ h.fr.1))
end
end Go.Law.Ln
namespace Go.Law.Ln
set_option linter.unusedVariables false
open Go.RowKit Go.Law
theorem endG_len {n : Nat} {L : Nat → Part} {nw : Nat} {W : Nat → Int} {a num : Nat} : ∀ (f z : Nat) (first : Bool), (endG n L nw W a num f z first).length ≤ f
  | 0, _, _ => Nat.le_refl _
  | f + 1, z, first => by
    have h := endG_len (n := n) (L := L) (nw := nw) (W := W) (a := a) (num := num) f (z + 1)
    have ht : ∀ fr, (if mustB n L z = true then ([] : List Line) else endG n L nw W a num f (z + 1) fr).length ≤ f := by
      intro fr
      split
      · exact Nat.zero_le _
      · exact h fr
    cases ho : okB n L a z
    · rw [endG_no ho]; exact Nat.le_succ_of_le (h first)
    · cases hf : (!fullB (lineF n L nw W a z num) || first)
      · rw [endG_skip ho hf]; exact Nat.le_succ_of_le (ht _)
      · rw [endG_add ho hf]; exact Nat.succ_le_succ (ht _)
theorem endF_len {n : Nat} {L : Nat → Part} {nw : Nat} {W : Nat → Int} {a num : Nat} : (endF n L nw W a num).length ≤ n + 1 := Nat.le_trans (endG_len _ _ _) (Nat.sub_le _ _)
/-- what the last store reads -/
def SE (wb kb a g q n nw : Nat) (p : Pl) (w : World) : Prop :=
  w.cell? ⟨wb, 1, none⟩ = some (.slice (some ⟨kb, 0, none⟩) (n + 1) (n + 1)) ∧ w.cell? ⟨kb, a, none⟩ = some (.slice (some ⟨g, 0, none⟩) (2 * nw) (2 * nw)) ∧ w.cell? ⟨q, 0, none⟩ = some (.bool true) ∧ w.cell? ⟨q, 1, none⟩ = some (.int .i64 p.1) ∧ w.cell? ⟨q, 2, none⟩ = some (.int .i64 p.2.1) ∧ w.cell? ⟨q, 3, none⟩ = some (.int .i64 p.2.2)
theorem Rnd.se {n : Nat} {L : Nat → Part} {nw : Nat} {W : Nat → Int} {D : Int} {TR TP TW TL : TypeId} {m wb kb B : Nat} {w : World} {G : Nat → Option Nat} {q : Nat} {v : Value} {xs : List Line} {p : Pl} {a g : Nat} {wr : World} {Gr : Nat → Option Nat}
    (h : Rnd n L nw W D TR TP TW TL m wb kb B w G q v xs (some p) a g wr Gr) (ha : a ≤ n) : SE wb kb a g q n nw p wr :=
  ⟨h.work.cell (i := 1) rfl, by rw [h.memo.1.1.cell (i := a) (by omega), h.row]; rfl, h.best.cell (i := 0) rfl, h.best.cell (i := 1) rfl, h.best.cell (i := 2) rfl, h.best.cell (i := 3) rfl⟩
end Go.Law.Ln
