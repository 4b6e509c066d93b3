/-
  The lines of the best way; what holds in a round of Break.
-/
import Derived.Test.YtnigebnibikolaaLnBestI
namespace Go.Law.Ln
set_option linter.unusedVariables false
open Go.RowKit Go.Law
section
variable (n : Nat) (L : Nat → Part) (nw : Nat) (W : Nat → Int) (D : Int)
def pathG : Nat → Nat → Nat → Bool → List Line
  | 0, _, _, _ => []
  | f + 1, a, num, flag => lineF n L nw W a (bestF n L nw W D a num flag).1 num ::
      (if lastB n L (bestF n L nw W D a num flag).1 = true then [] else pathG f (aftF n L (bestF n L nw W D a num flag).1) (num + 1) (flgB n L (bestF n L nw W D a num flag).1))
def pathF (a num : Nat) (flag : Bool) : List Line := pathG n L nw W D (n + 1 - a) a num flag
end
section
variable {n : Nat} {L : Nat → Part} {nw : Nat} {W : Nat → Int} {D : Int}
theorem best_at (h : Good n L nw W D) {a num : Nat} {flag : Bool} (ha : a ≤ n) : a ≤ (bestF n L nw W D a num flag).1 ∧ (bestF n L nw W D a num flag).1 ≤ n :=
  (best_in3 h (n + 1 - a) a num flag ha (Nat.le_refl _)).1
theorem pathG_fuel (h : Good n L nw W D) : ∀ (f g a num : Nat) (flag : Bool), a ≤ n → n + 1 - a ≤ f → n + 1 - a ≤ g → pathG n L nw W D f a num flag = pathG n L nw W D g a num flag := by
  intro f
  induction f with
  | zero => intro g a num flag ha h1 h2; omega
  | succ f ih =>
    intro g a num flag ha h1 h2
    obtain ⟨g', rfl⟩ : ∃ g', g = g' + 1 := ⟨g - 1, by omega⟩
    simp only [pathG]
    have hb := best_at h (num := num) (flag := flag) ha
    cases hl : lastB n L (bestF n L nw W D a num flag).1
    · have := aftF_gt hb.2 hl
      rw [ih g' _ _ _ (by omega) (by omega) (by omega)]
    · rfl
theorem pathF_last (h : Good n L nw W D) {a num : Nat} {flag : Bool} (ha : a ≤ n) (hl : lastB n L (bestF n L nw W D a num flag).1 = true) : pathF n L nw W D a num flag = [lineF n L nw W a (bestF n L nw W D a num flag).1 num] := by
  unfold pathF
  obtain ⟨f, hf⟩ : ∃ f, n + 1 - a = f + 1 := ⟨n - a, by omega⟩
  rw [hf, pathG, if_pos hl]
theorem pathF_next (h : Good n L nw W D) {a num : Nat} {flag : Bool} (ha : a ≤ n) (hl : lastB n L (bestF n L nw W D a num flag).1 = false) :
    pathF n L nw W D a num flag = lineF n L nw W a (bestF n L nw W D a num flag).1 num :: pathF n L nw W D (aftF n L (bestF n L nw W D a num flag).1) (num + 1) (flgB n L (bestF n L nw W D a num flag).1) := by
  unfold pathF
  obtain ⟨f, hf⟩ : ∃ f, n + 1 - a = f + 1 := ⟨n - a, by omega⟩
  rw [hf, pathG, if_neg (by rw [hl]; decide)]
  have hb := best_at h (num := num) (flag := flag) ha
  have := aftF_gt hb.2 hl
  rw [pathG_fuel h f _ _ _ _ (by omega) (by omega) (Nat.le_refl _)]
theorem pathG_len : ∀ (f a num : Nat) (flag : Bool), (pathG n L nw W D f a num flag).length ≤ f
  | 0, _, _, _ => Nat.le_refl _
  | f + 1, a, num, flag => by
    rw [pathG]
    refine Nat.succ_le_succ ?_
    split
    · exact Nat.zero_le _
    · exact pathG_len f _ _ _
end
/-- a row of another kind is no row of plans -/
theorem out_of_kind {n : Nat} {L : Nat → Part} {nw : Nat} {W : Nat → Int} {D : Int} {TR TP TL : TypeId} {w : World} {kb B : Nat} {G : Nat → Option Nat} (hm : Memo n L nw W D TR TP w kb B G) {k : Nat} {cs : Array Value} {z : Nat × Nat} (hk : w.heap[k]? = some (.cells cs TL z)) (h1 : TR ≠ TL) (h2 : TP ≠ TL) : Out n w kb G k := by
  refine ⟨(Array.getElem?_eq_some_iff.1 hk).1, ?_, fun f hf he => ?_⟩
  · rintro rfl
    obtain ⟨cur, hc, _⟩ := hm.1.1
    rw [hk] at hc
    injection hc with h
    injection h with _ h
    exact h1 h.symm
  · obtain ⟨V, ⟨cur, hc, _⟩, _⟩ := hm.2.1 f k hf he
    rw [hk] at hc
    injection hc with h
    injection h with _ h
    exact h2 h.symm
theorem row_block {w : World} {base : Nat} {e : TypeId} {s : Nat} {v : Value} {n : Nat} {xs : List Value} (h : RowL w base e s v n xs) {k : Nat} (hk : v.ownBlock = some k) : ∃ cs, w.heap[k]? = some (.cells cs e (0, 0)) := by
  obtain ⟨_, ⟨rfl, _⟩ | ⟨g, cap, cur, rfl, _, hg, _⟩⟩ := h
  · simp [Value.ownBlock] at hk
  · simp [Value.ownBlock] at hk
    subst hk
    exact ⟨cur, hg⟩
structure BrS (n : Nat) (L : Nat → Part) (nw : Nat) (W : Nat → Int) (D : Int) (TR TP TW TL : TypeId) (m wb kb : Nat) (w0 : World) (v : Value) (xs : List Line) (wr : World) (Gr : Nat → Option Nat) : Prop where
  memo : Memo n L nw W D TR TP wr kb w0.heap.size Gr
  below : Below w0.heap.size w0 wr
  work : Blk wr wb #[.pointer (some ⟨m, 0, none⟩), .slice (some ⟨kb, 0, none⟩) (n + 1) (n + 1)] TW
  lines : RowL wr w0.heap.size TL 6 v xs.length (linesC xs)
  kinds : (TR ≠ TL ∧ TP ≠ TL) ∧ (TR ≠ TW ∧ TP ≠ TW) ∧ TW ≠ TL
section
variable {n : Nat} {L : Nat → Part} {nw : Nat} {W : Nat → Int} {D : Int} {TR TP TW TL : TypeId} {m wb kb : Nat} {w0 : World} {v : Value} {xs : List Line} {wr w' : World} {Gr G' : Nat → Option Nat}
theorem BrS.workO (h : BrS n L nw W D TR TP TW TL m wb kb w0 v xs wr Gr) : Out n wr kb Gr wb := out_of_kind h.memo h.work h.kinds.2.1.1 h.kinds.2.1.2
theorem BrS.linesO (h : BrS n L nw W D TR TP TW TL m wb kb w0 v xs wr Gr) {k : Nat} (hk : v.ownBlock = some k) : Out n wr kb Gr k := by
  obtain ⟨cs, hc⟩ := row_block h.lines hk
  exact out_of_kind h.memo hc h.kinds.1.1 h.kinds.1.2
theorem BrS.linesW (h : BrS n L nw W D TR TP TW TL m wb kb w0 v xs wr Gr) {k : Nat} (hk : v.ownBlock = some k) : k ≠ wb := by
  obtain ⟨cs, hc⟩ := row_block h.lines hk
  rintro rfl
  have h2 := h.work
  unfold Blk at h2
  rw [hc] at h2
  injection h2 with h3
  injection h3 with _ h3
  exact h.kinds.2.2 h3.symm
theorem BrS.step (h : BrS n L nw W D TR TP TW TL m wb kb w0 v xs wr Gr) (hm : Memo n L nw W D TR TP w' kb w0.heap.size G') (hf : Fr n kb w0.heap.size wr Gr w' G') : BrS n L nw W D TR TP TW TL m wb kb w0 v xs w' G' :=
  ⟨hm, h.below.trans hf.1, Blk.out h.work h.workO hf, h.lines.block (fun k hk => hf.2.2.2 k (h.linesO hk)), h.kinds⟩
theorem BrS.under (h : BrS n L nw W D TR TP TW TL m wb kb w0 v xs wr Gr) (hb : Below wr.heap.size wr w') : BrS n L nw W D TR TP TW TL m wb kb w0 v xs w' Gr :=
  h.step (h.memo.below hb) (Fr.of_below hb h.below.size)
theorem BrS.append (h : BrS n L nw W D TR TP TW TL m wb kb w0 v xs wr Gr) {o : Obj} {v' : Value} {xs' : List Line} (hg : (wr.alloc o).grownBy w' v.ownBlock) (hr : RowL w' w0.heap.size TL 6 v' xs'.length (linesC xs')) :
    BrS n L nw W D TR TP TW TL m wb kb w0 v' xs' w' Gr := by
  have ha := h.under ((Below.refl _ _).alloc (Nat.le_refl _) o)
  have e : ∀ {b : Nat}, b < (wr.alloc o).heap.size → (∀ k, v.ownBlock = some k → k ≠ b) → w'.heap[b]? = (wr.alloc o).heap[b]? := fun hb hne => hg.block _ hb (fun he => hne _ he.symm rfl)
  obtain ⟨⟨h1, h2⟩, h3, h4⟩ := ha.memo
  refine ⟨⟨⟨h1.block (e h1.lt (fun k hk => (ha.linesO hk).2.1)), h2⟩, fun f g hf hg' => ?_, h4⟩, Below.grown (B := w0.heap.size) (a := w0) ha.below hg ha.below.size (fun k hk => RowL.ge h.lines k hk), Blk.block ha.work (e ha.workO.1 (fun k hk => ha.linesW hk)), hr, h.kinds⟩
  obtain ⟨V, k1, k2⟩ := h3 f g hf hg'
  refine ⟨V, k1.block (e k1.lt (fun k hk => ?_)), k2⟩
  rintro rfl
  exact (ha.linesO hk).2.2 f hf hg'
end
end Go.Law.Ln
