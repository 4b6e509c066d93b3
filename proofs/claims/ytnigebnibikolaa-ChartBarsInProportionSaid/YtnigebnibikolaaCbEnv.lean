
/-
  What the scale's being great enough gives.
-/
import Derived.Test.YtnigebnibikolaaCbStacked
namespace Go.Proofs.Ytnigebnibikolaa.CB
open Go.RowKit Go.Law Go.Law.Cb Ref CH
theorem mem_row {kind : Int} {v : Nat → Nat → Int} {i : Nat} (hk : kind ≠ 1) : ∀ (q' q : Nat), q < q' → v q i ∈ rowP kind v i q'
  | 0, q, h => by omega
  | q' + 1, q, h => by
    simp only [rowP]
    rw [if_neg hk]
    by_cases hq : q = q'
    · subst hq; simp
    · exact List.mem_append_left _ (mem_row hk q' q (by omega))
theorem mem_ext {kind : Int} {v : Nat → Nat → Int} {s : Nat} (hk : kind ≠ 1) : ∀ (p : Nat) {q i : Nat}, q < s → i < p → v q i ∈ extL kind v s p
  | 0, q, i, _, h => by omega
  | p + 1, q, i, hq, h => by
    simp only [extL]
    refine List.mem_append_left _ ?_
    by_cases hi : i = p
    · subst hi; exact List.mem_append_right _ (mem_row hk s q hq)
    · exact List.mem_append_left _ (mem_ext hk p hq (by omega))
theorem mem_ext1 {v : Nat → Nat → Int} {s : Nat} : ∀ (p : Nat) {i : Nat}, i < p → sumQ v i s ∈ extL 1 v s p
  | 0, i, h => by omega
  | p + 1, i, h => by
    simp only [extL, if_true]
    by_cases hi : i = p
    · subst hi; exact List.mem_append_right _ (by simp)
    · exact List.mem_append_left _ (List.mem_append_left _ (mem_ext1 p (by omega)))
theorem sum_mono {v : Nat → Nat → Int} {p s : Nat} (h : OkV 1 v p s) {i : Nat} (hi : i < p) : ∀ (d q : Nat), q + d ≤ s → sumQ v i q ≤ sumQ v i (q + d)
  | 0, q, _ => Int.le_refl _
  | d + 1, q, hq => by
    have h1 := sum_mono h hi d q (by omega)
    have h2 := (h (q + d) (by omega) i hi).1
    have h3 : lowK 1 = 0 := rfl
    show _ ≤ sumQ v i (q + d) + v (q + d) i
    omega
/-- the scale holds the chart -/
structure Fits (kind : Int) (v : Nat → Nat → Int) (p s : Nat) (lo hi : Int) : Prop where
  low : lo ≤ lowL (x0 kind v) (extL kind v s p)
  high : highL (x0 kind v) (extL kind v s p) ≤ hi
theorem Fits.zero {kind : Int} {v : Nat → Nat → Int} {p s : Nat} {lo hi : Int} (h : Fits kind v p s lo hi) (hk : kind ≠ 2) : lo ≤ 0 ∧ 0 ≤ hi := by
  have h1 := (lowL_le (x0 kind v) (extL kind v s p)).1
  have h2 := (highL_ge (x0 kind v) (extL kind v s p)).1
  have h3 : x0 kind v = 0 := if_neg hk
  have := h.low
  have := h.high
  omega
theorem Fits.vals {kind : Int} {v : Nat → Nat → Int} {p s : Nat} {lo hi : Int} (h : Fits kind v p s lo hi) (hk : kind ≠ 1) : ∀ q, q < s → ∀ i, i < p → lo ≤ v q i ∧ v q i ≤ hi := by
  intro q hq i hi'
  have h1 := (lowL_le (x0 kind v) (extL kind v s p)).2 _ (mem_ext hk p hq hi')
  have h2 := (highL_ge (x0 kind v) (extL kind v s p)).2 _ (mem_ext hk p hq hi')
  have := h.low
  have := h.high
  omega
theorem Fits.sums {v : Nat → Nat → Int} {p s : Nat} {lo hi : Int} (h : Fits 1 v p s lo hi) (ho : OkV 1 v p s) : ∀ i, i < p → ∀ q, q ≤ s → 0 ≤ sumQ v i q ∧ sumQ v i q ≤ hi := by
  intro i hi' q hq
  have h2 := (highL_ge (x0 1 v) (extL 1 v s p)).2 _ (mem_ext1 p hi')
  have h3 := sum_mono ho hi' (s - q) q (by omega)
  rw [show q + (s - q) = s by omega] at h3
  have := h.high
  exact ⟨sumQ_nn ho hi' q hq, by omega⟩
theorem Fits.vals1 {v : Nat → Nat → Int} {p s : Nat} {lo hi : Int} (h : Fits 1 v p s lo hi) (ho : OkV 1 v p s) : ∀ q, q < s → ∀ i, i < p → lo ≤ v q i ∧ v q i ≤ hi := by
  intro q hq i hi'
  have h1 := h.sums ho i hi' (q + 1) (by omega)
  have h2 := h.sums ho i hi' q (by omega)
  have h3 := (ho q hq i hi').1
  have h4 : lowK 1 = 0 := rfl
  have h5 := h.zero (by decide)
  simp only [sumQ] at h1
  omega
theorem xF_bd {width : Int} {p i : Nat} (h : 0 ≤ width ∧ width ≤ 100000) (hi : i < p) : (0 ≤ xF width p i ∧ xF width p i ≤ 100000) ∧ 0 ≤ xF width p (i + 1) - xF width p i ∧ xF width p (i + 1) - xF width p i ≤ 100000 := by
  have h1 := ed_bd (long := width) (parts := p) (i := i) h (by omega) (by omega)
  have h2 := ed_bd (long := width) (parts := p) (i := i + 1) h (by omega) (by omega)
  have h3 : xF width p i ≤ xF width p (i + 1) := by
    unfold xF
    exact Int.ediv_le_ediv (by omega) (Int.mul_le_mul_of_nonneg_left (by omega) h.1)
  change 0 ≤ xF width p i ∧ xF width p i ≤ 100000 at h1
  change 0 ≤ xF width p (i + 1) ∧ xF width p (i + 1) ≤ 100000 at h2
  omega
/-- in a later world of a call that has boxed a chart and a scale first -/
structure CS (w : World) (kind : Int) (a1 a2 : Option Addr) (p cp s cs : Nat) (lo hi st : Int) (wr : World) : Prop where
  bel : Below w.heap.size w wr
  lt : w.heap.size + 1 < wr.heap.size
  cel : ChartAt wr w.heap.size kind a1 a2 p cp s cs
  lo : wr.cell? ⟨w.heap.size + 1, 0, none⟩ = some (.int .i64 lo)
  hi : wr.cell? ⟨w.heap.size + 1, 1, none⟩ = some (.int .i64 hi)
  st : wr.cell? ⟨w.heap.size + 1, 2, none⟩ = some (.int .i64 st)
section
variable {w : World} {kind : Int} {a1 a2 : Option Addr} {p cp s cs : Nat} {lo hi st : Int} {wr w' : World}
theorem CS.start (t1 t2 : TypeId) : CS w kind a1 a2 p cp s cs lo hi st ((w.alloc (.cells #[.int .i64 kind, .slice a1 p cp, .slice a2 s cs] t1)).alloc (.cells #[.int .i64 lo, .int .i64 hi, .int .i64 st] t2)) := by
  have h := ChartAt.start w kind a1 a2 p cp s cs t1
  have e : (w.alloc (.cells #[.int .i64 kind, .slice a1 p cp, .slice a2 s cs] t1)).heap.size = w.heap.size + 1 := by simp
  refine ⟨((Below.refl _ _).alloc (Nat.le_refl _) _).alloc (by simp) _, by simp, h.below ((Below.refl _ _).alloc (Nat.le_refl _) _) (by simp), ?_, ?_, ?_⟩ <;> (rw [← e, World.cell?_alloc_new]; rfl)
theorem CS.more (h : CS w kind a1 a2 p cp s cs lo hi st wr) (hb : Below wr.heap.size wr w') : CS w kind a1 a2 p cp s cs lo hi st w' :=
  ⟨h.bel.trans (hb.mono h.bel.size), Nat.lt_of_lt_of_le h.lt hb.size, h.cel.below hb (by have := h.lt; omega), (hb.cell h.lt).trans h.lo, (hb.cell h.lt).trans h.hi, (hb.cell h.lt).trans h.st⟩
theorem CS.alloc (h : CS w kind a1 a2 p cp s cs lo hi st wr) (o : Obj) : CS w kind a1 a2 p cp s cs lo hi st (wr.alloc o) := h.more ((Below.refl _ _).alloc (Nat.le_refl _) _)
theorem CS.under {base g : Nat} (h : CS w kind a1 a2 p cp s cs lo hi st wr) (hu : Under base g wr w') (hb : w.heap.size + 1 < base) (hg : w.heap.size + 1 < g) : CS w kind a1 a2 p cp s cs lo hi st w' := by
  have hbl : Below (w.heap.size + 2) wr w' := hu.to_below (by omega) (by omega)
  exact ⟨h.bel.trans (hbl.mono (by omega)), Nat.lt_of_lt_of_le h.lt hu.size, h.cel.below hbl (by omega), (hbl.cell (by simp)).trans h.lo, (hbl.cell (by simp)).trans h.hi, (hbl.cell (by simp)).trans h.st⟩
end
end Go.Proofs.Ytnigebnibikolaa.CB
