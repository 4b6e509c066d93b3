

/-
  HitShape.
-/
import Derived.Test.YtnigebnibikolaaDoorShHitPlain
import Derived.Test.YtnigebnibikolaaDoorShOf
import Derived.Test.YtnigebnibikolaaDoorIn
import Derived.Laws.AppendOwnNone
namespace Go.Law.Sh
open Go.RowKit Go.Law
def shC (E : Nat → Nat → Int) (N : Nat → Nat → ByteArray) (u : Nat) : List Value :=
  [.int .i64 (E u 0), .int .i64 (E u 1), .int .i64 (E u 2), .int .i64 (E u 3), .int .i64 (E u 4), .int .i64 (E u 5), .int .i64 (E u 6), .int .i64 (E u 7), .int .i64 (E u 8), .int .i64 (E u 9), .string (N u 0), .string (N u 1)]
def cellsL (E : Nat → Nat → Int) (N : Nat → Nat → ByteArray) : List Nat → List Value
  | [] => []
  | u :: L => shC E N u ++ cellsL E N L
theorem cellsL_get {E : Nat → Nat → Int} {N : Nat → Nat → ByteArray} : ∀ {L : List Nat} {i u : Nat}, L[i]? = some u → ∀ {j : Nat} {v : Value}, (shC E N u)[j]? = some v → (cellsL E N L)[i * 12 + j]? = some v
  | [], i, u, h, j, v, hv => by simp at h
  | y :: L, 0, u, h, j, v, hv => by
    simp at h
    subst h
    have hl : j < (shC E N y).length := (List.getElem?_eq_some_iff.1 hv).1
    rw [Nat.zero_mul, Nat.zero_add]
    show (shC E N y ++ cellsL E N L)[j]? = _
    rw [List.getElem?_append_left hl]; exact hv
  | y :: L, i + 1, u, h, j, v, hv => by
    have h' : L[i]? = some u := by simpa using h
    have := cellsL_get (E := E) (N := N) h' hv
    show (shC E N y ++ cellsL E N L)[(i + 1) * 12 + j]? = _
    rw [List.getElem?_append_right (show (shC E N y).length ≤ _ by show 12 ≤ _; omega)]
    rw [show (i + 1) * 12 + j - (shC E N y).length = i * 12 + j by show _ - 12 = _; omega]
    exact this
theorem cellsL_len (E : Nat → Nat → Int) (N : Nat → Nat → ByteArray) : ∀ L : List Nat, (cellsL E N L).length = L.length * 12
  | [] => rfl
  | y :: L => by
    show (shC E N y ++ cellsL E N L).length = _
    rw [List.length_append, cellsL_len E N L, List.length_cons]
    show 12 + _ = _
    omega
theorem cellsL_one {E : Nat → Nat → Int} {N : Nat → Nat → ByteArray} : ∀ {L : List Nat}, ∀ u ∈ cellsL E N L, u.oneCell' = true
  | [], u, h => by cases h
  | y :: L, u, h => by
    rcases List.mem_append.1 h with h | h
    · simp [shC] at h
      rcases h with rfl | rfl | rfl | rfl | rfl | rfl | rfl | rfl | rfl | rfl | rfl | rfl <;> rfl
    · exact cellsL_one u h
def foldL (E : Nat → Nat → Int) (L : List Nat) (p : Int × Int) : Int × Int := L.foldl (fun q u => stepIn (E u) q) p
theorem foldL_cons (E : Nat → Nat → Int) (u : Nat) (L : List Nat) (p : Int × Int) : foldL E (u :: L) p = foldL E L (stepIn (E u) p) := rfl
theorem foldL_drop {E : Nat → Nat → Int} {L : List Nat} {j u : Nat} {q : Int × Int} (h : L[j]? = some u) : foldL E (L.drop j) q = foldL E (L.drop (j + 1)) (stepIn (E u) q) := by
  have hl := (List.getElem?_eq_some_iff.1 h).1
  rw [List.drop_eq_getElem_cons hl]
  have : L[j] = u := by
    rw [List.getElem?_eq_getElem hl] at h
    exact Option.some.inj h
  rw [this]; rfl
/-- a row of one shape, made anew -/
theorem RowL.one {w : World} {base : Nat} {e : TypeId} {cs : List Value} {s : Nat} (hs : cs.length = s) (hb : base ≤ w.heap.size) : RowL (w.alloc (.cells cs.toArray e)) base e s (.slice (some ⟨w.heap.size, 0, none⟩) 1 1) 1 cs := by
  refine ⟨by rw [hs, Nat.one_mul], .inr ⟨w.heap.size, 1, cs.toArray, rfl, hb, ?_, Nat.le_refl _, by unfold maxLen; omega, by simp [hs], ?_⟩⟩
  · show (w.heap.push _)[_]? = _; simp
  · rw [Nat.one_mul, ← hs]; simp
/-- a point and a shape, cell by cell -/
def ST (t r : Nat) (x y e0 e1 e2 e3 e4 e5 e6 e7 e8 e9 : Int) (n0 n1 : ByteArray) (w : World) : Prop :=
  w.cell? ⟨t, 0, none⟩ = some (.int .i64 x) ∧ w.cell? ⟨t, 1, none⟩ = some (.int .i64 y) ∧ w.cell? ⟨r, 0, none⟩ = some (.int .i64 e0) ∧ w.cell? ⟨r, 1, none⟩ = some (.int .i64 e1) ∧ w.cell? ⟨r, 2, none⟩ = some (.int .i64 e2) ∧ w.cell? ⟨r, 3, none⟩ = some (.int .i64 e3) ∧ w.cell? ⟨r, 4, none⟩ = some (.int .i64 e4) ∧ w.cell? ⟨r, 5, none⟩ = some (.int .i64 e5) ∧ w.cell? ⟨r, 6, none⟩ = some (.int .i64 e6) ∧ w.cell? ⟨r, 7, none⟩ = some (.int .i64 e7) ∧ w.cell? ⟨r, 8, none⟩ = some (.int .i64 e8) ∧ w.cell? ⟨r, 9, none⟩ = some (.int .i64 e9) ∧ w.cell? ⟨r, 10, none⟩ = some (.string n0) ∧ w.cell? ⟨r, 11, none⟩ = some (.string n1)
theorem ST.of {t r : Nat} {x y e0 e1 e2 e3 e4 e5 e6 e7 e8 e9 : Int} {n0 n1 : ByteArray} {w : World} {T U : TypeId} (hp : Blk w t #[.int .i64 x, .int .i64 y] T)
    (hb : Blk w r #[.int .i64 e0, .int .i64 e1, .int .i64 e2, .int .i64 e3, .int .i64 e4, .int .i64 e5, .int .i64 e6, .int .i64 e7, .int .i64 e8, .int .i64 e9, .string n0, .string n1] U) : ST t r x y e0 e1 e2 e3 e4 e5 e6 e7 e8 e9 n0 n1 w :=
  ⟨hp.cell (i := 0) rfl, hp.cell (i := 1) rfl, hb.cell (i := 0) rfl, hb.cell (i := 1) rfl, hb.cell (i := 2) rfl, hb.cell (i := 3) rfl, hb.cell (i := 4) rfl, hb.cell (i := 5) rfl, hb.cell (i := 6) rfl, hb.cell (i := 7) rfl, hb.cell (i := 8) rfl, hb.cell (i := 9) rfl, hb.cell (i := 10) rfl, hb.cell (i := 11) rfl⟩
end Go.Law.Sh
