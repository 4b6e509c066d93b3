/-
  Where lines can end: plain laws.
-/
import Derived.Test.YtnigebnibikolaaLnMk
namespace Go.Law.Ln
open Go.Law
set_option linter.unusedVariables false
def linesC : List Line → List Value
  | [] => []
  | x :: l => [.int .i64 x.a, .int .i64 x.z, .int .i64 x.nat, .int .i64 x.str, .int .i64 x.shr, .int .i64 x.wid] ++ linesC l
theorem linesC_append : ∀ (xs ys : List Line), linesC (xs ++ ys) = linesC xs ++ linesC ys
  | [], ys => rfl
  | x :: xs, ys => by
    show _ ++ linesC (xs ++ ys) = _
    rw [linesC_append xs ys, ← List.append_assoc]; rfl
theorem linesC_len : ∀ xs : List Line, (linesC xs).length = xs.length * 6
  | [] => rfl
  | x :: l => by
    simp [linesC, linesC_len l]
    omega
theorem linesC_get : ∀ {xs : List Line} {i : Nat} {x : Line}, xs[i]? = some x → ∀ {j : Nat} {v : Value}, ([.int .i64 x.a, .int .i64 x.z, .int .i64 x.nat, .int .i64 x.str, .int .i64 x.shr, .int .i64 x.wid] : List Value)[j]? = some v → (linesC xs)[i * 6 + j]? = some v
  | [], i, x, h, j, v, hv => by simp at h
  | y :: l, 0, x, h, j, v, hv => by
    simp at h
    subst h
    have hl : j < 6 := (List.getElem?_eq_some_iff.1 hv).1
    rw [Nat.zero_mul, Nat.zero_add]
    show (_ ++ linesC l)[j]? = _
    rw [List.getElem?_append_left (by simpa using hl)]; exact hv
  | y :: l, i + 1, x, h, j, v, hv => by
    have h' : l[i]? = some x := by simpa using h
    have := linesC_get h' hv
    show (_ ++ linesC l)[(i + 1) * 6 + j]? = _
    rw [List.getElem?_append_right (by simp; omega)]
    simp only [List.length_cons, List.length_nil]
    rw [show (i + 1) * 6 + j - (0 + 1 + 1 + 1 + 1 + 1 + 1) = i * 6 + j by omega]
    exact this
section
variable {n : Nat} {L : Nat → Part} {nw : Nat} {W : Nat → Int}
def okB (n : Nat) (L : Nat → Part) (a z : Nat) : Bool := mayB n L z && (decide (a < z) || mustB n L z)
theorem okB_must {a z : Nat} (h : mustB n L z = true) : okB n L a z = true := by unfold okB; rw [mayB_must h, h]; simp
theorem endG_no {a num f z : Nat} {first : Bool} (h : okB n L a z = false) : endG n L nw W a num (f + 1) z first = endG n L nw W a num f (z + 1) first := by
  have hm : mustB n L z = false := by
    cases hm : mustB n L z
    · rfl
    · rw [okB_must hm] at h; cases h
  unfold okB at h
  rw [endG, h, hm]
  simp
theorem endG_add {a num f z : Nat} {first : Bool} (h : okB n L a z = true) (hf : (!fullB (lineF n L nw W a z num) || first) = true) : endG n L nw W a num (f + 1) z first = lineF n L nw W a z num :: (if mustB n L z = true then [] else endG n L nw W a num f (z + 1) false) := by
  unfold okB at h
  rw [endG, h, hf]
  simp
theorem endG_skip {a num f z : Nat} {first : Bool} (h : okB n L a z = true) (hf : (!fullB (lineF n L nw W a z num) || first) = false) : endG n L nw W a num (f + 1) z first = (if mustB n L z = true then [] else endG n L nw W a num f (z + 1) false) := by
  unfold okB at h
  rw [endG, h, hf]
  simp
theorem endG_full {a num : Nat} : ∀ (f z : Nat), z + f ≤ n + 1 → (∀ y, z ≤ y → y ≤ n → fullB (lineF n L nw W a y num) = true) → endG n L nw W a num f z false = []
  | 0, _, _, _ => rfl
  | f + 1, z, hz, hy => by
    have h1 := hy z (Nat.le_refl _) (by omega)
    have ih := endG_full (a := a) (num := num) f (z + 1) (by omega) (fun y h1 h2 => hy y (by omega) h2)
    cases ho : okB n L a z
    · rw [endG_no ho]; exact ih
    · rw [endG_skip ho (by rw [h1]; rfl), ih]; simp
theorem bare_full {a z num : Nat} (hok : ∀ i, i < n → (L i).Ok) (haz : a ≤ z) (hz : z ≤ n) (h : bareB (lineF n L nw W a z num) (addF n L z) = true) (y : Nat) (hy : z ≤ y) (hyn : y ≤ n) : fullB (lineF n L nw W a y num) = true := by
  replace h := of_decide_eq_true h
  refine decide_eq_true ?_
  simp only [lineF] at h ⊢
  have m1 := mono hok hy hyn
  have hadd : 0 ≤ addF n L y := by
    unfold addF
    split
    · rename_i h2
      exact (hok y h2.1).width.1
    · omega
  omega
theorem addF_bd (hok : ∀ i, i < n → (L i).Ok) (y : Nat) : 0 ≤ addF n L y ∧ addF n L y ≤ 100000 := by
  unfold addF
  split
  · rename_i h2
    exact (hok y h2.1).width
  · omega
/-- the numbers of a line stay small -/
theorem line_bd {a z num : Nat} (hn : n ≤ 8000) (hok : ∀ i, i < n → (L i).Ok) (haz : a ≤ z) (hz : z ≤ n) :
    (0 ≤ (lineF n L nw W a z num).nat ∧ (lineF n L nw W a z num).nat ≤ 1000000000) ∧ (0 ≤ (lineF n L nw W a z num).str ∧ (lineF n L nw W a z num).str ≤ 1000000000) ∧ (0 ≤ (lineF n L nw W a z num).shr ∧ (lineF n L nw W a z num).shr ≤ 1000000000) := by
  have s1 := sums hok z hz
  have s2 := sums hok a (by omega)
  have m1 := mono hok haz hz
  have a1 := addF_bd (n := n) hok z
  simp only [lineF]
  omega
end
end Go.Law.Ln
