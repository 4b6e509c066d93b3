/-
  Bars of charts in plain Lean: the numbers of Range, the bars of a chart, and what is known of them.
-/
import Derived.Test.YtnigebnibikolaaScPlace
import Derived.Test.YtnigebnibikolaaChCheckN
namespace Go.Law.Cb
open Go.Law
def sumQ (v : Nat → Nat → Int) (i : Nat) : Nat → Int
  | 0 => 0
  | q + 1 => sumQ v i q + v q i
/-- the numbers that Range looks at -/
def rowP (kind : Int) (v : Nat → Nat → Int) (i : Nat) : Nat → List Int
  | 0 => []
  | q + 1 => if kind = 1 then rowP kind v i q else rowP kind v i q ++ [v q i]
def extL (kind : Int) (v : Nat → Nat → Int) (s : Nat) : Nat → List Int
  | 0 => if kind = 2 then [] else [0]
  | i + 1 => extL kind v s i ++ rowP kind v i s ++ (if kind = 1 then [sumQ v i s] else [])
def x0 (kind : Int) (v : Nat → Nat → Int) : Int := if kind = 2 then v 0 0 else 0
theorem snocInd {p : List Int → Prop} (h0 : p []) (h1 : ∀ l b, p l → p (l ++ [b])) (l : List Int) : p l := by
  have h : ∀ l : List Int, p l.reverse := by
    intro l
    induction l with
    | nil => exact h0
    | cons b l ih => rw [List.reverse_cons]; exact h1 _ _ ih
  have := h l.reverse
  rwa [List.reverse_reverse] at this
def lowL (x : Int) (l : List Int) : Int := l.foldl (fun a b => min a b) x
def highL (x : Int) (l : List Int) : Int := l.foldl (fun a b => max a b) x
theorem lowL_snoc (x : Int) (l : List Int) (b : Int) : lowL x (l ++ [b]) = min (lowL x l) b := by simp [lowL]
theorem highL_snoc (x : Int) (l : List Int) (b : Int) : highL x (l ++ [b]) = max (highL x l) b := by simp [highL]
theorem lowL_le (x : Int) : ∀ (l : List Int), lowL x l ≤ x ∧ ∀ y ∈ l, lowL x l ≤ y := by
  refine snocInd (by simp [lowL]) fun l b ih => ?_
  · rw [lowL_snoc]
    refine ⟨by omega, fun y hy => ?_⟩
    rcases List.mem_append.1 hy with h | h
    · have := ih.2 y h; omega
    · simp at h; omega
theorem highL_ge (x : Int) : ∀ (l : List Int), x ≤ highL x l ∧ ∀ y ∈ l, y ≤ highL x l := by
  refine snocInd (by simp [highL]) fun l b ih => ?_
  · rw [highL_snoc]
    refine ⟨by omega, fun y hy => ?_⟩
    rcases List.mem_append.1 hy with h | h
    · have := ih.2 y h; omega
    · simp at h; omega
theorem lowL_bd {x lo hi : Int} (hx : lo ≤ x ∧ x ≤ hi) : ∀ (l : List Int), (∀ y ∈ l, lo ≤ y ∧ y ≤ hi) → lo ≤ lowL x l ∧ lowL x l ≤ hi := by
  refine snocInd (fun _ => hx) fun l b ih h => ?_
  · rw [lowL_snoc]
    have h1 := ih fun y hy => h y (by simp [hy])
    have h2 := h b (by simp)
    omega
theorem highL_bd {x lo hi : Int} (hx : lo ≤ x ∧ x ≤ hi) : ∀ (l : List Int), (∀ y ∈ l, lo ≤ y ∧ y ≤ hi) → lo ≤ highL x l ∧ highL x l ≤ hi := by
  refine snocInd (fun _ => hx) fun l b ih h => ?_
  · rw [highL_snoc]
    have h1 := ih fun y hy => h y (by simp [hy])
    have h2 := h b (by simp)
    omega
/-- where a value lies below the upper edge -/
def yF (lo hi h : Int) (v : Int) : Int := h - Go.Proofs.Ytnigebnibikolaa.SP.near ((v - lo) * h) (hi - lo)
def xF (width : Int) (p i : Nat) : Int := width * (i : Int) / (p : Int)
/-- one bar: series, value, X, Y, W, H -/
def bar6 (kind lo hi width height : Int) (v : Nat → Nat → Int) (p s i k : Nat) : List Int :=
  if kind = 2 then [(k : Int), (i : Int), (xF width p i + xF width p (i + 1)) / 2, yF lo hi height (v k i), 0, 0]
  else if kind = 0 then
    [(k : Int), (i : Int), xF width p i + (xF width p (i + 1) - xF width p i) * (2 * (k : Int) + 1) / (2 * (s : Int) + 2), min (yF lo hi height 0) (yF lo hi height (v k i)),
      (xF width p (i + 1) - xF width p i) * (2 * (k : Int) + 3) / (2 * (s : Int) + 2) - (xF width p (i + 1) - xF width p i) * (2 * (k : Int) + 1) / (2 * (s : Int) + 2),
      max (yF lo hi height 0) (yF lo hi height (v k i)) - min (yF lo hi height 0) (yF lo hi height (v k i))]
  else
    [(k : Int), (i : Int), xF width p i + (xF width p (i + 1) - xF width p i) / 4, yF lo hi height (sumQ v i k + v k i),
      (xF width p (i + 1) - xF width p i) * 3 / 4 - (xF width p (i + 1) - xF width p i) / 4, yF lo hi height (sumQ v i k) - yF lo hi height (sumQ v i k + v k i)]
def barsP (kind lo hi width height : Int) (v : Nat → Nat → Int) (p s i : Nat) : Nat → List Int
  | 0 => []
  | k + 1 => barsP kind lo hi width height v p s i k ++ bar6 kind lo hi width height v p s i k
def barsL (kind lo hi width height : Int) (v : Nat → Nat → Int) (p s : Nat) : Nat → List Int
  | 0 => []
  | i + 1 => barsL kind lo hi width height v p s i ++ barsP kind lo hi width height v p s i s
theorem bar6_len (kind lo hi width height : Int) (v : Nat → Nat → Int) (p s i k : Nat) : (bar6 kind lo hi width height v p s i k).length = 6 := by
  unfold bar6
  split
  · rfl
  · split <;> rfl
theorem barsP_len (kind lo hi width height : Int) (v : Nat → Nat → Int) (p s i : Nat) : ∀ k, (barsP kind lo hi width height v p s i k).length = k * 6
  | 0 => rfl
  | k + 1 => by simp only [barsP, List.length_append, bar6_len, barsP_len kind lo hi width height v p s i k]; omega
theorem barsL_len (kind lo hi width height : Int) (v : Nat → Nat → Int) (p s : Nat) : ∀ i, (barsL kind lo hi width height v p s i).length = i * s * 6
  | 0 => by simp [barsL]
  | i + 1 => by simp only [barsL, List.length_append, barsP_len, barsL_len kind lo hi width height v p s i, Nat.succ_mul]; omega
end Go.Law.Cb
