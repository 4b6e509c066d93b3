/-
  The glue of a line: plain laws.
-/
import Derived.Test.YtnigebnibikolaaLnEndsP
namespace Go.Law.Ln
open Go.Law
set_option linter.unusedVariables false
/-- what the parts ahead of i can give in all -/
def sumF (L : Nat → Part) (less : Bool) (i : Nat) : Int := if less = true then ylF L i else grF L i
def partB (p : Part) (less : Bool) : Int := if less = true then p.shrink else p.stretch
def byF (X N G Y : Int) (just : Bool) : Int := if X - N < 0 then min (-(X - N)) Y else if just = false ∨ G = 0 then 0 else X - N
def canF (X N G Y : Int) : Int := if X - N < 0 then Y else G
def shareF (L : Nat → Part) (less : Bool) (d c s0 : Int) (i : Nat) : Int := d * (sumF L less (i + 1) - s0) / c - d * (sumF L less i - s0) / c
/-- the width of the glue at i -/
def entF (L : Nat → Part) (less : Bool) (d c s0 : Int) (i : Nat) : Int := if less = true then (L i).width - shareF L less d c s0 i else (L i).width + shareF L less d c s0 i
/-- the widths of the glue of k parts from a on -/
def glueF (L : Nat → Part) (less : Bool) (d c s0 : Int) (a : Nat) : Nat → List Int
  | 0 => []
  | k + 1 => glueF L less d c s0 a k ++ (if (L (a + k)).kind = 1 then [entF L less d c s0 (a + k)] else [])
theorem glueF_len (L : Nat → Part) (less : Bool) (d c s0 : Int) (a : Nat) : ∀ k, (glueF L less d c s0 a k).length ≤ k
  | 0 => Nat.le_refl _
  | k + 1 => by
    have := glueF_len L less d c s0 a k
    simp only [glueF, List.length_append]
    split
    · simp; omega
    · simp; omega
section
variable {n : Nat} {L : Nat → Part} {less : Bool} {d c s0 : Int}
theorem sumF_succ (i : Nat) : sumF L less (i + 1) = sumF L less i + partB (L i) less := by
  unfold sumF partB
  cases less
  · rfl
  · rfl
theorem partB_bd (hok : ∀ i, i < n → (L i).Ok) {i : Nat} (hi : i < n) : 0 ≤ partB (L i) less ∧ partB (L i) less ≤ 100000 := by
  have h := hok i hi
  have h1 := h.width
  have h2 := h.stretch
  have h3 := h.shrink
  unfold partB
  split
  · omega
  · omega
theorem partB_none (hok : ∀ i, i < n → (L i).Ok) {i : Nat} (hi : i < n) (hk : (L i).kind ≠ 1) : partB (L i) less = 0 := by
  have h := (hok i hi).form.1 hk
  unfold partB
  split
  · exact h.2
  · exact h.1
theorem sumF_bd (hn : n ≤ 8000) (hok : ∀ i, i < n → (L i).Ok) {a i : Nat} (ha : a ≤ i) (hi : i ≤ n) : 0 ≤ sumF L less i - sumF L less a ∧ sumF L less i - sumF L less a ≤ 1000000000 := by
  have s1 := sums hok i hi
  have s2 := sums hok a (by omega)
  have m1 := mono hok ha hi
  unfold sumF
  split <;> omega
theorem sumF_skip (hok : ∀ i, i < n → (L i).Ok) {i : Nat} (hi : i < n) (hk : (L i).kind ≠ 1) : sumF L less (i + 1) = sumF L less i := by
  rw [sumF_succ, partB_none hok hi hk, Int.add_zero]
theorem mul_bd {d s : Int} (hd : 0 ≤ d ∧ d ≤ 1000000000) (hs : 0 ≤ s ∧ s ≤ 1000000000) : 0 ≤ d * s ∧ d * s ≤ 1000000000000000000 :=
  ⟨Int.mul_nonneg hd.1 hs.1, Int.le_trans (Int.mul_le_mul (c := 1000000000) (d := 1000000000) hd.2 hs.2 hs.1 (by omega)) (by omega)⟩
theorem quot_bd {p c : Int} (hp : 0 ≤ p ∧ p ≤ 1000000000000000000) (hc : 0 ≤ c) : 0 ≤ p / c ∧ p / c ≤ 1000000000000000000 :=
  ⟨Int.ediv_nonneg hp.1 hc, Int.le_trans (Int.ediv_le_self _ hp.1) hp.2⟩
theorem glueF_skip {a k : Nat} (hk : (L (a + k)).kind ≠ 1) : glueF L less d c s0 a (k + 1) = glueF L less d c s0 a k := by
  rw [glueF, if_neg hk, List.append_nil]
theorem glueF_add {a k : Nat} (hk : (L (a + k)).kind = 1) : glueF L less d c s0 a (k + 1) = glueF L less d c s0 a k ++ [entF L less d c s0 (a + k)] := by
  rw [glueF, if_pos hk]
theorem byF_bd {X N G Y : Int} {just : Bool} (hX : 1 ≤ X ∧ X ≤ 100000) (hN : 0 ≤ N ∧ N ≤ 2000000000) (hG : 0 ≤ G ∧ G ≤ 1000000000) (hY : 0 ≤ Y ∧ Y ≤ 1000000000) :
    (0 ≤ byF X N G Y just ∧ byF X N G Y just ≤ 1000000000) ∧ (0 ≤ canF X N G Y ∧ canF X N G Y ≤ 1000000000) ∧ (0 < byF X N G Y just → 0 < canF X N G Y) := by
  unfold byF canF
  split
  · omega
  · split
    · omega
    · rename_i h1 h2
      have : ¬ G = 0 := fun h => h2 (.inr h)
      omega
theorem glueF_skip' {a i : Nat} (hai : a ≤ i) (hk : (L i).kind ≠ 1) : glueF L less d c s0 a (i + 1 - a) = glueF L less d c s0 a (i - a) := by
  rw [show i + 1 - a = i - a + 1 by omega, glueF_skip (by rw [show a + (i - a) = i by omega]; exact hk)]
theorem glueF_add' {a i : Nat} (hai : a ≤ i) (hk : (L i).kind = 1) : glueF L less d c s0 a (i + 1 - a) = glueF L less d c s0 a (i - a) ++ [entF L less d c s0 i] := by
  have e : a + (i - a) = i := by omega
  rw [show i + 1 - a = i - a + 1 by omega, glueF_add (by rw [e]; exact hk), e]
/-- the numbers of a share stay small -/
theorem share_num {s p : Int} (hd : 0 ≤ d ∧ d ≤ 1000000000) (hc : 0 < c) (hs : 0 ≤ s ∧ s ≤ 1000000000) (hp : 0 ≤ p) (hsp : s + p ≤ 1000000000) :
    ((d * (s + p)).tdiv c = d * (s + p) / c ∧ (d * s).tdiv c = d * s / c) ∧ (0 ≤ d * (s + p) ∧ d * (s + p) ≤ 1000000000000000000) ∧ (0 ≤ d * s ∧ d * s ≤ 1000000000000000000) ∧
      (0 ≤ d * (s + p) / c ∧ d * (s + p) / c ≤ 1000000000000000000) ∧ (0 ≤ d * s / c ∧ d * s / c ≤ 1000000000000000000) := by
  have h1 := mul_bd hd (show 0 ≤ s + p ∧ s + p ≤ 1000000000 by omega)
  have h2 := mul_bd hd hs
  exact ⟨⟨Int.tdiv_eq_ediv_of_nonneg h1.1, Int.tdiv_eq_ediv_of_nonneg h2.1⟩, h1, h2, quot_bd h1 (by omega), quot_bd h2 (by omega)⟩
/-- no share where nothing is to be done -/
theorem shareF_zero {i : Nat} (h : d = 0 ∨ c = 0) : shareF L less d c s0 i = 0 := by
  unfold shareF
  rcases h with rfl | rfl
  · simp
  · simp
end
end Go.Law.Ln
