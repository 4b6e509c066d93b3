/-
  Lines of paragraphs: where they can end, what they cost, the best way.
-/
import Derived.Test.YtnigebnibikolaaLnPlain
namespace Go.Law.Ln
open Go.Law
section
variable (n : Nat) (L : Nat → Part) (nw : Nat) (W : Nat → Int) (D : Int)
/-- a line has to end at i -/
def mustB (i : Nat) : Bool := i == n || (decide ((L i).kind = 2) && decide ((L i).cost = -10000))
/-- a line can end at i -/
def mayB (i : Nat) : Bool := i == n || (decide ((L i).kind = 1) && (decide (0 < i) && decide ((L (i - 1)).kind = 0))) || (decide ((L i).kind = 2) && decide ((L i).cost < 10000))
/-- the first part from i on at which a line can begin: f parts are left -/
def begG : Nat → Nat → Nat
  | 0, i => i
  | f + 1, i => if (L i).kind = 0 ∨ mustB n L i = true then i else begG f (i + 1)
def begF (i : Nat) : Nat := begG n L (n - i) i
def aftF (i : Nat) : Nat := if i = n then n else begF n L (i + 1)
def lastB (i : Nat) : Bool := aftF n L i == n
def flgB (i : Nat) : Bool := decide (i < n) && (L i).flag
def wdF : Nat → Int
  | 0 => 0
  | i + 1 => wdF i + (if (L i).kind ≠ 2 then (L i).width else 0)
def grF : Nat → Int
  | 0 => 0
  | i + 1 => grF i + (L i).stretch
def ylF : Nat → Int
  | 0 => 0
  | i + 1 => ylF i + (L i).shrink
def addF (i : Nat) : Int := if i < n ∧ (L i).kind = 2 then (L i).width else 0
/-- a line: its natural width, stretch, shrink, width -/
structure Line where
  a : Nat
  z : Nat
  nat : Int
  str : Int
  shr : Int
  wid : Int
def Line.ints (x : Line) : List Int := [x.a, x.z, x.nat, x.str, x.shr, x.wid]
def lineF (a z num : Nat) : Line := ⟨a, z, wdF L z - wdF L a + addF n L z, grF L z - grF L a, ylF L z - ylF L a, W (min num (nw - 1))⟩
def fullB (x : Line) : Bool := decide (x.wid < x.nat - x.shr)
def bareB (x : Line) (ad : Int) : Bool := decide (x.wid < x.nat - ad - x.shr)
/-- the lines that can begin at a: those that end at z or later; f places are left -/
def endG (a num : Nat) : Nat → Nat → Bool → List Line
  | 0, _, _ => []
  | f + 1, z, first =>
    (if (mayB n L z && (decide (a < z) || mustB n L z)) = true then (if (!fullB (lineF n L nw W a z num) || first) = true then [lineF n L nw W a z num] else []) else []) ++
    (if mustB n L z = true then [] else endG a num f (z + 1) (first && !(mayB n L z && (decide (a < z) || mustB n L z))))
def endF (a num : Nat) : List Line := endG n L nw W a num (n + 1 - a) a true
def badF (d c : Int) : Int := if d = 0 then 0 else if c = 0 then 10000 else min (min (1000 * d / c) 5000 * min (1000 * d / c) 5000 * min (1000 * d / c) 5000 / 10000000) 10000
def bareC (x : Line) : Int :=
  if x.wid - x.nat < -x.shr then 1099511627776 + 1000 * (-(x.wid - x.nat) - x.shr)
  else if x.wid - x.nat < 0 then (10 + badF (-(x.wid - x.nat)) x.shr) * (10 + badF (-(x.wid - x.nat)) x.shr)
  else if (mustB n L x.z || lastB n L x.z) = true then 100 else (10 + badF (x.wid - x.nat) x.str) * (10 + badF (x.wid - x.nat) x.str)
def penC (z : Nat) : Int := if z < n ∧ (L z).kind = 2 ∧ (L z).cost ≠ -10000 then (if (L z).cost < 0 then -((L z).cost * (L z).cost) else (L z).cost * (L z).cost) else 0
def costF (x : Line) : Int := bareC n L x + penC n L x.z
def dblF (flag : Bool) (z : Nat) : Int := if (flag && flgB n L z) = true then D else 0
end
theorem begG_ge (n : Nat) (L : Nat → Part) : ∀ (f i : Nat), i ≤ begG n L f i ∧ begG n L f i ≤ i + f
  | 0, i => ⟨Nat.le_refl _, Nat.le_refl _⟩
  | f + 1, i => by
    unfold begG
    split
    · omega
    · have := begG_ge n L f (i + 1)
      omega
theorem begF_ge {n : Nat} {L : Nat → Part} {i : Nat} (h : i ≤ n) : i ≤ begF n L i ∧ begF n L i ≤ n := by
  have := begG_ge n L (n - i) i
  unfold begF
  omega
theorem begF_end (n : Nat) (L : Nat → Part) : begF n L n = n := by unfold begF; rw [Nat.sub_self]; rfl
theorem begF_here {n : Nat} {L : Nat → Part} {i : Nat} (h : i < n) (hk : (L i).kind = 0 ∨ mustB n L i = true) : begF n L i = i := by
  unfold begF
  obtain ⟨f, hf⟩ : ∃ f, n - i = f + 1 := ⟨n - i - 1, by omega⟩
  rw [hf, begG, if_pos hk]
theorem begF_next {n : Nat} {L : Nat → Part} {i : Nat} (h : i < n) (hk : ¬ ((L i).kind = 0 ∨ mustB n L i = true)) : begF n L i = begF n L (i + 1) := by
  unfold begF
  obtain ⟨f, hf⟩ : ∃ f, n - i = f + 1 := ⟨n - i - 1, by omega⟩
  rw [hf, begG, if_neg hk, show n - (i + 1) = f by omega]
theorem mustB_end (n : Nat) (L : Nat → Part) : mustB n L n = true := by unfold mustB; simp
theorem mayB_end (n : Nat) (L : Nat → Part) : mayB n L n = true := by unfold mayB; simp
theorem mayB_must {n : Nat} {L : Nat → Part} {i : Nat} (h : mustB n L i = true) : mayB n L i = true := by
  unfold mustB at h
  unfold mayB
  simp only [Bool.or_eq_true, beq_iff_eq, Bool.and_eq_true, decide_eq_true_eq] at h ⊢
  rcases h with h | ⟨h1, h2⟩
  · exact .inl (.inl h)
  · exact .inr ⟨h1, by omega⟩
end Go.Law.Ln
