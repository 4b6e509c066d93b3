/-
  Masters: what the law's loops collect.
-/
import Derived.Test.YtabnohphgegflaaMsMiss
import Derived.Test.YtabnohphgegflaaMsShow
import Derived.Test.YtabnohphgegflaaMsEq
namespace Go.Law.Ms
open Go.RowKit Go.Law Go.Law.Sh
set_option linter.unusedVariables false
section
variable {n : Nat} {E : Nat → Nat → Int} {N : Nat → Nat → ByteArray}
/-- is an end of a link gone? as the reference asks it -/
theorem gone_ref (h : shE n E = 0) (x : Int) (hx : 0 ≤ x) : goneK E N n x = true ↔ 0 < x ∧ ∃ k : Nat, k < n ∧ findV n E x = k ∧ inP E N k = true := by
  rw [goneK_iff]
  constructor
  · rintro ⟨j, hj, he, hp⟩
    have := (ok_item h hj).1
    exact ⟨by omega, j, hj, find_of h hj he, hp⟩
  · rintro ⟨h0, k, hk, hf, hp⟩
    rcases findV_cases n E x with ⟨h1, _⟩ | ⟨q, hq, h1, h2, _⟩
    · omega
    · have : q = k := by omega
      subst this
      exact ⟨q, hk, h2, hp⟩
theorem gone_low (h : shE n E = 0) {x : Int} (hx : ¬ 0 < x) (h0 : 0 ≤ x) : goneK E N n x = false := by
  cases hb : goneK E N n x
  · rfl
  · exact absurd ((gone_ref h x h0).1 hb).1 hx
theorem gone_none {x : Int} (hf : findV n E x < 0) : goneK E N n x = false := by
  rcases findV_cases n E x with ⟨_, h2⟩ | ⟨q, _, h1, _⟩
  · exact goneK_no h2
  · omega
theorem gone_find (h : shE n E = 0) {x : Int} {k : Nat} (hk : k < n) (hf : findV n E x = k) : goneK E N n x = inP E N k := by
  rcases findV_cases n E x with ⟨h1, _⟩ | ⟨q, hq, h1, h2, _⟩
  · omega
  · have : q = k := by omega
    subst this
    exact goneK_at h (Nat.le_refl _) hq h2
/-- the first place with a name from the m-th shape on -/
def pf (n : Nat) (E : Nat → Nat → Int) (N : Nat → Nat → ByteArray) (nm : ByteArray) : Nat → Nat → Int
  | 0, m => -1
  | f + 1, m => if m < n then (if isPl E N nm m then m else pf n E N nm f (m + 1)) else -1
def pfrom (n : Nat) (E : Nat → Nat → Int) (N : Nat → Nat → ByteArray) (nm : ByteArray) (m : Nat) : Int := pf n E N nm (n - m) m
theorem pfrom_end (nm : ByteArray) : pfrom n E N nm n = -1 := by unfold pfrom; rw [Nat.sub_self]; rfl
theorem pfrom_yes {nm : ByteArray} {m : Nat} (hm : m < n) (h : isPl E N nm m) : pfrom n E N nm m = m := by
  unfold pfrom
  obtain ⟨f, hf⟩ : ∃ f, n - m = f + 1 := ⟨n - m - 1, by omega⟩
  rw [hf, pf, if_pos hm, if_pos h]
theorem pfrom_no {nm : ByteArray} {m : Nat} (hm : m < n) (h : ¬ isPl E N nm m) : pfrom n E N nm m = pfrom n E N nm (m + 1) := by
  unfold pfrom
  obtain ⟨f, hf⟩ : ∃ f, n - m = f + 1 := ⟨n - m - 1, by omega⟩
  rw [hf, pf, if_pos hm, if_neg h, show n - (m + 1) = f by omega]
theorem pfrom_cases (nm : ByteArray) : ∀ f m, m + f = n → (pfrom n E N nm m = -1 ∧ ∀ j, m ≤ j → j < n → ¬ isPl E N nm j) ∨ ∃ k, m ≤ k ∧ k < n ∧ pfrom n E N nm m = k ∧ isPl E N nm k ∧ ∀ j, m ≤ j → j < k → ¬ isPl E N nm j := by
  intro f
  induction f with
  | zero =>
    intro m hm
    have : m = n := by omega
    subst this
    exact .inl ⟨pfrom_end nm, fun j h1 h2 => by omega⟩
  | succ f ih =>
    intro m hm
    by_cases h : isPl E N nm m
    · exact .inr ⟨m, Nat.le_refl _, by omega, pfrom_yes (by omega) h, h, fun j h1 h2 => by omega⟩
    · rw [pfrom_no (show m < n by omega) h]
      rcases ih (m + 1) (by omega) with ⟨h1, h2⟩ | ⟨k, h1, h2, h3, h4, h5⟩
      · refine .inl ⟨h1, fun j h3 h4 => ?_⟩
        by_cases hj : j = m
        · rw [hj]; exact h
        · exact h2 j (by omega) h4
      · refine .inr ⟨k, by omega, h2, h3, h4, fun j h6 h7 => ?_⟩
        by_cases hj : j = m
        · rw [hj]; exact h
        · exact h5 j (by omega) h7
theorem pfrom_zero (nm : ByteArray) : pfrom n E N nm 0 = placeE n E N nm := by
  rcases pfrom_cases (n := n) (E := E) (N := N) nm n 0 (by omega) with ⟨h1, h2⟩ | ⟨k, _, h2, h3, h4, h5⟩
  · rw [h1, place_none (fun j hj => h2 j (by omega) hj)]
  · rw [h3, place_some h2 (fun j hj => h5 j (by omega) hj) h4]
/-- a shape of a slide while the reference looks for its place -/
def movD (E : Nat → Nat → Int) (s : ShD) (p : Int) : ShD := if 0 ≤ p then { s with x := E p.toNat 3, y := E p.toNat 4, w := E p.toNat 5, h := E p.toNat 6, tu := E p.toNat 7 } else s
theorem front_mov {s : ShD} (h : s.pa = 0 ∧ s.w = 0 ∧ s.h = 0) : frontD n E N s = movD E s (placeE n E N s.nm) := by
  unfold frontD movD
  by_cases hp : 0 ≤ placeE n E N s.nm
  · rw [if_pos ⟨h, hp⟩, if_pos hp]
  · rw [if_neg (fun hh => hp hh.2), if_neg hp]
theorem front_not {s : ShD} (h : ¬ (s.pa = 0 ∧ s.w = 0 ∧ s.h = 0)) : frontD n E N s = s := by
  unfold frontD
  rw [if_neg (fun hh => h hh.1)]
/-- the places of a master with a name ahead of the j-th shape -/
def uP (E : Nat → Nat → Int) (N : Nat → Nat → ByteArray) (j : Nat) (nm : ByteArray) : Bool := (List.range j).any fun q => decide (E q 1 = 0) && roomB (N q 0) && decide (N q 0 = nm)
theorem uP_next (j : Nat) (nm : ByteArray) : uP E N (j + 1) nm = (uP E N j nm || ((decide (E j 1 = 0) && roomB (N j 0)) && decide (N j 0 = nm))) := by
  unfold uP
  rw [List.range_succ, List.any_append]
  simp
end
end Go.Law.Ms
namespace Go.Proofs.Ytabnohphgegflaa.MS
open Go.RowKit Go.Law Go.Law.Sh Go.Law.Ms
theorem uS_next (E : Nat → Nat → Int) (N : Nat → Nat → ByteArray) (j : Nat) (nm : ByteArray) : uS E N (j + 1) nm = (uS E N j nm || (decide (E j 1 = 0) && decide (N j 0 = nm))) := by
  unfold uS
  rw [List.range_succ, List.any_append]
  simp
theorem used_parts (n1 : Nat) (E1 : Nat → Nat → Int) (N1 : Nat → Nat → ByteArray) (E2 : Nat → Nat → Int) (N2 : Nat → Nat → ByteArray) (i : Nat) (nm : ByteArray) : usedB n1 E1 N1 E2 N2 i nm = (uS E1 N1 n1 nm || uP E2 N2 i nm) := rfl
set_option linter.unusedVariables false
set_option linter.unusedSimpArgs false
set_option maxHeartbeats 2000000 in
theorem cutShapes_any (n : Nat) (a : Option Addr) (c : Nat) (w : World) (hn : n ≤ 1000000000000000000) (hc : n ≤ c ∧ c ≤ maxLen) :
    Calls Try.prog 6 #[.slice a n c] w fun e w' => e = .returned (.slice a (min n 20) c) ∧ w = w' := by
  obtain ⟨hc1, hc2⟩ := hc
  unfold maxLen at hc2
  by_cases h : 20 < n
  · have e1 : (20 : Int) < (n : Int) := by omega
    have e2 : (20 : Int) ≤ (c : Int) := by omega
    have e3 : 20 ≤ c := by omega
    rw [show min n 20 = 20 by omega]
    clear h
    go_enter Try.func6, Try.ntmps6
    go_wp2_with fail
    go_ret
    exact ⟨rfl, rfl⟩
  · have e1 : ¬ (20 : Int) < (n : Int) := by omega
    rw [show min n 20 = n by omega]
    go_enter Try.func6, Try.ntmps6
    go_wp2_with fail
    go_ret
    exact ⟨rfl, rfl⟩
end Go.Proofs.Ytabnohphgegflaa.MS
