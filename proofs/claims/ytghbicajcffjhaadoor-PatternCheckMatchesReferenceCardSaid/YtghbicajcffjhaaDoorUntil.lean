/-
  A region that draws its order and writes a cell which it loads: a condition on the world that must hold only until the operation m (the store) comes up.
-/
import Derived.Deep.RegionHeld3
namespace Go.Law
open Go
section
variable {P : Program} {ops : Array Oper} {Q : Exit → Act → World → Prop} {md : Region.Mode} {S : World → Prop} {m : Nat}
/-- S holds as long as m has not come up -/
def Till (m : Nat) (S : World → Prop) (listed : Array Bool) (w : World) : Prop := listed.getD m true = false → S w
def wpAnyU (P : Program) (md : Region.Mode) (ops : Array Oper) (Q : Exit → Act → World → Prop) (m : Nat) (S : World → Prop) : Nat → Array Bool → Act → World → Prop
  | 0, listed, a, w => Region.ready md ops listed = [] ∧ Q .normal a w
  | fuel + 1, listed, a, w =>
    (Region.ready md ops listed = [] → Q .normal a w) ∧
    ∀ i ∈ Region.ready md ops listed, wpOp P ops Q i (fun a' w' => Till m S (listed.setIfInBounds i true) w' ∧ wpAnyU P md ops Q m S fuel (listed.setIfInBounds i true) a' w') a w
theorem wpAny_of_until : ∀ (fuel : Nat) (listed : Array Bool) (a : Act) (w : World), wpAnyU P md ops Q m S fuel listed a w → wpAny P md ops Q fuel listed a w
  | 0, _, _, _, h => h
  | fuel + 1, _, _, _, h => ⟨h.1, fun i hi => wpOp_mono (fun a' w' k => wpAny_of_until fuel _ a' w' k.2) (h.2 i hi)⟩
/-- one waits for the next, along a list that ends in m; none of them has come up -/
def pathB (md : Region.Mode) (ops : Array Oper) (m : Nat) (listed : Array Bool) : Nat → List Nat → Bool
  | i, [] => i == m
  | i, p :: l => (listed.getD p true == false && (match ops[p]? with | some o => o.after.any (fun e => Region.binds md e && e.on == i) | none => false)) && pathB md ops m listed p l
theorem path_step {listed : Array Bool} {j : Nat} (hj : j ∈ Region.ready md ops listed) : ∀ (l : List Nat) (i : Nat), listed.getD i true = false → j ≠ i → pathB md ops m listed i l = true → pathB md ops m (listed.setIfInBounds j true) i l = true
  | [], i, _, _, h => h
  | p :: l, i, hi, hji, h => by
    simp only [pathB, Bool.and_eq_true, beq_iff_eq] at h ⊢
    obtain ⟨⟨h1, h2⟩, h3⟩ := h
    have hjp : j ≠ p := by
      rintro rfl
      obtain ⟨_, o, ho, hall⟩ := mem_ready.1 hj
      rw [ho] at h2
      obtain ⟨x, hx, hx1, hx2⟩ : ∃ x ∈ o.after, Region.binds md x = true ∧ x.on = i := by
        simp only [Array.any_eq_true', Bool.and_eq_true, beq_iff_eq] at h2
        exact h2
      have h4 := hall x hx hx1
      rw [hx2] at h4
      rcases Nat.lt_or_ge i listed.size with hlt | hge
      · simp [hlt] at hi h4; rw [hi] at h4; cases h4
      · simp [Array.getElem?_eq_none hge] at h4
    exact ⟨⟨by rw [getD_set_ne true hjp]; exact h1, h2⟩, path_step hj l p h1 hjp h3⟩
theorem path_end {listed : Array Bool} : ∀ (l : List Nat) (i : Nat), listed.getD i true = false → pathB md ops m listed i l = true → listed.getD m true = false
  | [], i, hi, h => by
    simp only [pathB, beq_iff_eq] at h
    rw [← h]; exact hi
  | p :: l, i, _, h => by
    simp only [pathB, Bool.and_eq_true, beq_iff_eq] at h
    exact path_end l p h.1.1 h.2
theorem wpAnyU_first {i : Nat} {oi : Oper} {v : Value} {S' : World → Prop} {V : Array Bool → Prop} (hi : ops[i]? = some oi) (hsel : ∀ (j : Nat) (o : Oper) cs b, ops[j]? = some o → o.op ≠ .select cs b)
    (hQ : ∀ c a w, Q (.panic c) (a.put oi.dst v) w → Q (.panic c) a w) (hmi : m ≠ i)
    (hV : ∀ (listed : Array Bool) j, V listed → listed.getD i true = false → j ∈ Region.ready md ops listed → j ≠ i → V (listed.setIfInBounds j true))
    (hVS : ∀ (listed : Array Bool) w, V listed → listed.getD i true = false → Till m S listed w → S' w) :
    ∀ (fuel : Nat) (listed : Array Bool) (a : Act) (w : World), V listed →
      (∀ j oj, ops[j]? = some oj → j ≠ i → listed.getD j true = false → (∀ e ∈ oj.after, Region.binds md e = true → e.on ≠ i) → oi.apart ops oj = true) →
      i ∈ Region.ready md ops listed → YieldsIf P ops S' oi v a → Till m S listed w →
      wpAnyU P md ops Q m S fuel (listed.setIfInBounds i true) (a.put oi.dst v) w → wpAnyU P md ops Q m S (fuel + 1) listed a w := by
  intro fuel
  induction fuel with
  | zero =>
    intro listed a w hv hfree hr hy hT H
    have hi0 := (mem_ready.1 hr).1
    refine ⟨fun h => (by rw [h] at hr; cases hr), fun j hj => ?_⟩
    by_cases hji : j = i
    · subst hji
      exact hy.wpOp hi (hVS _ _ hv hi0 hT) ⟨fun h => hT (by rwa [getD_set_ne true (Ne.symm hmi)] at h), H⟩
    · have hx := ready_mono hj hji
      rw [H.1] at hx
      cases hx
  | succ fuel ih =>
    intro listed a w hv hfree hr hy hT H
    have hi0 := (mem_ready.1 hr).1
    refine ⟨fun h => (by rw [h] at hr; cases hr), fun j hj => ?_⟩
    by_cases hji : j = i
    · subst hji
      exact hy.wpOp hi (hVS _ _ hv hi0 hT) ⟨fun h => hT (by rwa [getD_set_ne true (Ne.symm hmi)] at h), H⟩
    · have k1 := H.2 j (ready_mono hj hji)
      obtain ⟨hju, oj, hoj, hall⟩ := mem_ready.1 hj
      have hno : ∀ e ∈ oj.after, Region.binds md e = true → e.on ≠ i := fun e he hb heq => by
        have h1 := hall e he hb
        rw [heq] at h1
        rcases Nat.lt_or_ge i listed.size with hlt | hge
        · simp [hlt] at hi0 h1; rw [hi0] at h1; cases h1
        · simp [Array.getElem?_eq_none hge] at h1
      have k2 := wpOp_putIf hoj (hfree j oj hoj hji hju hno) (fun cs b => hsel i oi cs b hi) (fun cs b => hsel j oj cs b hoj) hQ hy k1
      refine wpOp_mono (fun a' w' k3 => ?_) k2
      obtain ⟨k3, k4, k5⟩ := k3
      have hT' : Till m S (listed.setIfInBounds j true) w' := fun h => k4 (by
        rw [Array.setIfInBounds_comm _ _ (Ne.symm hji), getD_set_ne true (Ne.symm hmi)]
        exact h)
      refine ⟨hT', ih (listed.setIfInBounds j true) a' w' (hV _ _ hv hi0 hj hji) (fun k ok hk hki hun hq => ?_) (ready_mono hr (Ne.symm hji)) k3 hT' ?_⟩
      · refine hfree k ok hk hki ?_ hq
        by_cases hjk : j = k
        · subst hjk; exact hju
        · rwa [getD_set_ne true hjk] at hun
      · rw [Array.setIfInBounds_comm _ _ hji]
        exact k5
/-- an operation that yields in every world that meets S, and that m waits for along a list -/
theorem takeU {i : Nat} {oi : Oper} {d : Option Tmp} {v : Value} {fuel : Nat} {listed : Array Bool} {a : Act} {w : World} (l : List Nat) (hi : ops[i]? = some oi) (hd : oi.dst = d)
    (hs : Region.noSelect ops = true) (hf : Region.free md ops listed i = true) (hr : (Region.ready md ops listed).contains i = true)
    (hp : (pathB md ops m listed i l && (m != i)) = true)
    (hQ : ∀ c a w, Q (.panic c) (a.put d v) w → Q (.panic c) a w) (hw : Region.wanted oi (yielded ops a.tmps) = true) (hy : ∀ w, S w → (execOp a.eval oi).run P w = .ok (.value v) w) (hT : Till m S listed w)
    (h : Till m S (listed.setIfInBounds i true) w → wpAnyU P md ops Q m S fuel (listed.setIfInBounds i true) (a.put d v) w) : wpAnyU P md ops Q m S (fuel + 1) listed a w := by
  subst hd
  simp only [Bool.and_eq_true, bne_iff_ne] at hp
  exact wpAnyU_first (S' := S) (V := fun listed => pathB md ops m listed i l = true) hi (Region.noSelect_spec hs) hQ hp.2 (fun _ j h1 h2 h3 h4 => path_step h3 l i h2 h4 h1)
    (fun _ w h1 h2 h3 => h3 (path_end l i h2 h1)) fuel listed a w hp.1 (Region.free_spec hi hf) (by simpa using hr) (Or.inl ⟨hw, hy⟩) hT (h fun k => hT (by rwa [getD_set_ne true (Ne.symm hp.2)] at k))
/-- an operation that yields in whatever world -/
theorem moveU {i : Nat} {oi : Oper} {d : Option Tmp} {v : Value} {fuel : Nat} {listed : Array Bool} {a : Act} {w : World} (hi : ops[i]? = some oi) (hd : oi.dst = d)
    (hs : Region.noSelect ops = true) (hf : Region.free md ops listed i = true) (hr : (Region.ready md ops listed).contains i = true) (hm : (m != i) = true)
    (hQ : ∀ c a w, Q (.panic c) (a.put d v) w → Q (.panic c) a w) (hw : Region.wanted oi (yielded ops a.tmps) = true) (hy : ∀ w, (execOp a.eval oi).run P w = .ok (.value v) w) (hT : Till m S listed w)
    (h : Till m S (listed.setIfInBounds i true) w → wpAnyU P md ops Q m S fuel (listed.setIfInBounds i true) (a.put d v) w) : wpAnyU P md ops Q m S (fuel + 1) listed a w := by
  subst hd
  rw [bne_iff_ne] at hm
  exact wpAnyU_first (S' := fun _ => True) (V := fun _ => True) hi (Region.noSelect_spec hs) hQ hm (fun _ _ _ _ _ _ => trivial)
    (fun _ _ _ _ _ => trivial) fuel listed a w trivial (Region.free_spec hi hf) (by simpa using hr) (Or.inl ⟨hw, fun w _ => hy w⟩) hT (h fun k => hT (by rwa [getD_set_ne true (Ne.symm hm)] at k))
/-- an operation whose guard is false -/
theorem skipU {i : Nat} {oi : Oper} {d : Option Tmp} {fuel : Nat} {listed : Array Bool} {a : Act} {w : World} (hi : ops[i]? = some oi) (hd : oi.dst = d)
    (hs : Region.noSelect ops = true) (hf : Region.free md ops listed i = true) (hr : (Region.ready md ops listed).contains i = true) (hm : (m != i) = true)
    (hQ : ∀ c a w, Q (.panic c) (a.put d undef) w → Q (.panic c) a w) (hw : Region.wanted oi (yielded ops a.tmps) = false) (hT : Till m S listed w)
    (h : Till m S (listed.setIfInBounds i true) w → wpAnyU P md ops Q m S fuel (listed.setIfInBounds i true) (a.put d undef) w) : wpAnyU P md ops Q m S (fuel + 1) listed a w := by
  subst hd
  rw [bne_iff_ne] at hm
  exact wpAnyU_first (S' := fun _ => True) (V := fun _ => True) hi (Region.noSelect_spec hs) hQ hm (fun _ _ _ _ _ _ => trivial)
    (fun _ _ _ _ _ => trivial) fuel listed a w trivial (Region.free_spec hi hf) (by simpa using hr) (Or.inr ⟨hw, rfl⟩) hT (h fun k => hT (by rwa [getD_set_ne true (Ne.symm hm)] at k))
/-- each of these comes up next -/
def AllReadyU (P : Program) (md : Region.Mode) (ops : Array Oper) (Q : Exit → Act → World → Prop) (m : Nat) (S : World → Prop) (fuel : Nat) (listed : Array Bool) (a : Act) (w : World) (rs : List Nat) : Prop :=
  ∀ i ∈ rs, wpOp P ops Q i (fun a' w' => Till m S (listed.setIfInBounds i true) w' ∧ wpAnyU P md ops Q m S fuel (listed.setIfInBounds i true) a' w') a w
theorem AllReadyU.nil {fuel : Nat} {listed : Array Bool} {a : Act} {w : World} : AllReadyU P md ops Q m S fuel listed a w [] := fun _ h => by cases h
theorem AllReadyU.cons {fuel : Nat} {listed : Array Bool} {a : Act} {w : World} {i : Nat} {o : Oper} {rs : List Nat} (ho : ops[i]? = some o)
    (h : ∀ K' : Act → World → Prop, Shut (∀ a w, Till m S (listed.setIfInBounds i true) w → (Till m S (listed.setIfInBounds i true) w → wpAnyU P md ops Q m S fuel (listed.setIfInBounds i true) a w) → K' a w) → if Region.wanted o (yielded ops a.tmps) = true then Oper.wp P o a w K' Q else K' (a.put o.dst undef) w)
    (hs : AllReadyU P md ops Q m S fuel listed a w rs) : AllReadyU P md ops Q m S fuel listed a w (i :: rs) := fun j hj => by
  rcases List.mem_cons.1 hj with rfl | hj
  · exact wpOp_step ho (fun K' hK => h K' (fun a w hS hW => hK a w ⟨hS, hW hS⟩))
  · exact hs j hj
theorem wpAnyU_ready {rs : List Nat} {fuel : Nat} {listed : Array Bool} {a : Act} {w : World} (hr : Region.ready md ops listed = rs) (hne : rs ≠ [])
    (h : AllReadyU P md ops Q m S fuel listed a w rs) : wpAnyU P md ops Q m S (fuel + 1) listed a w :=
  ⟨fun h0 => absurd (hr ▸ h0) hne, hr ▸ h⟩
theorem wpAnyU_done {listed : Array Bool} {a : Act} {w : World} (hr : Region.ready md ops listed = []) (h : Q .normal a w) : ∀ fuel, wpAnyU P md ops Q m S fuel listed a w
  | 0 => ⟨hr, h⟩
  | _ + 1 => ⟨fun _ => h, by rw [hr]; simp⟩
/-- the beginning; S is wanted until m -/
theorem wp_region_until {id : Nat} {a : Act} {w : World} (m : Nat) (S : World → Prop) (hm : P.follows .mixedOrders = true) (hS : S w.drew)
    (h : Till m S (Array.replicate ops.size false) w.drew → wpAnyU P .any ops Q m S ops.size (Array.replicate ops.size false) a w.drew) : (Code.region id ops true).wp P Q a w :=
  wp_region_any hm (wpAny_of_until _ _ _ _ (h fun _ => hS))
end
end Go.Law
