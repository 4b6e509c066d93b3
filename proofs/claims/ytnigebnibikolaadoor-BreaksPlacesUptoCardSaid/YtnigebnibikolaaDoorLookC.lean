/-
  Functions that are told by ranges: the first group of ranges that holds a number counts. Two such functions that agree where ranges begin and end agree everywhere.
-/
import Derived.Test.YtnigebnibikolaaDoorDoorDirT
namespace Go.Law
def inR (c : Int) (r : Int × Int) : Bool := decide (r.1 ≤ c ∧ c ≤ r.2)
def anyR (c : Int) (rs : List (Int × Int)) : Bool := rs.any (inR c)
def lookC (c : Int) : List (List (Int × Int) × Int) → Int → Int
  | [], d => d
  | (rs, v) :: t, d => if anyR c rs = true then v else lookC c t d
theorem beqR (c k : Int) : (c == k) = inR c (k, k) := by
  rw [Bool.eq_iff_iff]; simp [inR]; omega
theorem inR_one (c k : Int) : inR c (k, k) = decide (c = k) := by
  rw [Bool.eq_iff_iff]; simp [inR]; omega
theorem inR_true {c a b : Int} : inR c (a, b) = true ↔ a ≤ c ∧ c ≤ b := by simp [inR]
theorem inR_false {c a b : Int} : inR c (a, b) = false ↔ ¬ (a ≤ c ∧ c ≤ b) := by simp only [inR, decide_eq_false_iff_not]
theorem lookC_yes {c : Int} {rs : List (Int × Int)} {v d : Int} {t : List (List (Int × Int) × Int)} (h : anyR c rs = true) : lookC c ((rs, v) :: t) d = v := by
  show (if _ then _ else _) = _; rw [if_pos h]
theorem lookC_no {c : Int} {rs : List (Int × Int)} {v d : Int} {t : List (List (Int × Int) × Int)} (h : anyR c rs = false) : lookC c ((rs, v) :: t) d = lookC c t d := by
  show (if _ then _ else _) = _; rw [if_neg (by rw [h]; simp)]
def edges (T : List (List (Int × Int) × Int)) : List Int := T.flatMap fun x => x.1.flatMap fun r => [r.1, r.2 + 1]
theorem anyR_alike {c p : Int} : ∀ {rs : List (Int × Int)}, (∀ x ∈ rs.flatMap (fun r => [r.1, r.2 + 1]), (x ≤ c ↔ x ≤ p)) → anyR c rs = anyR p rs
  | [], _ => rfl
  | r :: rs, h => by
    have h1 := h r.1 (by simp)
    have h2 := h (r.2 + 1) (by simp)
    have h3 := anyR_alike (rs := rs) fun x hx => h x (by simp only [List.flatMap_cons, List.mem_append]; exact .inr hx)
    have h4 : inR c r = inR p r := by unfold inR; rw [Bool.eq_iff_iff]; simp only [decide_eq_true_eq]; omega
    unfold anyR at h3 ⊢
    simp only [List.any_cons, h4, h3]
theorem lookC_alike {c p d : Int} : ∀ {T : List (List (Int × Int) × Int)}, (∀ x ∈ edges T, (x ≤ c ↔ x ≤ p)) → lookC c T d = lookC p T d
  | [], _ => rfl
  | (rs, v) :: t, h => by
    have h1 : anyR c rs = anyR p rs := anyR_alike fun x hx => h x (by simp only [edges, List.flatMap_cons, List.mem_append]; exact .inl hx)
    have h2 := lookC_alike (T := t) (c := c) (p := p) (d := d) fun x hx => h x (by simp only [edges, List.flatMap_cons, List.mem_append] at hx ⊢; exact .inr hx)
    simp only [lookC, h1, h2]
theorem lookC_same (S T : List (List (Int × Int) × Int)) (d : Int) (lo : Int) (h : ((lo :: (edges S ++ edges T)).all fun p => lookC p S d == lookC p T d) = true) (hlo : ((edges S ++ edges T).all fun p => decide (lo < p)) = true) (c : Int) : lookC c S d = lookC c T d := by
  have go : ∀ p, (∀ x ∈ edges S ++ edges T, (x ≤ c ↔ x ≤ p)) → lookC p S d = lookC p T d → lookC c S d = lookC c T d := fun p hp e => by
    rw [lookC_alike (p := p) fun x hx => hp x (by simp [hx]), lookC_alike (T := T) (p := p) fun x hx => hp x (by simp [hx])]
    exact e
  by_cases hx : ∃ x ∈ edges S ++ edges T, x ≤ c
  · obtain ⟨p, hp, hpc, hm⟩ := greatest_below c _ hx
    refine go p (fun x hx => ⟨fun h => hm x hx h, fun h => by omega⟩) ?_
    simpa using List.all_eq_true.1 h p (List.mem_cons_of_mem _ hp)
  · refine go lo (fun x hx' => ⟨fun h => absurd ⟨x, hx', h⟩ hx, fun h => ?_⟩) (by simpa using List.all_eq_true.1 h lo (by simp))
    have := List.all_eq_true.1 hlo x hx'
    simp only [decide_eq_true_eq] at this
    omega
/-- a yes or no that is told by ranges is 1 or 0 of such a function -/
theorem anyR_look (c : Int) (rs : List (Int × Int)) : anyR c rs = (lookC c [(rs, 1)] 0 == 1) := by
  cases h : anyR c rs
  · rw [lookC_no h]; rfl
  · rw [lookC_yes h]; rfl
theorem anyR_same (S T : List (Int × Int)) (lo : Int) (h : ((lo :: (edges [(S, 1)] ++ edges [(T, 1)])).all fun p => lookC p [(S, 1)] 0 == lookC p [(T, 1)] 0) = true) (hlo : ((edges [(S, 1)] ++ edges [(T, 1)]).all fun p => decide (lo < p)) = true) (c : Int) : anyR c S = anyR c T := by
  rw [anyR_look, anyR_look, lookC_same [(S, 1)] [(T, 1)] 0 lo h hlo c]
/-- rows of a table as ranges -/
def rngs (T : List (List Int)) : List (Int × Int) := T.map fun r => (r.getD 0 0, r.getD 1 0)
def rows3 (T : List (List Int)) : List (List (Int × Int) × Int) := T.map fun r => ([(r.getD 0 0, r.getD 1 0)], r.getD 2 0)
theorem inR_hit (T : List (List Int)) (c : Int) (k : Nat) : hit T c k = inR c (ent T k 0, ent T k 1) := rfl
theorem rngs_none {c : Int} : ∀ {T : List (List Int)}, (∀ j, j < T.length → hit T c j = false) → anyR c (rngs T) = false
  | [], _ => rfl
  | r :: T, h => by
    have h0 := h 0 (by simp)
    have h1 := rngs_none (T := T) fun j hj => by simpa [hit, ent] using h (j + 1) (by simpa using hj)
    unfold anyR rngs at h1 ⊢
    rw [List.map_cons, List.any_cons, h1, Bool.or_false]
    exact h0
theorem rngs_some {c : Int} : ∀ {T : List (List Int)} {k : Nat}, k < T.length → hit T c k = true → anyR c (rngs T) = true
  | [], k, hk, _ => by simp at hk
  | r :: T, 0, _, h => by
    unfold anyR rngs
    rw [List.map_cons, List.any_cons]
    have : inR c (r.getD 0 0, r.getD 1 0) = true := h
    rw [this]; rfl
  | r :: T, k + 1, hk, h => by
    have h1 := rngs_some (T := T) (k := k) (by simpa using hk) (by simpa [hit, ent] using h)
    unfold anyR rngs at h1 ⊢
    rw [List.map_cons, List.any_cons, h1, Bool.or_true]
theorem rows3_none {c d : Int} : ∀ {T : List (List Int)} {U : List (List (Int × Int) × Int)}, (∀ j, j < T.length → hit T c j = false) → lookC c (rows3 T ++ U) d = lookC c U d
  | [], U, _ => rfl
  | r :: T, U, h => by
    have h0 := h 0 (by simp)
    have h1 := rows3_none (T := T) (U := U) (d := d) fun j hj => by simpa [hit, ent] using h (j + 1) (by simpa using hj)
    show lookC c (([(r.getD 0 0, r.getD 1 0)], r.getD 2 0) :: (rows3 T ++ U)) d = _
    rw [lookC_no (by unfold anyR; rw [List.any_cons, List.any_nil, Bool.or_false]; exact h0), h1]
theorem rows3_some {c d : Int} : ∀ {T : List (List Int)} {U : List (List (Int × Int) × Int)} {k : Nat}, k < T.length → (∀ j, j < k → hit T c j = false) → hit T c k = true → lookC c (rows3 T ++ U) d = ent T k 2
  | [], U, k, hk, _, _ => by simp at hk
  | r :: T, U, 0, _, _, h => by
    show lookC c (([(r.getD 0 0, r.getD 1 0)], r.getD 2 0) :: (rows3 T ++ U)) d = _
    rw [lookC_yes (by unfold anyR; rw [List.any_cons]; have : inR c (r.getD 0 0, r.getD 1 0) = true := h
                      rw [this]; rfl)]
    rfl
  | r :: T, U, k + 1, hk, hn, h => by
    have h0 := hn 0 (by omega)
    have h1 := rows3_some (T := T) (U := U) (d := d) (k := k) (by simpa using hk) (fun j hj => by simpa [hit, ent] using hn (j + 1) (by omega)) (by simpa [hit, ent] using h)
    show lookC c (([(r.getD 0 0, r.getD 1 0)], r.getD 2 0) :: (rows3 T ++ U)) d = _
    rw [lookC_no (by unfold anyR; rw [List.any_cons, List.any_nil, Bool.or_false]; exact h0), h1]
    simp [ent]
def anyG (c : Int) (S : List (List (Int × Int) × Int)) : Bool := S.any fun x => anyR c x.1
theorem lookC_left {c d d' : Int} : ∀ {S U : List (List (Int × Int) × Int)}, anyG c S = true → lookC c (S ++ U) d = lookC c S d'
  | [], _, h => by cases h
  | (rs, v) :: S, U, h => by
    cases h1 : anyR c rs
    · have h2 : anyG c S = true := by
        unfold anyG at h ⊢
        rw [List.any_cons, h1, Bool.false_or] at h
        exact h
      show lookC c ((rs, v) :: (S ++ U)) d = _
      rw [lookC_no h1, lookC_no h1]
      exact lookC_left h2
    · show lookC c ((rs, v) :: (S ++ U)) d = _
      rw [lookC_yes h1, lookC_yes h1]
theorem lookC_right {c d : Int} : ∀ {S U : List (List (Int × Int) × Int)}, anyG c S = false → lookC c (S ++ U) d = lookC c U d
  | [], _, _ => rfl
  | (rs, v) :: S, U, h => by
    unfold anyG at h
    rw [List.any_cons, Bool.or_eq_false_iff] at h
    show lookC c ((rs, v) :: (S ++ U)) d = _
    rw [lookC_no h.1]
    exact lookC_right h.2
theorem rows3_any (c : Int) : ∀ (T : List (List Int)), anyG c (rows3 T) = anyR c (rngs T)
  | [] => rfl
  | r :: T => by
    have h := rows3_any c T
    unfold anyG rows3 at h ⊢
    unfold anyR rngs at h ⊢
    rw [List.map_cons, List.any_cons, List.map_cons, List.any_cons, h]
    simp
end Go.Law
