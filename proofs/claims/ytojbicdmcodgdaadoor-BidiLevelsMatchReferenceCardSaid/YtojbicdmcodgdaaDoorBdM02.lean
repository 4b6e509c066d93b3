/-
  BdNeut, BdBrack, BdEnds, BdWeak, BdAll, BdBound, BdSteps, OwnR, Aside, Blk, OwnB.
-/
import Derived.Test.YtojbicdmcodgdaaDoorBdM00
import Derived.Test.YtojbicdmcodgdaaDoorBdM01
import Derived.Laws.AppendOwn
namespace Go.Law.Bd
open Go.Law
set_option linter.unusedVariables false
/-- what a class counts as beside neutral ones -/
def ctB (k : Int) : Int := if k = 0 then 0 else if k = 1 ∨ k = 3 ∨ k = 6 then 1 else -1
/-- the neutral classes of the program -/
def neuB (k : Int) : Bool := decide (k = 10 ∨ k = 11 ∨ k = 12 ∨ k = 13 ∨ (19 ≤ k ∧ k ≤ 21) ∨ k = 22)
/-- the classes that may be left when numbers are decided -/
def leftB (k : Int) : Prop := k = 0 ∨ k = 1 ∨ k = 3 ∨ k = 6 ∨ neuB k = true
/-- the side ahead of a place -/
def sdL (C : Nat → Int) (bef : Int) : Nat → Int
  | 0 => bef
  | k + 1 => if 0 ≤ ctB (C k) then ctB (C k) else sdL C bef k
def sdRP (C : Nat → Int) (m : Nat) (aft : Int) : Nat → Nat → Int
  | 0, _ => aft
  | f + 1, k => if 0 ≤ ctB (C k) then ctB (C k) else sdRP C m aft f (k + 1)
/-- the side at a place, or behind it -/
def sdR (C : Nat → Int) (m : Nat) (aft : Int) (k : Nat) : Int := sdRP C m aft (m - k) k
/-- the classes with the neutral ones decided -/
def wNE (C : Nat → Int) (m : Nat) (bef aft own : Int) (k : Nat) : Int :=
  if ctB (C k) < 0 then (if sdL C bef k = sdR C m aft (k + 1) then sdL C bef k else own) else C k
section
variable {C : Nat → Int} {m k j to : Nat} {bef aft own : Int}
theorem ctB_range (k : Int) : ctB k = -1 ∨ ctB k = 0 ∨ ctB k = 1 := by
  unfold ctB
  split
  · omega
  · split <;> omega
theorem neuB_ct {k : Int} (h : leftB k) : neuB k = decide (ctB k < 0) := by
  unfold leftB at h
  rcases h with h | h | h | h | h
  · subst h; decide
  · subst h; decide
  · subst h; decide
  · subst h; decide
  · rw [h]; symm; rw [decide_eq_true_eq]
    unfold neuB at h; rw [decide_eq_true_eq] at h
    unfold ctB
    rw [if_neg (by omega), if_neg (by omega)]; decide
theorem sdR_end (h : m ≤ k) : sdR C m aft k = aft := by unfold sdR; rw [show m - k = 0 by omega]; rfl
theorem sdR_step (h : k < m) : sdR C m aft k = if 0 ≤ ctB (C k) then ctB (C k) else sdR C m aft (k + 1) := by
  unfold sdR
  obtain ⟨f, hf⟩ : ∃ f, m - k = f + 1 := ⟨m - k - 1, by omega⟩
  rw [hf, sdRP, show m - (k + 1) = f by omega]
theorem sdL_range (hb : bef = 0 ∨ bef = 1) : ∀ k, sdL C bef k = 0 ∨ sdL C bef k = 1 := by
  intro k
  induction k with
  | zero => exact hb
  | succ k ih => rw [sdL]; split <;> rename_i h; · have := ctB_range (C k); omega
                 exact ih
theorem sdR_range (hb : aft = 0 ∨ aft = 1) : ∀ d k, m - k = d → (sdR C m aft k = 0 ∨ sdR C m aft k = 1) := by
  intro d
  induction d with
  | zero => intro k h; rw [sdR_end (by omega)]; exact hb
  | succ d ih =>
    intro k h; rw [sdR_step (by omega)]; split <;> rename_i h1; · have := ctB_range (C k); omega
    exact ih (k + 1) (by omega)
/-- what is ahead of a run -/
def ahB (C : Nat → Int) (bef : Int) (k : Nat) : Int := if k = 0 then bef else ctB (C (k - 1))
/-- what is behind a run -/
def behB (C : Nat → Int) (m : Nat) (aft : Int) (k : Nat) : Int := if k < m then ctB (C k) else aft
theorem sdL_run (h : k = 0 ∨ 0 ≤ ctB (C (k - 1))) : ∀ d, (∀ x, k ≤ x → x < k + d → ctB (C x) < 0) → sdL C bef (k + d) = ahB C bef k := by
  intro d
  induction d with
  | zero =>
    intro _
    unfold ahB
    cases k with
    | zero => rfl
    | succ k =>
      rcases h with h | h
      · omega
      · simp only [Nat.add_sub_cancel] at h
        rw [if_neg (by omega), Nat.add_zero, sdL, if_pos h]; rfl
  | succ d ih =>
    intro ha
    have := ha (k + d) (by omega) (by omega)
    rw [show k + (d + 1) = (k + d) + 1 by omega, sdL, if_neg (by omega)]
    exact ih fun x h1 h2 => ha x h1 (by omega)
theorem sdR_run (hto : to ≤ m) (h : to = m ∨ 0 ≤ ctB (C to)) : ∀ d j, j + d = to → (∀ x, j ≤ x → x < to → ctB (C x) < 0) → sdR C m aft j = behB C m aft to := by
  intro d
  induction d with
  | zero =>
    intro j hj _
    have : j = to := by omega
    subst this
    unfold behB
    by_cases hm : j < m
    · rw [sdR_step hm, if_pos hm, if_pos (by omega)]
    · rw [if_neg hm, sdR_end (by omega)]
  | succ d ih =>
    intro j hj ha
    have := ha j (by omega) (by omega)
    rw [sdR_step (by omega), if_neg (by omega)]
    exact ih (j + 1) (by omega) fun x h1 h2 => ha x (by omega) h2
/-- what a run becomes -/
theorem wNE_run (h0 : k = 0 ∨ 0 ≤ ctB (C (k - 1))) (hto : to ≤ m) (h1 : to = m ∨ 0 ≤ ctB (C to)) (ha : ∀ x, k ≤ x → x < to → ctB (C x) < 0)
    (hj : k ≤ j) (hj2 : j < to) :
    wNE C m bef aft own j = if ahB C bef k = behB C m aft to then ahB C bef k else own := by
  have hl : sdL C bef j = ahB C bef k := by
    have := sdL_run (bef := bef) h0 (j - k) (fun x h1 h2 => ha x h1 (by omega))
    rwa [show k + (j - k) = j by omega] at this
  have hr : sdR C m aft (j + 1) = behB C m aft to := sdR_run hto h1 (to - (j + 1)) (j + 1) (by omega) fun x h1 h2 => ha x (by omega) h2
  unfold wNE
  rw [if_pos (ha j hj hj2), hl, hr]
theorem wNE_other (h : 0 ≤ ctB (C k)) : wNE C m bef aft own k = C k := by unfold wNE; rw [if_neg (by omega)]
/-- what is left behind the neutral ones -/
theorem wNE_left (hb : bef = 0 ∨ bef = 1) (ho : own = 0 ∨ own = 1) (hl : leftB (C k)) :
    wNE C m bef aft own k = 0 ∨ wNE C m bef aft own k = 1 ∨ wNE C m bef aft own k = 3 ∨ wNE C m bef aft own k = 6 := by
  unfold wNE
  by_cases h : ctB (C k) < 0
  · rw [if_pos h]
    have := sdL_range (C := C) hb k
    split <;> omega
  · rw [if_neg h]
    have := neuB_ct hl
    unfold leftB at hl
    rw [this, decide_eq_true_eq] at hl
    omega
/-- the level of a character, by the program -/
def impP (lev c : Int) : Int :=
  if lev % 2 = 0 ∧ c = 1 then 1 else if lev % 2 = 0 ∧ (c = 3 ∨ c = 6) then 2 else if lev % 2 = 1 ∧ c ≠ 1 then 1 else 0
/-- and by the reference -/
def impR (lev c : Int) : Int :=
  if (lev % 2 = 0 ∧ c = 1) ∨ (lev % 2 = 1 ∧ c ≠ 1) then 1 else if lev % 2 = 0 ∧ c ≠ 0 then 2 else 0
theorem imp_eq {lev c : Int} (h : c = 0 ∨ c = 1 ∨ c = 3 ∨ c = 6) : impP lev c = impR lev c := by
  unfold impP impR
  have : lev % 2 = 0 ∨ lev % 2 = 1 := by omega
  rcases h with h | h | h | h <;> subst h <;> rcases this with h2 | h2 <;> rw [h2] <;> decide
end
/-- the closing bracket of an opening one -/
def clOf (c : Int) : Int := if c = 40 then 41 else if c = 91 then 93 else if c = 123 then 125 else if c = 12300 then 12301 else -1
/-- the opening bracket of a closing one -/
def opOf (c : Int) : Int := if c = 41 then 40 else if c = 93 then 91 else if c = 125 then 123 else if c = 12301 then 12300 else -1
/-- the topmost of some brackets that is the one looked for, and those below it -/
def popTo (T : Nat → Int) (o : Int) : List Nat → Option (Nat × List Nat)
  | [] => none
  | x :: t => if T x = o then some (x, t) else popTo T o t
/-- the open brackets, the last ahead, and the pairs -/
structure Bkt where
  op : List Nat
  pr : List (Nat × Nat)
def bkStep (T C : Nat → Int) (i : Nat) (s : Bkt) : Option Bkt :=
  if C i = 13 then
    if 0 ≤ clOf (T i) then (if s.op.length = 63 then none else some ⟨i :: s.op, s.pr⟩)
    else if 0 ≤ opOf (T i) then
      match popTo T (opOf (T i)) s.op with
      | some (k, r) => some ⟨r, s.pr ++ [(k, i)]⟩
      | none => some s
    else some s
  else some s
/-- the state ahead of a place; none: too many -/
def bkAt (T C : Nat → Int) : Nat → Option Bkt
  | 0 => some ⟨[], []⟩
  | i + 1 => (bkAt T C i).bind (bkStep T C i)
/-- the closing place of an opening one -/
def mtB (P : List (Nat × Nat)) (a : Nat) : Option Nat := (P.find? fun x => decide (x.1 = a)).map (·.2)
structure BktOk (i : Nat) (s : Bkt) : Prop where
  nd : (s.pr.map (·.1) ++ s.op).Nodup
  op : ∀ x, x ∈ s.op → x < i
  pr : ∀ x, x ∈ s.pr → x.1 < x.2 ∧ x.2 < i
  len : s.op.length ≤ 63
/-- a place and the marks that follow it -/
def grpB (Ow : Nat → Int) (a j : Nat) : Bool := decide (a ≤ j) && (List.range (j - a)).all fun x => decide (Ow (a + 1 + x) = 8)
def sameB (C : Nat → Int) (own : Int) (a b : Nat) : Bool := (List.range (b - (a + 1))).any fun x => decide (ctB (C (a + 1 + x)) = own)
def otherB (C : Nat → Int) (own : Int) (a b : Nat) : Bool := (List.range (b - (a + 1))).any fun x => decide (0 ≤ ctB (C (a + 1 + x)) ∧ ctB (C (a + 1 + x)) ≠ own)
/-- the classes behind the decision of one pair -/
def bkSet (Ow : Nat → Int) (bef own : Int) (C : Nat → Int) (x : Nat × Nat) (j : Nat) : Int :=
  if (sameB C own x.1 x.2 = true ∨ otherB C own x.1 x.2 = true) ∧ (grpB Ow x.1 j = true ∨ grpB Ow x.2 j = true) then
    (if sameB C own x.1 x.2 = true then own else sdL C bef x.1)
  else C j
/-- the pairs in the order of the opening ones -/
def ordB (P : List (Nat × Nat)) (m : Nat) : List (Nat × Nat) := (List.range m).filterMap fun a => (mtB P a).map fun b => (a, b)
/-- the classes behind all pairs -/
def wBK (T Ow : Nat → Int) (bef own : Int) (m : Nat) (C : Nat → Int) : Nat → Int :=
  match bkAt T C m with
  | some s => (ordB s.pr m).foldl (bkSet Ow bef own) C
  | none => C
section
variable {T C Ow : Nat → Int} {i m k : Nat} {s : Bkt} {P Q : List (Nat × Nat)}
theorem popTo_some {o : Int} : ∀ {S : List Nat} {x : Nat} {r : List Nat}, popTo T o S = some (x, r) → ∃ S1, S = S1 ++ x :: r ∧ T x = o ∧ ∀ y, y ∈ S1 → T y ≠ o
  | [], _, _, h => by simp [popTo] at h
  | y :: t, x, r, h => by
    rw [popTo] at h
    by_cases hy : T y = o
    · rw [if_pos hy] at h
      simp at h
      obtain ⟨h1, h2⟩ := h
      subst h1 h2
      exact ⟨[], rfl, hy, by simp⟩
    · rw [if_neg hy] at h
      obtain ⟨S1, h1, h2, h3⟩ := popTo_some h
      refine ⟨y :: S1, by rw [h1]; rfl, h2, ?_⟩
      intro z hz
      rcases List.mem_cons.mp hz with hz | hz
      · subst hz; exact hy
      · exact h3 z hz
theorem bk_step (h : BktOk i s) {s' : Bkt} (hs : bkStep T C i s = some s') : BktOk (i + 1) s' := by
  have hm : BktOk (i + 1) s := ⟨h.nd, fun x hx => by have := h.op x hx; omega, fun x hx => by have := h.pr x hx; omega, h.len⟩
  unfold bkStep at hs
  split at hs
  · split at hs
    · split at hs
      · simp at hs
      · rename_i hl
        simp at hs; subst hs
        refine ⟨?_, ?_, hm.pr, ?_⟩
        · have hn := h.nd
          rw [List.nodup_append] at hn ⊢
          refine ⟨hn.1, ?_, ?_⟩
          · rw [List.nodup_cons]
            exact ⟨fun hx => by have := h.op _ hx; omega, hn.2.1⟩
          · intro a ha b hb
            rcases List.mem_cons.mp hb with hb | hb
            · subst hb
              obtain ⟨y, hy, rfl⟩ := List.mem_map.mp ha
              have := h.pr y hy
              omega
            · exact hn.2.2 a ha b hb
        · intro x hx
          rcases List.mem_cons.mp hx with hx | hx
          · omega
          · exact hm.op x hx
        · have := h.len; simp only [List.length_cons]; omega
    · split at hs
      · split at hs
        · rename_i x r hp
          simp at hs; subst hs
          obtain ⟨S1, h1, -, -⟩ := popTo_some hp
          have hx : x ∈ s.op := by rw [h1]; simp
          refine ⟨?_, ?_, ?_, ?_⟩
          · have hn := h.nd
            rw [h1] at hn
            rw [List.map_append, List.append_assoc]
            refine List.Sublist.nodup ?_ hn
            refine List.Sublist.append (List.Sublist.refl _) ?_
            exact List.sublist_append_right S1 (x :: r)
          · intro y hy; exact hm.op y (by rw [h1]; simp [hy])
          · intro y hy
            rcases List.mem_append.mp hy with hy | hy
            · exact hm.pr y hy
            · simp at hy; subst hy
              have := h.op x hx
              simp only; omega
          · have := h.len; rw [h1] at this; simp only [List.length_append, List.length_cons] at this; simp only; omega
        · simp at hs; subst hs; exact hm
      · simp at hs; subst hs; exact hm
  · simp at hs; subst hs; exact hm
theorem bk_ok : ∀ i s, bkAt T C i = some s → BktOk i s := by
  intro i
  induction i with
  | zero => intro s h; simp [bkAt] at h; subst h; exact ⟨by simp, by simp, by simp, by simp⟩
  | succ i ih =>
    intro s h
    rw [bkAt] at h
    cases hb : bkAt T C i with
    | none => rw [hb] at h; simp at h
    | some t => rw [hb] at h; exact bk_step (ih t hb) h
/-- once too many, for ever -/
theorem bk_none (h : bkAt T C i = none) : ∀ d, bkAt T C (i + d) = none := by
  intro d
  induction d with
  | zero => exact h
  | succ d ih => rw [show i + (d + 1) = (i + d) + 1 by omega, bkAt, ih]; rfl
theorem mtB_new {k b a : Nat} (h : k ∉ P.map (·.1)) : mtB (P ++ [(k, b)]) a = if a = k then some b else mtB P a := by
  unfold mtB
  rw [List.find?_append]
  by_cases ha : a = k
  · subst ha
    have : P.find? (fun x => decide (x.1 = a)) = none := by
      rw [List.find?_eq_none]
      intro x hx
      have : x.1 ≠ a := fun e => h (by rw [← e]; exact List.mem_map_of_mem hx)
      simpa using this
    rw [this, if_pos rfl]; simp
  · rw [if_neg ha]
    have : [(k, b)].find? (fun x => decide (x.1 = a)) = none := by
      rw [List.find?_eq_none]; intro x hx; simp at hx; subst hx; simp; omega
    rw [this]; simp
theorem ordB_congr {m : Nat} (h : ∀ a, a < m → mtB P a = mtB Q a) : ordB P m = ordB Q m := by
  induction m with
  | zero => rfl
  | succ m ih =>
    unfold ordB at ih ⊢
    rw [List.range_succ, List.filterMap_append, List.filterMap_append, ih fun a ha => h a (by omega)]
    congr 1
    simp only [List.filterMap_cons, List.filterMap_nil, h m (by omega)]
theorem mtB_none {a : Nat} (h : a ∉ P.map (·.1)) : mtB P a = none := by
  unfold mtB
  have : P.find? (fun x => decide (x.1 = a)) = none := by
    rw [List.find?_eq_none]
    intro x hx
    have : x.1 ≠ a := fun e => h (by rw [← e]; exact List.mem_map_of_mem hx)
    simpa using this
  rw [this]; rfl
theorem ordB_succ (P : List (Nat × Nat)) (m : Nat) : ordB P (m + 1) = ordB P m ++ ((mtB P m).map fun b => (m, b)).toList := by
  unfold ordB
  rw [List.range_succ, List.filterMap_append]
  cases hc : mtB P m with
  | none => simp [hc]
  | some v => simp [hc]
/-- pairs in order are those of their places -/
theorem ord_self : ∀ m Q, Q.Pairwise (fun x y : Nat × Nat => x.1 < y.1) → (∀ x, x ∈ Q → x.1 < m) → ordB Q m = Q := by
  intro m
  induction m with
  | zero =>
    intro Q _ h
    cases Q with
    | nil => rfl
    | cons x t => have := h x List.mem_cons_self; omega
  | succ m ih =>
    intro Q hp h
    rw [ordB_succ]
    by_cases hx : m ∈ Q.map (·.1)
    · obtain ⟨x, hx1, hx2⟩ := List.mem_map.mp hx
      obtain ⟨Q1, Q2, hQ⟩ := List.append_of_mem hx1
      subst hQ
      rw [List.pairwise_append] at hp
      obtain ⟨p1, p2, p3⟩ := hp
      have hq2 : Q2 = [] := by
        cases Q2 with
        | nil => rfl
        | cons y t =>
          have h1 := (List.pairwise_cons.mp p2).1 y List.mem_cons_self
          have h2 := h y (by simp)
          omega
      subst hq2
      have hl : ∀ y, y ∈ Q1 → y.1 < m := fun y hy => by have := p3 y hy x List.mem_cons_self; omega
      have hnot : x.1 ∉ Q1.map (·.1) := by
        intro hy
        obtain ⟨y, hy1, hy2⟩ := List.mem_map.mp hy
        have := hl y hy1; omega
      have he : Q1 ++ [x] = Q1 ++ [(x.1, x.2)] := rfl
      have e1 : ordB (Q1 ++ [x]) m = ordB Q1 m := ordB_congr fun a ha => by rw [he, mtB_new hnot, if_neg (by omega)]
      rw [e1, ih Q1 p1 hl, he, mtB_new hnot, if_pos hx2.symm]
      simp only [Option.map_some, Option.toList_some, ← hx2]
    · have hl : ∀ y, y ∈ Q → y.1 < m := by
        intro y hy
        have h1 := h y hy
        have h2 : y.1 ≠ m := fun e => hx (by rw [← e]; exact List.mem_map_of_mem hy)
        omega
      rw [ih Q hp hl, mtB_none hx]; simp
theorem mtB_some (h : (P.map (·.1)).Nodup) {a b : Nat} : mtB P a = some b ↔ (a, b) ∈ P := by
  induction P with
  | nil => simp [mtB]
  | cons x t ih =>
    rw [List.map_cons, List.nodup_cons] at h
    unfold mtB at ih ⊢
    rw [List.find?_cons]
    by_cases hx : x.1 = a
    · simp only [hx, decide_true, Option.map_some, Option.some.injEq, List.mem_cons]
      constructor
      · intro h2; left; rw [← hx, ← h2]
      · rintro (h2 | h2)
        · rw [← h2]
        · exact absurd (List.mem_map_of_mem (f := (·.1)) h2) (by rw [hx] at h; exact h.1)
    · simp only [hx, decide_false, List.mem_cons]
      rw [ih h.2]
      constructor
      · exact Or.inr
      · rintro (h2 | h2)
        · rw [← h2] at hx; simp at hx
        · exact h2
/-- the pairs put in order, by whatever order them -/
theorem ord_eq {m : Nat} (hnd : (P.map (·.1)).Nodup) (hperm : Q.Perm P) (ho : Q.Pairwise fun x y => x.1 < y.1) (hm : ∀ x, x ∈ P → x.1 < m) : Q = ordB P m := by
  have hndQ : (Q.map (·.1)).Nodup := (hperm.map _).nodup_iff.mpr hnd
  rw [← ord_self m Q ho fun x hx => hm x (hperm.mem_iff.mp hx)]
  refine ordB_congr fun a _ => ?_
  apply Option.ext
  intro b
  rw [mtB_some hndQ, mtB_some hnd, hperm.mem_iff]
end
/-- the first place of the run of class 5 that ends ahead of or at a place -/
def lo5 (C : Nat → Int) : Nat → Nat
  | 0 => 0
  | k + 1 => if C k = 5 then lo5 C k else k + 1
def hiP (C : Nat → Int) (m : Nat) : Nat → Nat → Nat
  | 0, k => k
  | f + 1, k => if C k = 5 then hiP C m f (k + 1) else k
/-- the place behind the run of class 5 that begins at a place -/
def hi5 (C : Nat → Int) (m k : Nat) : Nat := hiP C m (m - k) k
/-- the classes with ends of numbers joined to numbers -/
def wET (C : Nat → Int) (m k : Nat) : Int :=
  if C k = 5 ∧ ((0 < lo5 C k ∧ C (lo5 C k - 1) = 3) ∨ (hi5 C m k < m ∧ C (hi5 C m k) = 3)) then 3 else C k
/-- the forward pass -/
def etF (C : Nat → Int) : Nat → Int
  | 0 => C 0
  | k + 1 => if C (k + 1) = 5 ∧ etF C k = 3 then 3 else C (k + 1)
def etGP (C : Nat → Int) (m : Nat) : Nat → Nat → Int
  | 0, k => etF C k
  | f + 1, k => if etF C k = 5 ∧ k + 1 < m ∧ etGP C m f (k + 1) = 3 then 3 else etF C k
/-- the backward pass, behind the forward one -/
def etG (C : Nat → Int) (m k : Nat) : Int := etGP C m (m - 1 - k) k
section
variable {C : Nat → Int} {m k j to : Nat}
theorem hi5_end (h : m ≤ k) : hi5 C m k = k := by unfold hi5; rw [show m - k = 0 by omega]; rfl
theorem hi5_step (h : k < m) (h5 : C k = 5) : hi5 C m k = hi5 C m (k + 1) := by
  unfold hi5
  obtain ⟨f, hf⟩ : ∃ f, m - k = f + 1 := ⟨m - k - 1, by omega⟩
  rw [hf, hiP, if_pos h5, show m - (k + 1) = f by omega]
theorem hi5_stop (h5 : C k ≠ 5) : hi5 C m k = k := by
  unfold hi5
  cases hf : m - k with
  | zero => rfl
  | succ f => rw [hiP, if_neg h5]
theorem lo5_step (h5 : C k = 5) : lo5 C (k + 1) = lo5 C k := by rw [lo5, if_pos h5]
theorem lo5_stop (h : k = 0 ∨ C (k - 1) ≠ 5) : lo5 C k = k := by
  cases k with
  | zero => rfl
  | succ k =>
    rw [lo5, if_neg]
    rcases h with h | h
    · omega
    · simpa using h
theorem lo5_run (h : k = 0 ∨ C (k - 1) ≠ 5) : ∀ d, (∀ x, k ≤ x → x < k + d → C x = 5) → lo5 C (k + d) = k := by
  intro d
  induction d with
  | zero => intro _; exact lo5_stop h
  | succ d ih =>
    intro ha
    rw [show k + (d + 1) = (k + d) + 1 by omega, lo5_step (ha _ (by omega) (by omega))]
    exact ih fun x h1 h2 => ha x h1 (by omega)
theorem hi5_run (hto : to ≤ m) (h : to = m ∨ C to ≠ 5) : ∀ d j, j + d = to → (∀ x, j ≤ x → x < to → C x = 5) → hi5 C m j = to := by
  intro d
  induction d with
  | zero =>
    intro j hj _
    have : j = to := by omega
    subst this
    rcases h with h | h
    · exact hi5_end (by omega)
    · exact hi5_stop h
  | succ d ih =>
    intro j hj ha
    rw [hi5_step (by omega) (ha j (by omega) (by omega))]
    exact ih (j + 1) (by omega) fun x h1 h2 => ha x (by omega) h2
/-- what a run becomes -/
theorem wET_run (h0 : k = 0 ∨ C (k - 1) ≠ 5) (hto : to ≤ m) (h1 : to = m ∨ C to ≠ 5) (ha : ∀ x, k ≤ x → x < to → C x = 5)
    (hj : k ≤ j) (hj2 : j < to) :
    wET C m j = if (0 < k ∧ C (k - 1) = 3) ∨ (to < m ∧ C to = 3) then 3 else 5 := by
  have hl : lo5 C j = k := by
    have := lo5_run h0 (j - k) (fun x h1 h2 => ha x h1 (by omega))
    rwa [show k + (j - k) = j by omega] at this
  have hh : hi5 C m j = to := hi5_run hto h1 (to - j) j (by omega) fun x h1 h2 => ha x (by omega) h2
  have h5 := ha j hj hj2
  unfold wET
  rw [hl, hh, h5]
  by_cases hc : (0 < k ∧ C (k - 1) = 3) ∨ (to < m ∧ C to = 3)
  · rw [if_pos hc, if_pos ⟨rfl, hc⟩]
  · rw [if_neg hc, if_neg (fun h => hc h.2)]
theorem wET_other (h : C k ≠ 5) : wET C m k = C k := by unfold wET; rw [if_neg (fun x => h x.1)]
theorem lo5_le (C : Nat → Int) : ∀ k, lo5 C k ≤ k
  | 0 => Nat.le_refl 0
  | k + 1 => by
    rw [lo5]
    split
    · have := lo5_le C k; omega
    · omega
/-- the forward pass: numbers behind -/
theorem etF_eq (C : Nat → Int) : ∀ k, etF C k = if C k = 5 ∧ 0 < lo5 C k ∧ C (lo5 C k - 1) = 3 then 3 else C k := by
  intro k
  induction k with
  | zero => rw [etF, if_neg]; rintro ⟨_, h, _⟩; simp [lo5] at h
  | succ k ih =>
    rw [etF]
    by_cases h5 : C (k + 1) = 5
    · by_cases hk : C k = 5
      · rw [lo5_step hk]
        have e : (etF C k = 3) ↔ (0 < lo5 C k ∧ C (lo5 C k - 1) = 3) := by
          rw [ih]
          constructor
          · intro h
            split at h
            · rename_i hc; exact hc.2
            · rw [hk] at h; omega
          · intro h; rw [if_pos ⟨hk, h⟩]
        simp only [h5, e, true_and]
      · rw [lo5_stop (Or.inr (by simpa using hk))]
        have e : etF C k = C k := by rw [ih, if_neg (fun x => hk x.1)]
        rw [e]
        simp [h5]
    · rw [if_neg (fun x => h5 x.1), if_neg (fun x => h5 x.1)]
theorem etG_end (h : m ≤ k + 1) : etG C m k = etF C k := by unfold etG; rw [show m - 1 - k = 0 by omega]; rfl
theorem etG_step (h : k + 1 < m) : etG C m k = if etF C k = 5 ∧ etG C m (k + 1) = 3 then 3 else etF C k := by
  unfold etG
  obtain ⟨f, hf⟩ : ∃ f, m - 1 - k = f + 1 := ⟨m - 1 - k - 1, by omega⟩
  rw [hf, etGP, show m - 1 - (k + 1) = f by omega]
  simp [h]
/-- both passes together -/
theorem etG_eq : ∀ d k, m - k = d → k < m → etG C m k = wET C m k := by
  intro d
  induction d with
  | zero => intro k h1 h2; omega
  | succ d ih =>
    intro k h1 h2
    by_cases h5 : C k = 5
    · have hF := etF_eq C k
      unfold wET
      by_cases hb : 0 < lo5 C k ∧ C (lo5 C k - 1) = 3
      · rw [if_pos ⟨h5, hb⟩] at hF
        rw [if_pos ⟨h5, Or.inl hb⟩]
        by_cases he : k + 1 < m
        · rw [etG_step he, if_neg (by rw [hF]; omega), hF]
        · rw [etG_end (by omega), hF]
      · rw [if_neg (fun x => hb x.2), h5] at hF
        by_cases he : k + 1 < m
        · rw [etG_step he, hF, ih (k + 1) (by omega) he]
          rw [hi5_step h2 h5]
          by_cases hk5 : C (k + 1) = 5
          · unfold wET
            rw [lo5_step h5]
            simp only [hk5, h5, hb, false_or, true_and]
            split <;> simp_all
          · rw [wET_other hk5, hi5_stop hk5]
            simp only [h5, hb, false_or, true_and, he]
        · rw [etG_end (by omega), hF, hi5_step h2 h5, hi5_end (by omega)]
          rw [if_neg (by rintro ⟨_, h | h⟩; exact hb h; omega), h5]
    · rw [wET_other h5]
      have hF : etF C k = C k := by rw [etF_eq, if_neg (fun x => h5 x.1)]
      by_cases he : k + 1 < m
      · rw [etG_step he, if_neg (by rw [hF]; exact fun x => h5 x.1), hF]
      · rw [etG_end (by omega), hF]
end
/-- the last letter ahead of a place -/
def sgB (V : Nat → Int) (bef : Int) : Nat → Int
  | 0 => bef
  | k + 1 => if V k = 0 ∨ V k = 1 ∨ V k = 2 then V k else sgB V bef k
/-- marks -/
def w1 (C Ow : Nat → Int) (bef : Int) : Nat → Int
  | 0 => if C 0 = 8 then bef else C 0
  | k + 1 => if C (k + 1) = 8 then (if isoB (Ow k) = true ∨ Ow k = 22 then 13 else w1 C Ow bef k) else C (k + 1)
/-- numbers behind Arabic letters -/
def w2 (C : Nat → Int) (bef : Int) (k : Nat) : Int := if C k = 3 ∧ sgB C bef k = 2 then 6 else C k
def w3 (C : Nat → Int) (k : Nat) : Int := if C k = 2 then 1 else C k
/-- what separates numbers -/
def w4 (C : Nat → Int) (m : Nat) : Nat → Int
  | 0 => C 0
  | k + 1 =>
    if k + 2 < m ∧ w4 C m k = C (k + 2) ∧ ((C (k + 1) = 4 ∧ w4 C m k = 3) ∨ (C (k + 1) = 7 ∧ (w4 C m k = 3 ∨ w4 C m k = 6))) then w4 C m k
    else C (k + 1)
def w6 (C : Nat → Int) (k : Nat) : Int := if C k = 4 ∨ C k = 5 ∨ C k = 7 then 13 else C k
/-- the last letter ahead of a place, where numbers behind letters from left to right are letters -/
def sg7 (C : Nat → Int) (bef : Int) : Nat → Int
  | 0 => bef
  | k + 1 =>
    if (if C k = 3 ∧ sg7 C bef k = 0 then 0 else C k) = 0 ∨ C k = 1 ∨ C k = 2 then (if C k = 3 ∧ sg7 C bef k = 0 then 0 else C k) else sg7 C bef k
def w7 (C : Nat → Int) (bef : Int) (k : Nat) : Int := if C k = 3 ∧ sg7 C bef k = 0 then 0 else C k
/-- all of it -/
def wWK (C Ow : Nat → Int) (m : Nat) (bef : Int) : Nat → Int :=
  w7 (w6 (wET (w4 (w3 (w2 (w1 C Ow bef) bef)) m) m)) bef
section
variable {C C' Ow : Nat → Int} {m k : Nat} {bef : Int}
theorem sgB_congr : ∀ k, (∀ j, j < k → C j = C' j) → sgB C bef k = sgB C' bef k := by
  intro k
  induction k with
  | zero => intro _; rfl
  | succ k ih => intro h; rw [sgB, sgB, h k (by omega), ih fun j hj => h j (by omega)]
/-- numbers that change to other numbers change no letter -/
theorem sgB_w2 : ∀ k, sgB (w2 C bef) bef k = sgB C bef k := by
  intro k
  induction k with
  | zero => rfl
  | succ k ih =>
    rw [sgB, sgB, ih]
    unfold w2
    by_cases h : C k = 3 ∧ sgB C bef k = 2
    · rw [if_pos h, if_neg (by omega), if_neg (by omega)]
    · rw [if_neg h]
theorem sgB_w7 : ∀ k, sgB (w7 C bef) bef k = sg7 C bef k := by
  intro k
  induction k with
  | zero => rfl
  | succ k ih =>
    rw [sgB, sg7, ih]
    unfold w7
    by_cases h : C k = 3 ∧ sg7 C bef k = 0
    · rw [if_pos h]; simp
    · rw [if_neg h]
/-- the classes that take part -/
def partB (k : Int) : Prop := 0 ≤ k ∧ k ≤ 22 ∧ k ≠ 9 ∧ ¬ (14 ≤ k ∧ k ≤ 18)
theorem w1_part (hb : bef = 0 ∨ bef = 1) (h : ∀ j, j < m → partB (C j)) : ∀ k, k < m → partB (w1 C Ow bef k) ∧ w1 C Ow bef k ≠ 8 := by
  intro k
  induction k with
  | zero =>
    intro hk
    have := h 0 hk
    unfold partB at this ⊢
    rw [w1]; split <;> omega
  | succ k ih =>
    intro hk
    have h1 := h (k + 1) hk
    have h2 := ih (by omega)
    rw [w1]
    split
    · split
      · unfold partB; omega
      · exact h2
    · exact ⟨h1, by assumption⟩
theorem w4_in : ∀ k, w4 C m k = C k ∨ w4 C m k = 3 ∨ w4 C m k = 6 := by
  intro k
  cases k with
  | zero => exact Or.inl rfl
  | succ k =>
    rw [w4]
    split
    · rename_i h; right; omega
    · exact Or.inl rfl
theorem wET_in : wET C m k = C k ∨ wET C m k = 3 := by unfold wET; split; · exact Or.inr rfl
                                                       · exact Or.inl rfl
/-- the classes that are left -/
theorem wk_left (hb : bef = 0 ∨ bef = 1) (h : ∀ j, j < m → partB (C j)) (hk : k < m) : leftB (wWK C Ow m bef k) := by
  have h1 := w1_part (Ow := Ow) hb h k hk
  unfold partB at h1
  have h3 : w3 (w2 (w1 C Ow bef) bef) k = w1 C Ow bef k ∧ w1 C Ow bef k ≠ 2 ∨ w3 (w2 (w1 C Ow bef) bef) k = 1 ∨ w3 (w2 (w1 C Ow bef) bef) k = 6 := by
    unfold w3 w2
    split <;> split at * <;> omega
  have h4 := w4_in (C := w3 (w2 (w1 C Ow bef) bef)) (m := m) k
  have h5 := wET_in (C := w4 (w3 (w2 (w1 C Ow bef) bef)) m) (m := m) (k := k)
  unfold wWK
  have h6 : ∀ D : Nat → Int, w6 D k = D k ∧ D k ≠ 4 ∧ D k ≠ 5 ∧ D k ≠ 7 ∨ w6 D k = 13 := by intro D; unfold w6; split <;> omega
  have h6 := h6 (wET (w4 (w3 (w2 (w1 C Ow bef) bef)) m) m)
  have h7 : ∀ D : Nat → Int, w7 D bef k = D k ∨ w7 D bef k = 0 := by intro D; unfold w7; split <;> omega
  have h7 := h7 (w6 (wET (w4 (w3 (w2 (w1 C Ow bef) bef)) m) m))
  generalize w7 (w6 (wET (w4 (w3 (w2 (w1 C Ow bef) bef)) m) m)) bef k = x at *
  unfold leftB neuB
  rw [decide_eq_true_eq]
  omega
end
/-- the sequences -/
def seqsB (K : Nat → Int) (n : Nat) (R : List (List Nat)) : List (List Nat) :=
  (hds (rnX K n R) R.length).map fun h => atB R (chn (rnX K n R) R.length h)
/-- what is added to the level of a character of a sequence -/
def seqUp (O : Nat → Bool) (L V T K : Nat → Int) (base : Int) (n : Nat) (s : List Nat) (k : Nat) : Int :=
  let own := L (s.getD 0 0)
  let bef := befB O L base own (s.getD 0 0)
  let aft := aftB O L K base own n (s.getLastD 0)
  let A := fun x => s.getD x 0
  impP own (wNE (wBK (fun x => T (A x)) (fun x => K (A x)) bef (sideB own) s.length
    (wWK (fun x => V (A x)) (fun x => K (A x)) s.length bef)) s.length bef aft (sideB own) k)
/-- the levels behind all sequences -/
def seqLv (O : Nat → Bool) (L V T K : Nat → Int) (base : Int) (n : Nat) (S : List (List Nat)) (x : Nat) : Int :=
  match S.find? fun s => s.contains x with
  | some s => L x + seqUp O L V T K base n s (s.idxOf x)
  | none => L x
/-- the levels of a paragraph: T its characters, K their classes -/
def bidiLv (T K : Nat → Int) (base : Int) (n x : Nat) : Int :=
  let b : Ent := ⟨base, -1, false⟩
  let L := lvE b K n
  if rbB K n x = true then base
  else outL (ouE K) (seqLv (ouE K) L (clE b K n) T K base n (seqsB K n (rnsAt (ouE K) L n))) base x
section
variable {O : Nat → Bool} {L V T K : Nat → Int} {base own : Int} {n i k : Nat} {R : List (List Nat)}
theorem rnX_inj2 (h : RnsOk O i R) (hin : i ≤ n) (q : Nat) : ∀ x y, x < q → y < q → rnX K n R x = rnX K n R y → rnX K n R x < q → x = y :=
  fun x y _ _ he _ => rnX_inj h hin x y he
/-- a place is of one run -/
theorem rn_one (h : RnsOk O i R) {p q x : Nat} (hp : p < R.length) (hq : q < R.length) (h1 : x ∈ rnG R p) (h2 : x ∈ rnG R q) : p = q := by
  rcases Nat.lt_trichotomy p q with hl | hl | hl
  · have := rns_lt h hq hl h1 h2; omega
  · exact hl
  · have := rns_lt h hp hl h2 h1; omega
/-- a place is of one sequence -/
theorem seqs_disj (h : RnsOk O i R) (hin : i ≤ n) : (seqsB K n R).Pairwise fun a b => ∀ x, x ∈ a → x ∉ b := by
  have hg := rnX_lt (K := K) h hin
  unfold seqsB
  rw [List.pairwise_map]
  have hp : (hds (rnX K n R) R.length).Pairwise (· < ·) := (List.pairwise_lt_range).filter _
  refine List.Pairwise.imp_of_mem ?_ hp
  intro a b ha hb hab x hx hy
  obtain ⟨a1, a2⟩ := hds_mem ha
  obtain ⟨b1, b2⟩ := hds_mem hb
  unfold atB at hx hy
  obtain ⟨r, hr, hxr⟩ := List.mem_flatten.mp hx
  obtain ⟨r', hr', hxr'⟩ := List.mem_flatten.mp hy
  obtain ⟨p, hp1, rfl⟩ := List.mem_map.mp hr
  obtain ⟨p', hp2, rfl⟩ := List.mem_map.mp hr'
  have l1 := chn_lt hg _ a rfl a1 p hp1
  have l2 := chn_lt hg _ b rfl b1 p' hp2
  have := rn_one h l1.2 l2.2 hxr hxr'
  subst this
  have := chn_one hg (rnX_inj2 h hin R.length) a2 b2 a1 b1 _ _ rfl hp1 hp2
  omega
/-- the places of a sequence -/
theorem seqs_mem (h : RnsOk O i R) (hin : i ≤ n) {s : List Nat} (hs : s ∈ seqsB K n R) : s ≠ [] ∧ s.Pairwise (· < ·) ∧ ∀ x, x ∈ s → x < i ∧ O x = false := by
  have hg := rnX_lt (K := K) h hin
  unfold seqsB at hs
  obtain ⟨a, ha, rfl⟩ := List.mem_map.mp hs
  obtain ⟨a1, a2⟩ := hds_mem ha
  have hl : ∀ p, p ∈ chn (rnX K n R) R.length a → p < R.length := fun p hp => (chn_lt hg _ a rfl a1 p hp).2
  refine ⟨?_, atB_sorted h (chn_sorted hg _ a rfl a1) hl, fun x hx => atB_place h hl hx⟩
  intro he
  have hm : a ∈ chn (rnX K n R) R.length a := by rw [chn_step hg a1]; exact List.mem_cons_self
  have hx := rn_head h a1
  have : (rnG R a).headD 0 ∈ atB R (chn (rnX K n R) R.length a) := by
    unfold atB
    exact List.mem_flatten.mpr ⟨_, List.mem_map_of_mem hm, hx⟩
  rw [he] at this
  simp at this
/-- the level of a place of a sequence -/
theorem seqLv_at {S : List (List Nat)} (hd : S.Pairwise fun a b => ∀ x, x ∈ a → x ∉ b) {s : List Nat} (hs : s ∈ S) {x : Nat} (hx : x ∈ s) :
    seqLv O L V T K base n S x = L x + seqUp O L V T K base n s (s.idxOf x) := by
  unfold seqLv
  have : S.find? (fun s => s.contains x) = some s := by
    induction S with
    | nil => simp at hs
    | cons a t ih =>
      rw [List.pairwise_cons] at hd
      rw [List.find?_cons]
      rcases List.mem_cons.mp hs with h | h
      · subst h; simp [hx]
      · have : x ∉ a := fun ha => hd.1 s h x ha hx
        simp only [show a.contains x = false by simpa using this]
        exact ih hd.2 h
  rw [this]
theorem seqLv_out {S : List (List Nat)} {x : Nat} (hx : ∀ s, s ∈ S → x ∉ s) : seqLv O L V T K base n S x = L x := by
  unfold seqLv
  have : S.find? (fun s => s.contains x) = none := by
    rw [List.find?_eq_none]; intro s hs; simpa using hx s hs
  rw [this]
end
section
variable {O : Nat → Bool} {L V T K : Nat → Int} {base own : Int} {n i k : Nat} {R : List (List Nat)} {b : Ent}
theorem decB_mem (hb : b.iso = false) (hl : 0 ≤ b.lev ∧ b.lev ≤ 125) (ho : b.ovr = -1) (i : Nat) :
    (0 ≤ (decB b K n i).lev ∧ (decB b K n i).lev ≤ 125) ∧ -1 ≤ (decB b K n i).ovr ∧ (decB b K n i).ovr ≤ 1 := by
  unfold decB
  split
  · have h := est_ok (K := K) (n := n) hb hl ho (i + 1)
    exact ⟨h.lev _ (topB_mem h.low), h.ovr _ (topB_mem h.low)⟩
  · have h := est_ok (K := K) (n := n) hb hl ho i
    exact ⟨h.lev _ (topB_mem h.low), h.ovr _ (topB_mem h.low)⟩
theorem lvE_range (hb : b.iso = false) (hl : 0 ≤ b.lev ∧ b.lev ≤ 125) (ho : b.ovr = -1) (i : Nat) : 0 ≤ lvE b K n i ∧ lvE b K n i ≤ 125 := by
  unfold lvE
  split
  · exact hl
  · exact (decB_mem hb hl ho i).1
/-- the classes of those that take part, as BdWeak asks -/
theorem clE_part (hb : b.iso = false) (hl : 0 ≤ b.lev ∧ b.lev ≤ 125) (ho : b.ovr = -1) (hk : 0 ≤ K i ∧ K i ≤ 22) (hO : ouE K i = false) : partB (clE b K n i) := by
  unfold ouE at hO
  rw [decide_eq_false_iff_not] at hO
  have h := (decB_mem (K := K) (n := n) hb hl ho i).2
  unfold clE partB
  split
  · omega
  · split <;> omega
theorem impP_range (lev c : Int) : 0 ≤ impP lev c ∧ impP lev c ≤ 2 := by
  unfold impP
  split
  · omega
  · split
    · omega
    · split <;> omega
theorem seqLv_range (hL : ∀ x, 0 ≤ L x ∧ L x ≤ 125) (S : List (List Nat)) (x : Nat) : 0 ≤ seqLv O L V T K base n S x ∧ seqLv O L V T K base n S x ≤ 127 := by
  have h := hL x
  unfold seqLv
  split
  · unfold seqUp
    simp only
    rename_i s _
    have := impP_range (L (s.getD 0 0)) (wNE (wBK (fun x => T (s.getD x 0)) (fun x => K (s.getD x 0)) (befB O L base (L (s.getD 0 0)) (s.getD 0 0)) (sideB (L (s.getD 0 0))) s.length
      (wWK (fun x => V (s.getD x 0)) (fun x => K (s.getD x 0)) s.length (befB O L base (L (s.getD 0 0)) (s.getD 0 0)))) s.length (befB O L base (L (s.getD 0 0)) (s.getD 0 0))
      (aftB O L K base (L (s.getD 0 0)) n (s.getLastD 0)) (sideB (L (s.getD 0 0))) (s.idxOf x))
    omega
  · omega
theorem outL_range {lo hi : Int} (hL : ∀ x, lo ≤ L x ∧ L x ≤ hi) (hb : lo ≤ base ∧ base ≤ hi) : ∀ k, lo ≤ outL O L base k ∧ outL O L base k ≤ hi := by
  intro k
  induction k with
  | zero => rw [outL]; split; · exact hb
            exact hL 0
  | succ k ih => rw [outL]; split; · exact ih
                 exact hL (k + 1)
theorem bidiLv_range (hb : 0 ≤ base ∧ base ≤ 1) (x : Nat) : 0 ≤ bidiLv T K base n x ∧ bidiLv T K base n x ≤ 127 := by
  unfold bidiLv
  simp only
  split
  · omega
  · exact outL_range (fun y => seqLv_range (fun z => lvE_range rfl ⟨hb.1, by show base ≤ 125; omega⟩ rfl z) _ y) ⟨hb.1, by omega⟩ x
end
section
variable {C Ow : Nat → Int} {own : Int} {a b j k : Nat}
theorem grpB_self : grpB Ow a a = true := by unfold grpB; simp
theorem grpB_less (h : j < a) : grpB Ow a j = false := by unfold grpB; simp; intro h2; omega
theorem grpB_step (h : a ≤ j) : grpB Ow a (j + 1) = (grpB Ow a j && decide (Ow (j + 1) = 8)) := by
  unfold grpB
  rw [show j + 1 - a = (j - a) + 1 by omega, List.range_succ, List.all_append]
  simp only [List.all_cons, List.all_nil, Bool.and_true, show a + 1 + (j - a) = j + 1 by omega, h, show a ≤ j + 1 by omega, decide_true, Bool.true_and]
/-- behind the first that is no mark, none -/
theorem grpB_stop (h : a ≤ j) (hn : Ow (j + 1) ≠ 8) : ∀ d, grpB Ow a (j + 1 + d) = false := by
  intro d
  induction d with
  | zero => rw [Nat.add_zero, grpB_step h]; simp [hn]
  | succ d ih => rw [show j + 1 + (d + 1) = (j + 1 + d) + 1 by omega, grpB_step (by omega), ih]; rfl
theorem sameB_start : sameB C own a (a + 1) = false := by unfold sameB; simp
theorem sameB_step (h : a + 1 ≤ k) : sameB C own a (k + 1) = (sameB C own a k || decide (ctB (C k) = own)) := by
  unfold sameB
  rw [show k + 1 - (a + 1) = (k - (a + 1)) + 1 by omega, List.range_succ, List.any_append]
  simp only [List.any_cons, List.any_nil, Bool.or_false, show a + 1 + (k - (a + 1)) = k by omega]
theorem otherB_start : otherB C own a (a + 1) = false := by unfold otherB; simp
theorem otherB_step (h : a + 1 ≤ k) : otherB C own a (k + 1) = (otherB C own a k || decide (0 ≤ ctB (C k) ∧ ctB (C k) ≠ own)) := by
  unfold otherB
  rw [show k + 1 - (a + 1) = (k - (a + 1)) + 1 by omega, List.range_succ, List.any_append]
  simp only [List.any_cons, List.any_nil, Bool.or_false, show a + 1 + (k - (a + 1)) = k by omega]
end
end Go.Law.Bd
namespace Go.Law
open Go.RowKit
/-- n structs of s ints at an address. -/
def StrF (w : World) (a : Option Addr) (n s : Nat) (f : Nat → Nat → Int) : Prop :=
  0 < n → ∃ b off, a = some ⟨b, off, none⟩ ∧ ∀ i, i < n → ∀ j, j < s → w.cell? ⟨b, off + i * s + j, none⟩ = some (.int .i64 (f i j))
theorem StrF.below {W w : World} {B : Nat} {a : Option Addr} {n s : Nat} {f : Nat → Nat → Int} (h : StrF W a n s f) (hB : W.heap.size ≤ B) (hb : Below B W w) : StrF w a n s f := by
  intro hn
  obtain ⟨b, off, rfl, hh⟩ := h hn
  refine ⟨b, off, rfl, fun i hi j hj => ?_⟩
  have h1 := hh i hi j hj
  have hlt : b < W.heap.size := lt_of_cell h1
  rw [hb.cell (show b < B by omega)]
  exact h1
theorem StrF.of_elems {α : Type} {R : Rd α} {s : Nat} {w : World} {a : Option Addr} {xs : List α} {g : α → List Int} (h : Elems R s w a xs) (hR : ∀ cs x, R w cs x → cs = (g x).map (Value.int .i64)) :
    StrF w a xs.length s (fun i j => ((xs[i]?.map g).getD []).getD j 0) := by
  intro hn
  obtain ⟨b, off, rfl, hh⟩ := h (by rintro rfl; simp at hn)
  refine ⟨b, off, rfl, fun i hi j hj => ?_⟩
  have hx := List.getElem?_eq_getElem hi
  obtain ⟨cs, hl, hc, hr⟩ := hh i _ hx
  have hcs := hR _ _ hr
  subst hcs
  simp at hl
  refine hc j _ ?_
  rw [List.getElem?_map]
  simp only [hx, Option.map_some, Option.getD_some]
  rw [List.getElem?_eq_getElem (by omega)]
  simp [show j < (g xs[i]).length by omega]
/-- A row of the call's own (type e, s cells each), n long, whose cells are the ints F. -/
def RowI (w : World) (base : Nat) (e : TypeId) (s : Nat) (v : Value) (n : Nat) (F : Nat → Int) : Prop :=
  ∃ xs, w.ownsRow base e s v n xs ∧ ∀ i, i < n * s → xs[i]? = some (.int .i64 (F i))
theorem RowI.nil (w : World) (base : Nat) (e : TypeId) (s : Nat) (F : Nat → Int) : RowI w base e s (.slice none 0 0) 0 F :=
  ⟨[], World.ownsRow_nil _ _ _ _, fun i hi => by rw [Nat.zero_mul] at hi; omega⟩
theorem RowI.congr {w : World} {base : Nat} {e : TypeId} {s : Nat} {v : Value} {n : Nat} {F F' : Nat → Int} (h : RowI w base e s v n F) (he : ∀ i, i < n * s → F i = F' i) : RowI w base e s v n F' := by
  obtain ⟨xs, h1, h2⟩ := h
  exact ⟨xs, h1, fun i hi => by rw [h2 i hi, he i hi]⟩
/-- what an append makes of it -/
theorem RowI.push {w : World} {base : Nat} {e : TypeId} {s : Nat} {v : Value} {n : Nat} {F F' : Nat → Int} {xs news : List Value} (h : w.ownsRow base e s v (n + 1) (xs ++ news)) (hl : xs.length = n * s)
    (hx : ∀ i, i < n * s → xs[i]? = some (.int .i64 (F i))) (hn : ∀ j, j < s → news[j]? = some (.int .i64 (F' (n * s + j)))) (hF : ∀ i, i < n * s → F i = F' i) : RowI w base e s v (n + 1) F' := by
  refine ⟨_, h, fun i hi => ?_⟩
  rw [Nat.succ_mul] at hi
  by_cases h1 : i < n * s
  · rw [List.getElem?_append_left (by omega), hx i h1, hF i h1]
  · rw [List.getElem?_append_right (by omega), hl, hn (i - n * s) (by omega)]
    congr 3
    omega
/-- where it lies, once it is not empty -/
theorem RowI.at {w : World} {base : Nat} {e : TypeId} {s : Nat} {v : Value} {n : Nat} {F : Nat → Int} (h : RowI w base e s v n F) (hn : 0 < n) :
    ∃ g cap, v = .slice (some ⟨g, 0, none⟩) n cap ∧ base ≤ g ∧ g < w.heap.size ∧ n ≤ cap ∧ cap ≤ maxLen ∧ (∀ i, w.frozen? ⟨g, i, none⟩ = false) ∧ ∀ i, i < n * s → w.cell? ⟨g, i, none⟩ = some (.int .i64 (F i)) := by
  obtain ⟨xs, ⟨hl, h⟩, h2⟩ := h
  rcases h with ⟨_, h0⟩ | ⟨g, cap, cur, hv, hg, hh, hnc, hcm, hcs, ht⟩
  · omega
  · refine ⟨g, cap, hv, hg, (Array.getElem?_eq_some_iff.1 hh).1, hnc, hcm, fun i => by simp [World.frozen?, hh], fun i hi => ?_⟩
    have h1 := h2 i hi
    rw [← ht, List.getElem?_take_of_lt (by omega)] at h1
    have h3 : cur[i]? = some (.int .i64 (F i)) := by simpa using h1
    simp [World.cell?, hh, h3]
/-- a row that is a value of a slice: its length is n, whatever it is -/
theorem RowI.slice {w : World} {base : Nat} {e : TypeId} {s : Nat} {v : Value} {n : Nat} {F : Nat → Int} (h : RowI w base e s v n F) : ∃ a cap, v = .slice a n cap ∧ n ≤ cap ∧ cap ≤ maxLen := by
  obtain ⟨xs, ⟨hl, h⟩, h2⟩ := h
  rcases h with ⟨hv, h0⟩ | ⟨g, cap, cur, hv, hg, hh, hnc, hcm, hcs, ht⟩
  · exact ⟨none, 0, by rw [hv, h0], by omega, by unfold maxLen; omega⟩
  · exact ⟨_, cap, hv, hnc, hcm⟩
/-- the same row in a world whose block of it is the same -/
theorem RowI.block {w w' : World} {base : Nat} {e : TypeId} {s : Nat} {v : Value} {n : Nat} {F : Nat → Int} (h : RowI w base e s v n F) (hb : ∀ k, v.ownBlock = some k → w'.heap[k]? = w.heap[k]?) : RowI w' base e s v n F := by
  obtain ⟨xs, ⟨hl, h⟩, h2⟩ := h
  refine ⟨xs, ⟨hl, ?_⟩, h2⟩
  rcases h with h | ⟨g, cap, cur, hv, hg, hh, r⟩
  · exact .inl h
  · refine .inr ⟨g, cap, cur, hv, hg, ?_, r⟩
    rw [hb g (by rw [hv]; rfl)]
    exact hh
theorem RowI.below {w w' : World} {base B : Nat} {e : TypeId} {s : Nat} {v : Value} {n : Nat} {F : Nat → Int} (h : RowI w base e s v n F) (hb : Below B w w') (hB : w.heap.size ≤ B) : RowI w' base e s v n F := by
  refine h.block fun k hk => hb.block k ?_
  obtain ⟨xs, ⟨hl, h⟩, h2⟩ := h
  rcases h with ⟨h, _⟩ | ⟨g, cap, cur, hv, hg, hh, r⟩
  · rw [h] at hk; cases hk
  · rw [hv] at hk
    simp [Value.ownBlock] at hk
    subst hk
    have := (Array.getElem?_eq_some_iff.1 hh).1
    omega
theorem RowI.alloc {w : World} {base : Nat} {e : TypeId} {s : Nat} {v : Value} {n : Nat} {F : Nat → Int} (h : RowI w base e s v n F) (o : Obj) : RowI (w.alloc o) base e s v n F :=
  h.below ((Below.refl _ _).alloc (Nat.le_refl _) o) (Nat.le_refl _)
theorem RowI.drew {w : World} {base : Nat} {e : TypeId} {s : Nat} {v : Value} {n : Nat} {F : Nat → Int} (h : RowI w base e s v n F) : RowI w.drew base e s v n F := h.block fun _ _ => rfl
theorem RowI.drewN {w : World} {base : Nat} {e : TypeId} {s : Nat} {v : Value} {n : Nat} {F : Nat → Int} (h : RowI w base e s v n F) (k : Nat) : RowI (w.drewN k) base e s v n F := h.block fun _ _ => rfl
theorem RowI.mono {w : World} {base base' : Nat} {e : TypeId} {s : Nat} {v : Value} {n : Nat} {F : Nat → Int} (h : RowI w base e s v n F) (hb : base' ≤ base) : RowI w base' e s v n F := by
  obtain ⟨xs, ⟨hl, h⟩, h2⟩ := h
  refine ⟨xs, ⟨hl, ?_⟩, h2⟩
  rcases h with h | ⟨g, cap, cur, hv, hg, r⟩
  · exact .inl h
  · exact .inr ⟨g, cap, cur, hv, by omega, r⟩
theorem RowI.ge {w : World} {base : Nat} {e : TypeId} {s : Nat} {v : Value} {n : Nat} {F : Nat → Int} (h : RowI w base e s v n F) : ∀ k, v.ownBlock = some k → base ≤ k := by
  obtain ⟨xs, h, _⟩ := h
  exact ownBlock_ge h
/-- a write into another block -/
theorem RowI.other {w : World} {base : Nat} {e : TypeId} {s : Nat} {v : Value} {n : Nat} {F : Nat → Int} (h : RowI w base e s v n F) {a : Addr} (ha : v.ownBlock ≠ some a.block) (u : Value) : RowI (w.setCell a u) base e s v n F :=
  h.block fun k hk => Below.heap_setCell _ _ _ _ (by rintro rfl; exact ha hk)
/-- a write into the row -/
theorem RowI.set {w : World} {base : Nat} {e : TypeId} {s : Nat} {g n cap : Nat} {F : Nat → Int} (h : RowI w base e s (.slice (some ⟨g, 0, none⟩) n cap) n F) (i : Nat) (hi : i < n * s) (x : Int) :
    RowI (w.setCell ⟨g, i, none⟩ (.int .i64 x)) base e s (.slice (some ⟨g, 0, none⟩) n cap) n (upd F i x) := by
  obtain ⟨xs, ⟨hl, h⟩, h2⟩ := h
  rcases h with ⟨hv, h0⟩ | ⟨g', cap', cur, hv, hg, hh, hnc, hcm, hcs, ht⟩
  · cases hv
  · cases hv
    refine ⟨xs.set i (.int .i64 x), ⟨by simpa using hl, .inr ⟨g, cap, cur.setIfInBounds i (.int .i64 x), rfl, hg, ?_, hnc, hcm, by simpa using hcs, ?_⟩⟩, fun j hj => ?_⟩
    · simp only [World.setCell, Array.getElem?_modify, hh, Option.map_some]
      simp
    · rw [Array.toList_setIfInBounds, List.take_set, ht]
    · unfold upd
      by_cases hij : j = i
      · subst hij
        rw [if_pos rfl, List.getElem?_set_self (by omega)]
      · rw [if_neg hij, List.getElem?_set_ne (by omega)]
        exact h2 j hj
/-- All that was there is as it was, except for the block R and the block of the row v. -/
structure Aside (R : Nat) (v : Value) (w w' : World) : Prop where
  os : w'.os = w.os
  tape : w'.tape = w.tape
  output : w'.output = w.output
  size : w.heap.size ≤ w'.heap.size
  block : ∀ k, k < w.heap.size → k ≠ R → v.ownBlock ≠ some k → w'.heap[k]? = w.heap[k]?
theorem Aside.refl (R : Nat) (v : Value) (w : World) : Aside R v w w := ⟨rfl, rfl, rfl, Nat.le_refl _, fun _ _ _ _ => rfl⟩
theorem Aside.trans {R : Nat} {v : Value} {a b c : World} (h : Aside R v a b) (k : Aside R v b c) : Aside R v a c :=
  ⟨k.os.trans h.os, k.tape.trans h.tape, k.output.trans h.output, Nat.le_trans h.size k.size, fun i hi h1 h2 => (k.block i (Nat.lt_of_lt_of_le hi h.size) h1 h2).trans (h.block i hi h1 h2)⟩
theorem Aside.drew {R : Nat} {v : Value} {a w : World} (h : Aside R v a w) : Aside R v a w.drew := ⟨h.os, h.tape, h.output, h.size, h.block⟩
theorem Aside.drewN {R : Nat} {v : Value} {a w : World} (h : Aside R v a w) (n : Nat) : Aside R v a (w.drewN n) := ⟨h.os, h.tape, h.output, h.size, h.block⟩
theorem Aside.alloc {R : Nat} {v : Value} {a w : World} (h : Aside R v a w) (o : Obj) : Aside R v a (w.alloc o) :=
  h.trans ⟨rfl, rfl, rfl, by simp, fun k hk _ _ => Below.heap_alloc _ _ _ hk⟩
theorem Aside.setR {R : Nat} {v : Value} {a w : World} (h : Aside R v a w) (i : Nat) (u : Value) : Aside R v a (w.setCell ⟨R, i, none⟩ u) :=
  h.trans ⟨rfl, rfl, rfl, by simp [World.setCell], fun k _ hk _ => Below.heap_setCell _ _ _ _ hk⟩
theorem Aside.setRow {R : Nat} {a0 : Addr} {n c : Nat} {a w : World} (h : Aside R (.slice (some a0) n c) a w) {p : Addr} (hp : p.block = a0.block) (u : Value) : Aside R (.slice (some a0) n c) a (w.setCell p u) :=
  h.trans ⟨rfl, rfl, rfl, by simp [World.setCell], fun k _ _ hk => Below.heap_setCell _ _ _ _ (fun e => hk (by simp [Value.ownBlock, e, hp]))⟩
theorem Aside.cell {R : Nat} {v : Value} {w w' : World} (h : Aside R v w w') {p : Addr} (hp : p.block < w.heap.size) (h1 : p.block ≠ R) (h2 : v.ownBlock ≠ some p.block) : w'.cell? p = w.cell? p :=
  World.cell?_of_block (w := w) (h.block p.block hp h1 h2)
theorem Aside.below {R B : Nat} {v : Value} {w w' : World} (h : Aside R v w w') (hB : B ≤ w.heap.size) (h1 : B ≤ R) (h2 : ∀ k, v.ownBlock = some k → B ≤ k) : Below B w w' :=
  ⟨h.os, h.tape, h.output, h.size, fun k hk => h.block k (by omega) (by omega) (fun e => by have := h2 k e; omega)⟩
/-- an append: the row's block may be left for a new one -/
theorem Aside.grown {R : Nat} {v : Value} {a w w' : World} (h : Aside R v a w) (hg : w.grownBy w' v.ownBlock) : Aside R v a w' :=
  h.trans ⟨hg.os, hg.tape, hg.output, hg.size, fun k hk _ h2 => hg.block k hk (fun e => h2 e.symm)⟩
def Blk (w : World) (g : Nat) (cs : Array Value) (e : TypeId) : Prop := w.heap[g]? = some (.cells cs e (0, 0))
section
variable {w w' : World} {g : Nat} {cs : Array Value} {e : TypeId}
theorem Blk.cell (h : Blk w g cs e) {i : Nat} {v : Value} (hi : cs[i]? = some v) : w.cell? ⟨g, i, none⟩ = some v := by
  unfold Blk at h
  simp [World.cell?, h, hi]
theorem Blk.frozen (h : Blk w g cs e) (i : Nat) : w.frozen? ⟨g, i, none⟩ = false := by
  unfold Blk at h
  simp [World.frozen?, h]
theorem Blk.lt (h : Blk w g cs e) : g < w.heap.size := (Array.getElem?_eq_some_iff.1 h).1
theorem Blk.set (h : Blk w g cs e) (i : Nat) (v : Value) : Blk (w.setCell ⟨g, i, none⟩ v) g (cs.setIfInBounds i v) e := by
  unfold Blk at h ⊢
  simp only [World.setCell, Array.getElem?_modify, h, Option.map_some]
  simp
theorem Blk.block (h : Blk w g cs e) (hb : w'.heap[g]? = w.heap[g]?) : Blk w' g cs e := by
  unfold Blk at h ⊢
  rw [hb]; exact h
theorem Blk.alloc (h : Blk w g cs e) (o : Obj) : Blk (w.alloc o) g cs e := h.block (Below.heap_alloc _ _ _ h.lt)
theorem Blk.drew (h : Blk w g cs e) : Blk w.drew g cs e := h.block rfl
theorem Blk.drewN (h : Blk w g cs e) (k : Nat) : Blk (w.drewN k) g cs e := h.block rfl
theorem Blk.other (h : Blk w g cs e) {a : Addr} (ha : g ≠ a.block) (u : Value) : Blk (w.setCell a u) g cs e := h.block (Below.heap_setCell _ _ _ _ ha)
theorem Blk.below (h : Blk w g cs e) {B : Nat} (hb : Below B w w') (hg : g < B) : Blk w' g cs e := h.block (hb.block g hg)
theorem Blk.new (w : World) (cs : Array Value) (e : TypeId) : Blk (w.alloc (.cells cs e)) w.heap.size cs e := by
  show (w.heap.push _)[_]? = _; simp
theorem Blk.aside (h : Blk w g cs e) {R : Nat} {v : Value} (ha : Aside R v w w') (h1 : g ≠ R) (h2 : v.ownBlock ≠ some g) : Blk w' g cs e := h.block (ha.block g h.lt h1 h2)
end
/-- all but the block g is as it was -/
abbrev Only (g : Nat) (w w' : World) : Prop := Aside g (.slice none 0 0) w w'
theorem Only.of_below {g B : Nat} {w w' : World} (h : Below B w w') (hB : w.heap.size ≤ B) : Only g w w' :=
  ⟨h.os, h.tape, h.output, h.size, fun k hk _ _ => h.block k (by omega)⟩
theorem Only.more {g B : Nat} {w w1 w' : World} (h : Only g w w1) (hb : Below B w1 w') (hB : w1.heap.size ≤ B) : Only g w w' := Aside.trans h (Only.of_below hb hB)
theorem Only.to_below {g B : Nat} {w w' : World} (h : Only g w w') (hB : B ≤ w.heap.size) (hg : B ≤ g) : Below B w w' := Aside.below h hB hg (fun k hk => by simp [Value.ownBlock] at hk)
theorem Only.set {g : Nat} {w w' : World} (h : Only g w w') (i : Nat) (u : Value) : Only g w (w'.setCell ⟨g, i, none⟩ u) := Aside.setR h i u
theorem Only.cell {g : Nat} {w w' : World} (h : Only g w w') {p : Addr} (hp : p.block < w.heap.size) (h1 : p.block ≠ g) : w'.cell? p = w.cell? p := Aside.cell h hp h1 (by simp [Value.ownBlock])
/-- what a reading of cells needs -/
theorem IntsF.only {w w' : World} {g : Nat} {a : Option Addr} {n : Nat} {f : Nat → Int} (h : IntsF w a n f) (ho : Only g w w') (hg : ∀ b off, a = some ⟨b, off, none⟩ → b ≠ g) : IntsF w' a n f := by
  intro hn
  obtain ⟨b, off, rfl, hh⟩ := h hn
  exact ⟨b, off, rfl, fun i hi => (ho.cell (lt_of_cell (hh i hi)) (hg _ _ rfl)).trans (hh i hi)⟩
-- rows as lists
abbrev RowL (w : World) (base : Nat) (e : TypeId) (s : Nat) (v : Value) (n : Nat) (xs : List Value) : Prop := w.ownsRow base e s v n xs
section
variable {w w' : World} {base : Nat} {e : TypeId} {s : Nat} {v : Value} {n : Nat} {xs : List Value}
theorem RowL.len (h : RowL w base e s v n xs) : xs.length = n * s := h.1
theorem RowL.slice (h : RowL w base e s v n xs) : ∃ a cap, v = .slice a n cap ∧ n ≤ cap ∧ cap ≤ maxLen := by
  obtain ⟨hl, ⟨hv, h0⟩ | ⟨g, cap, cur, hv, hg, hh, hnc, hcm, hcs, ht⟩⟩ := h
  · exact ⟨none, 0, by rw [hv, h0], by omega, by unfold maxLen; omega⟩
  · exact ⟨_, cap, hv, hnc, hcm⟩
theorem RowL.at (h : RowL w base e s v n xs) (hn : 0 < n) :
    ∃ g cap, v = .slice (some ⟨g, 0, none⟩) n cap ∧ base ≤ g ∧ g < w.heap.size ∧ n ≤ cap ∧ cap ≤ maxLen ∧ (∀ i, w.frozen? ⟨g, i, none⟩ = false) ∧ ∀ i u, xs[i]? = some u → w.cell? ⟨g, i, none⟩ = some u := by
  obtain ⟨hl, h⟩ := h
  rcases h with ⟨_, h0⟩ | ⟨g, cap, cur, hv, hg, hh, hnc, hcm, hcs, ht⟩
  · omega
  · refine ⟨g, cap, hv, hg, (Array.getElem?_eq_some_iff.1 hh).1, hnc, hcm, fun i => by simp [World.frozen?, hh], fun i u hi => ?_⟩
    have hlt : i < xs.length := (List.getElem?_eq_some_iff.1 hi).1
    rw [← ht, List.getElem?_take_of_lt (by omega)] at hi
    have h3 : cur[i]? = some u := by simpa using hi
    simp [World.cell?, hh, h3]
theorem RowL.block (h : RowL w base e s v n xs) (hb : ∀ k, v.ownBlock = some k → w'.heap[k]? = w.heap[k]?) : RowL w' base e s v n xs := by
  obtain ⟨hl, h⟩ := h
  refine ⟨hl, ?_⟩
  rcases h with h | ⟨g, cap, cur, hv, hg, hh, r⟩
  · exact .inl h
  · refine .inr ⟨g, cap, cur, hv, hg, ?_, r⟩
    rw [hb g (by rw [hv]; rfl)]
    exact hh
theorem RowL.blk_lt (h : RowL w base e s v n xs) : ∀ k, v.ownBlock = some k → k < w.heap.size := by
  intro k hk
  obtain ⟨_, ⟨rfl, _⟩ | ⟨g, cap, cur, rfl, hg, hh, _⟩⟩ := h
  · cases hk
  · simp [Value.ownBlock] at hk
    subst hk
    exact (Array.getElem?_eq_some_iff.1 hh).1
theorem RowL.ge (h : RowL w base e s v n xs) : ∀ k, v.ownBlock = some k → base ≤ k := ownBlock_ge h
theorem RowL.below {B : Nat} (h : RowL w base e s v n xs) (hb : Below B w w') (hB : w.heap.size ≤ B) : RowL w' base e s v n xs :=
  h.block fun k hk => hb.block k (by have := h.blk_lt k hk; omega)
theorem RowL.alloc (h : RowL w base e s v n xs) (o : Obj) : RowL (w.alloc o) base e s v n xs := h.below ((Below.refl _ _).alloc (Nat.le_refl _) o) (Nat.le_refl _)
theorem RowL.drew (h : RowL w base e s v n xs) : RowL w.drew base e s v n xs := h.block fun _ _ => rfl
theorem RowL.drewN (h : RowL w base e s v n xs) (k : Nat) : RowL (w.drewN k) base e s v n xs := h.block fun _ _ => rfl
theorem RowL.mono {base' : Nat} (h : RowL w base e s v n xs) (hb : base' ≤ base) : RowL w base' e s v n xs := by
  obtain ⟨hl, h⟩ := h
  refine ⟨hl, ?_⟩
  rcases h with h | ⟨g, cap, cur, hv, hg, r⟩
  · exact .inl h
  · exact .inr ⟨g, cap, cur, hv, by omega, r⟩
theorem RowL.other (h : RowL w base e s v n xs) {a : Addr} (ha : v.ownBlock ≠ some a.block) (u : Value) : RowL (w.setCell a u) base e s v n xs :=
  h.block fun k hk => Below.heap_setCell _ _ _ _ (by rintro rfl; exact ha hk)
theorem RowL.only {g : Nat} (h : RowL w base e s v n xs) (ho : Only g w w') (hg : v.ownBlock ≠ some g) : RowL w' base e s v n xs :=
  h.block fun k hk => Aside.block ho k (h.blk_lt k hk) (by rintro rfl; exact hg hk) (by simp [Value.ownBlock])
theorem RowL.nil (w : World) (base : Nat) (e : TypeId) (s : Nat) : RowL w base e s (.slice none 0 0) 0 [] := World.ownsRow_nil _ _ _ _
/-- it reads as ints -/
theorem RowL.ints {k : IntKind} {L : List Int} (h : RowL w base e 1 v n (L.map (Value.int k))) (hk : k = .i64) : ∃ a cap, v = .slice a n cap ∧ n ≤ cap ∧ cap ≤ maxLen ∧ IntsF w a n (fun i => L.getD i 0) := by
  subst hk
  obtain ⟨a, cap, hv, h1, h2⟩ := h.slice
  refine ⟨a, cap, hv, h1, h2, fun hn => ?_⟩
  obtain ⟨g, cap', hv', _, _, _, _, _, hc⟩ := h.at hn
  rw [hv] at hv'
  obtain ⟨rfl, _⟩ : a = some ⟨g, 0, none⟩ ∧ cap = cap' := by cases hv'; exact ⟨rfl, rfl⟩
  refine ⟨g, 0, rfl, fun i hi => ?_⟩
  have hl := h.len
  simp at hl
  rw [Nat.zero_add]
  refine hc i _ ?_
  simp [List.getElem?_eq_getElem (show i < L.length by omega)]
end
def OwnB (w : World) (e : TypeId) (g : Nat) (n : Nat) (u : Nat → Bool) : Prop :=
  ∃ cur, w.heap[g]? = some (.cells cur e (0, 0)) ∧ n ≤ cur.size ∧ ∀ i, i < n → cur[i]? = some (.bool (u i))
theorem OwnB.cell {w : World} {e : TypeId} {g n : Nat} {u : Nat → Bool} (h : OwnB w e g n u) {i : Nat} (hi : i < n) : w.cell? ⟨g, i, none⟩ = some (.bool (u i)) := by
  obtain ⟨cur, hc, _, hf⟩ := h
  simp [World.cell?, hc, hf i hi]
theorem OwnB.frozen {w : World} {e : TypeId} {g n : Nat} {u : Nat → Bool} (h : OwnB w e g n u) (i : Nat) : w.frozen? ⟨g, i, none⟩ = false := by
  obtain ⟨cur, hc, _, _⟩ := h
  simp [World.frozen?, hc]
theorem OwnB.congr {w : World} {e : TypeId} {g n : Nat} {u u' : Nat → Bool} (h : OwnB w e g n u) (he : ∀ i, i < n → u i = u' i) : OwnB w e g n u' := by
  obtain ⟨cur, hc, hn, hf⟩ := h
  exact ⟨cur, hc, hn, fun i hi => by rw [← he i hi]; exact hf i hi⟩
theorem OwnB.lt {w : World} {e : TypeId} {g n : Nat} {u : Nat → Bool} (h : OwnB w e g n u) : g < w.heap.size := by
  obtain ⟨cur, hc, _⟩ := h
  exact (Array.getElem?_eq_some_iff.1 hc).1
theorem OwnB.block {w w' : World} {e : TypeId} {g n : Nat} {u : Nat → Bool} (h : OwnB w e g n u) (hb : w'.heap[g]? = w.heap[g]?) : OwnB w' e g n u := by
  obtain ⟨cur, hc, r⟩ := h
  exact ⟨cur, by rw [hb]; exact hc, r⟩
theorem OwnB.drewN {w : World} {e : TypeId} {g n : Nat} {u : Nat → Bool} (h : OwnB w e g n u) (k : Nat) : OwnB (w.drewN k) e g n u := h.block rfl
theorem OwnB.other {w : World} {e : TypeId} {g n : Nat} {u : Nat → Bool} (h : OwnB w e g n u) {a : Addr} (ha : g ≠ a.block) (x : Value) : OwnB (w.setCell a x) e g n u :=
  h.block (Below.heap_setCell _ _ _ _ ha)
theorem OwnB.set {w : World} {e : TypeId} {g n : Nat} {u : Nat → Bool} (h : OwnB w e g n u) (i : Nat) (x : Bool) : OwnB (w.setCell ⟨g, i, none⟩ (.bool x)) e g n (fun j => if j = i then x else u j) := by
  obtain ⟨cur, hc, hn, hf⟩ := h
  refine ⟨cur.setIfInBounds i (.bool x), ?_, by simpa using hn, fun j hj => ?_⟩
  · simp only [World.setCell, Array.getElem?_modify, hc, Option.map_some]
    simp
  · show _ = some (Value.bool (if j = i then x else u j))
    by_cases hij : j = i
    · subst hij
      rw [if_pos rfl, Array.getElem?_setIfInBounds_self_of_lt (by omega)]
    · rw [if_neg hij, Array.getElem?_setIfInBounds_ne (by omega)]
      exact hf j hj
theorem OwnB.make {w : World} (e : TypeId) (n : Nat) : OwnB (w.alloc (.cells (madeCells #[.bool false] n) e)) e w.heap.size n (fun _ => false) := by
  refine ⟨madeCells #[.bool false] n, by show (w.heap.push _)[_]? = _; simp, by rw [size_madeCells]; omega, fun i hi => ?_⟩
  have h1 : i % 1 = 0 := by omega
  simp [madeCells, hi, h1]
end Go.Law
