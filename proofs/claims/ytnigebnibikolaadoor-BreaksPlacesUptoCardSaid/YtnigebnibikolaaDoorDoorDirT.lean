/-
  The reference's table of directions, and what two tables of ranges have in common.
-/
import Derived.Test.YtnigebnibikolaaDoorDoorTabs
namespace Go.Law
def dirAT : List (List Int) := [[9, 9, 11], [10, 10, 10], [0, 31, 9], [32, 32, 12], [35, 37, 5], [43, 43, 4], [45, 45, 4], [44, 44, 7], [46, 47, 7], [58, 58, 7], [48, 57, 3], [33, 64, 13], [91, 96, 13], [123, 126, 13], [127, 159, 9], [160, 160, 7], [162, 165, 5], [173, 173, 9], [176, 177, 5]]
def dirST : List (List Int) := [[170, 170, 0], [181, 181, 0], [186, 186, 0], [161, 191, 13], [215, 215, 13], [247, 247, 13], [768, 879, 8], [1425, 1469, 8], [1471, 1471, 8], [1473, 1473, 8], [1474, 1474, 8], [1552, 1562, 8], [1611, 1631, 8], [65024, 65039, 8], [1424, 1535, 1], [1984, 2143, 1], [8207, 8207, 1], [64285, 64335, 1], [1632, 1641, 6], [1643, 1643, 6], [1644, 1644, 6], [1776, 1785, 3], [1536, 1983, 2], [2144, 2303, 2], [64336, 65023, 2], [65136, 65278, 2], [8192, 8202, 12], [12288, 12288, 12], [8203, 8205, 9], [8288, 8293, 9], [65279, 65279, 9], [8234, 8234, 14], [8235, 8235, 15], [8236, 8236, 18], [8237, 8237, 16], [8238, 8238, 17], [8239, 8239, 7], [8294, 8294, 19], [8295, 8295, 20], [8296, 8296, 21], [8297, 8297, 22], [8352, 8399, 5], [8208, 8287, 13], [8592, 11263, 13], [12289, 12292, 13], [12296, 12320, 13], [65529, 65533, 13]]
def edgesL : List Int := [9, 10, 32, 33, 48, 57, 65, 90, 97, 122, 126, 127, 159, 160, 173, 192, 222, 223, 591, 768, 879, 880, 1327, 1424, 1471, 1535, 1536, 1552, 1632, 1776, 1983, 1984, 2143, 2144, 2303, 4352, 4447, 8192, 8202, 8203, 8207, 8208, 8212, 8234, 8239, 8287, 8288, 8297, 8352, 8592, 11263, 11904, 12288, 12296, 12320, 42191, 44032, 55203, 63744, 64255, 64285, 64336, 65023, 65024, 65136, 65279, 65280, 65376, 65529, 65532, 131072, 262141]
def pairsL : List Int := [40, 41, 91, 93, 123, 125, 12300, 12301, 60, 62, 171, 187, 8249, 8250]
/-- the class of the first row that holds c -/
def lookR (c : Int) : List (List Int) → Int
  | [] => 0
  | r :: t => if c < r.getD 0 0 ∨ r.getD 1 0 < c then lookR c t else r.getD 2 0
theorem lookR_append (c : Int) : ∀ (S T : List (List Int)), (∀ i, i < S.length → hit S c i = false) → lookR c (S ++ T) = lookR c T
  | [], T, _ => rfl
  | r :: S, T, h => by
    have h0 := h 0 (by simp)
    have h0' : c < r.getD 0 0 ∨ r.getD 1 0 < c := by
      simp only [hit, ent, List.getD_cons_zero, decide_eq_false_iff_not] at h0; omega
    show (if _ then _ else _) = _
    rw [if_pos h0']
    exact lookR_append c S T fun i hi => by
      have := h (i + 1) (by simpa using hi)
      simpa [hit, ent] using this
theorem lookR_hit (c : Int) : ∀ (S : List (List Int)) (k : Nat), k < S.length → (∀ i, i < k → hit S c i = false) → hit S c k = true → lookR c S = ent S k 2
  | r :: S, 0, _, _, hk => by
    have h0' : ¬ (c < r.getD 0 0 ∨ r.getD 1 0 < c) := by
      simp only [hit, ent, List.getD_cons_zero, decide_eq_true_eq] at hk; omega
    show (if _ then _ else _) = _
    rw [if_neg h0']; rfl
  | r :: S, k + 1, hl, hn, hk => by
    have h0 := hn 0 (by omega)
    have h0' : c < r.getD 0 0 ∨ r.getD 1 0 < c := by
      simp only [hit, ent, List.getD_cons_zero, decide_eq_false_iff_not] at h0; omega
    show (if _ then _ else _) = _
    rw [if_pos h0']
    rw [lookR_hit c S k (by simpa using hl) (fun i hi => by simpa [hit, ent] using hn (i + 1) (by omega)) (by simpa [hit, ent] using hk)]
    simp [ent]
theorem lookR_hit_append (c : Int) (S T : List (List Int)) (k : Nat) (hk : k < S.length) (hn : ∀ i, i < k → hit S c i = false) (hh : hit S c k = true) : lookR c (S ++ T) = ent S k 2 := by
  have e : ∀ i, i < S.length → hit (S ++ T) c i = hit S c i := fun i hi => by simp [hit, ent, List.getElem?_append_left hi]
  rw [lookR_hit c (S ++ T) k (by simp; omega) (fun i hi => by rw [e i (by omega)]; exact hn i hi) (by rw [e k hk]; exact hh)]
  simp [ent, List.getElem?_append_left hk]
/-- c and p lie alike to every row -/
theorem lookR_alike (c p : Int) : ∀ (S : List (List Int)), (∀ r ∈ S, (c < r.getD 0 0 ∨ r.getD 1 0 < c) ↔ (p < r.getD 0 0 ∨ r.getD 1 0 < p)) → lookR c S = lookR p S
  | [], _ => rfl
  | r :: S, h => by
    have h0 := h r (by simp)
    have ih := lookR_alike c p S fun r' hr => h r' (by simp [hr])
    show (if _ then _ else _) = (if _ then _ else _)
    by_cases h1 : c < r.getD 0 0 ∨ r.getD 1 0 < c
    · rw [if_pos h1, if_pos (h0.1 h1), ih]
    · rw [if_neg h1, if_neg fun h2 => h1 (h0.2 h2)]
def breaks (S : List (List Int)) : List Int := S.flatMap fun r => [r.getD 0 0, r.getD 1 0 + 1]
theorem greatest_below (c : Int) : ∀ (l : List Int), (∃ x ∈ l, x ≤ c) → ∃ p ∈ l, p ≤ c ∧ ∀ x ∈ l, x ≤ c → x ≤ p
  | [], ⟨x, hx, _⟩ => by cases hx
  | y :: l, h => by
    by_cases hl : ∃ x ∈ l, x ≤ c
    · obtain ⟨p, hp, hpc, hm⟩ := greatest_below c l hl
      by_cases hy : y ≤ c ∧ p < y
      · exact ⟨y, by simp, hy.1, fun x hx hxc => by rcases List.mem_cons.1 hx with rfl | hx; omega; have := hm x hx hxc; omega⟩
      · exact ⟨p, by simp [hp], hpc, fun x hx hxc => by rcases List.mem_cons.1 hx with rfl | hx; omega; exact hm x hx hxc⟩
    · obtain ⟨x, hx, hxc⟩ := h
      rcases List.mem_cons.1 hx with rfl | hx'
      · exact ⟨x, by simp, hxc, fun z hz hzc => by rcases List.mem_cons.1 hz with rfl | hz; omega; exact absurd ⟨z, hz, hzc⟩ hl⟩
      · exact absurd ⟨x, hx', hxc⟩ hl
theorem lookR_break (c p : Int) (S : List (List Int)) (hpc : p ≤ c) (hm : ∀ x ∈ breaks S, x ≤ c → x ≤ p) : lookR c S = lookR p S :=
  lookR_alike c p S fun r hr => by
    have h1 := hm (r.getD 0 0) (by unfold breaks; simp only [List.mem_flatMap]; exact ⟨r, hr, by simp⟩)
    have h2 := hm (r.getD 1 0 + 1) (by unfold breaks; simp only [List.mem_flatMap]; exact ⟨r, hr, by simp⟩)
    omega
theorem lookR_low (c : Int) : ∀ (S : List (List Int)), (∀ r ∈ S, c < r.getD 0 0) → lookR c S = 0
  | [], _ => rfl
  | r :: S, h => by
    show (if _ then _ else _) = _
    rw [if_pos (.inl (h r (by simp)))]
    exact lookR_low c S fun r' hr => h r' (by simp [hr])
/-- Two tables that agree where ranges begin and end agree everywhere. -/
theorem lookR_same (S T : List (List Int)) (h : ((breaks S ++ breaks T).all fun p => lookR p S == lookR p T) = true) (c : Int) : lookR c S = lookR c T := by
  by_cases hx : ∃ x ∈ breaks S ++ breaks T, x ≤ c
  · obtain ⟨p, hp, hpc, hm⟩ := greatest_below c _ hx
    rw [lookR_break c p S hpc fun x hx => hm x (by simp [hx]), lookR_break c p T hpc fun x hx => hm x (by simp [hx])]
    simpa using List.all_eq_true.1 h p hp
  · have low : ∀ U : List (List Int), (∀ x ∈ breaks U, ¬ x ≤ c) → lookR c U = 0 := fun U hU => lookR_low c U fun r hr => by
      have := hU (r.getD 0 0) (by unfold breaks; simp only [List.mem_flatMap]; exact ⟨r, hr, by simp⟩)
      omega
    rw [low S fun x h1 h2 => hx ⟨x, by simp [h1], h2⟩, low T fun x h1 h2 => hx ⟨x, by simp [h1], h2⟩]
theorem tables_same (c : Int) : lookR c tableT = lookR c (dirAT ++ dirST) := lookR_same _ _ (by decide +kernel) c
end Go.Law
