/-
  The program's tables, as the row lists them.
-/
import Derived.Test.YtnigebnibikolaaDoorLaidRows
import Derived.Test.YtnigebnibikolaaDoorCommon
import Derived.Test.YtnigebnibikolaaDoorReads
namespace Go.Law
open Go.RowKit
def casesT : List (List Int) := [[65, 90, 32], [192, 214, 32], [216, 222, 32], [913, 929, 32], [931, 937, 32], [1024, 1039, 80], [1040, 1071, 32]]
def lettersT : List (List Int) := [[48, 57], [65, 90], [95, 95], [97, 122], [192, 591], [880, 1535]]
def tableT : List (List Int) := [[9, 9, 11], [10, 10, 10], [0, 31, 9], [32, 32, 12], [35, 37, 5], [43, 43, 4], [45, 45, 4], [44, 44, 7], [46, 47, 7], [58, 58, 7], [48, 57, 3], [33, 64, 13], [91, 96, 13], [123, 126, 13], [127, 159, 9], [160, 160, 7], [162, 165, 5], [173, 173, 9], [176, 177, 5], [170, 170, 0], [181, 181, 0], [186, 186, 0], [161, 191, 13], [215, 215, 13], [247, 247, 13], [768, 879, 8], [1425, 1469, 8], [1471, 1471, 8], [1473, 1474, 8], [1424, 1535, 1], [1552, 1562, 8], [1611, 1631, 8], [1632, 1641, 6], [1643, 1644, 6], [1776, 1785, 3], [1536, 1983, 2], [1984, 2143, 1], [2144, 2303, 2], [8192, 8202, 12], [8203, 8205, 9], [8206, 8206, 0], [8207, 8207, 1], [8234, 8234, 14], [8235, 8235, 15], [8236, 8236, 18], [8237, 8237, 16], [8238, 8238, 17], [8239, 8239, 7], [8288, 8293, 9], [8294, 8294, 19], [8295, 8295, 20], [8296, 8296, 21], [8297, 8297, 22], [8352, 8399, 5], [8208, 8287, 13], [8592, 11263, 13], [12288, 12288, 12], [12289, 12292, 13], [12296, 12320, 13], [64285, 64335, 1], [64336, 65023, 2], [65024, 65039, 8], [65136, 65278, 2], [65279, 65279, 9], [65529, 65533, 13]]
def bracketsT : List (List Int) := [[40, 41], [91, 93], [123, 125], [12300, 12301], [60, 62], [171, 187], [8249, 8250]]

/-- entry j of row i -/
def ent (T : List (List Int)) (i j : Nat) : Int := (T.getD i []).getD j 0
def hit (T : List (List Int)) (c : Int) (i : Nat) : Bool := decide (ent T i 0 ≤ c ∧ c ≤ ent T i 1)
/-- the first row whose range holds c -/
def findR (T : List (List Int)) (c : Int) : Option Nat := (List.range T.length).find? (hit T c)
theorem findR_some {T : List (List Int)} {c : Int} {k : Nat} (hk : k < T.length) (hn : ∀ j, j < k → hit T c j = false) (hh : hit T c k = true) : findR T c = some k := by
  unfold findR
  rw [List.find?_eq_some_iff_getElem]
  refine ⟨hh, k, by simpa using hk, by simp, fun j hj => by simp [hn j hj]⟩
theorem findR_none {T : List (List Int)} {c : Int} (hn : ∀ j, j < T.length → hit T c j = false) : findR T c = none := by
  unfold findR
  rw [List.find?_eq_none]
  intro x hx
  simp [hn x (by simpa using hx)]
/-- the rows of a table, entry by entry -/
theorem TabAt.ents {w : World} {g k : Nat} {T : List (List Int)} (h : TabAt w g k T) (hk : ∀ r ∈ T, r.length = k) :
    ∃ b off cap, w.cell? ⟨g, 0, none⟩ = some (.slice (some ⟨b, off, none⟩) T.length cap) ∧ ∀ i j, i < T.length → j < k → w.cell? ⟨b, off + i * k + j, none⟩ = some (.int .i64 (ent T i j)) := by
  obtain ⟨b, off, cap, h1, h2⟩ := h
  refine ⟨b, off, cap, h1, fun i j hi hj => ?_⟩
  have hr : T[i]? = some T[i] := List.getElem?_eq_getElem hi
  have hl := hk T[i] (List.getElem_mem _)
  have := h2 i T[i] hr hl j (T[i].getD j 0) (by rw [List.getElem?_eq_getElem (by omega)]; simp [List.getElem?_eq_getElem (show j < T[i].length by omega)])
  rw [this]
  unfold ent
  simp [hi]
theorem TabAt.below {W w : World} {B g k : Nat} {T : List (List Int)} (h : TabAt W g k T) (hk : ∀ r ∈ T, r.length = k) (hk0 : 0 < k) (hne : T ≠ []) (hB : W.heap.size ≤ B) (hb : Below B W w) : TabAt w g k T := by
  obtain ⟨b, off, cap, h1, h2⟩ := h
  have hg : g < W.heap.size := lt_of_cell h1
  have hbl : b < W.heap.size := by
    cases T with
    | nil => exact absurd rfl hne
    | cons r T =>
      have hl := hk r (by simp)
      exact lt_of_cell (h2 0 r rfl hl 0 (r.getD 0 0) (by rw [List.getElem?_eq_getElem (by omega)]; simp [List.getElem?_eq_getElem (show 0 < r.length by omega)]))
  refine ⟨b, off, cap, by rw [hb.cell (show g < B by omega)]; exact h1, fun i r hi hl j z hj => ?_⟩
  rw [hb.cell (show b < B by omega)]
  exact h2 i r hi hl j z hj
end Go.Law
