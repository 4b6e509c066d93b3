/-
  The row of states under the library's sort: how it lies, before and behind.
-/
import Derived.Shelf.SlSortCmp.InsertionK
import Derived.Test.YthddbinbeinafaaRowV
namespace Go.Law.Tl
open Go.Law Go.RowKit
set_option linter.unusedVariables false
abbrev St4 := { p : Int × Int × Int × Int // 0 ≤ p.1 ∧ p.1 ≤ 1073741824 }
instance : Inhabited St4 := ⟨⟨(0, 0, 0, 0), by decide⟩⟩
def mk4 (i s x y : Int) : St4 := if h : 0 ≤ i ∧ i ≤ 1073741824 then ⟨(i, s, x, y), h⟩ else default
def enc4 (x : St4) : List Value := [.int .i64 x.1.1, .int .i64 x.1.2.1, .int .i64 x.1.2.2.1, .int .i64 x.1.2.2.2]
def cf4 (x y : St4) : Int := x.1.1 - y.1.1
theorem enc4_len (x : St4) : (enc4 x).length = 4 := rfl
theorem enc4_one (x : St4) : ∀ v ∈ enc4 x, v.oneCell' = true := by
  intro v hv
  simp only [enc4, List.mem_cons, List.not_mem_nil, or_false] at hv
  rcases hv with rfl | rfl | rfl | rfl <;> rfl
theorem mk4_enc {i s x y : Int} (h : 0 ≤ i ∧ i ≤ 1073741824) : enc4 (mk4 i s x y) = [.int .i64 i, .int .i64 s, .int .i64 x, .int .i64 y] := by
  unfold mk4; rw [dif_pos h]; rfl
theorem mk4_item {i s x y : Int} (h : 0 ≤ i ∧ i ≤ 1073741824) : (mk4 i s x y).1 = (i, s, x, y) := by
  unfold mk4; rw [dif_pos h]
theorem swo4 : Go.Sort.SWO (Go.Proofs.ltOf cf4) := by
  refine ⟨fun x => ?_, fun x y z h1 h2 => ?_, fun x y z h1 h2 => ?_⟩
  · simp [Go.Proofs.ltOf, cf4]
  · have e1 := of_decide_eq_true (show decide (cf4 x y < 0) = true from h1)
    have e2 := of_decide_eq_true (show decide (cf4 y z < 0) = true from h2)
    refine decide_eq_true ?_
    unfold cf4 at *
    omega
  · have e1 := of_decide_eq_false (show decide (cf4 x y < 0) = false from h1)
    have e2 := of_decide_eq_false (show decide (cf4 y z < 0) = false from h2)
    refine decide_eq_false ?_
    unfold cf4 at *
    omega
/-- the cells of the row of states xs -/
def V4 (f : Nat → St4) (k j : Nat) : Value := ((enc4 (f k))[j]?).getD (.int .i64 0)
theorem holds4 {w : World} {g n : Nat} {f : Nat → St4} (hf : ∀ i, w.frozen? ⟨g, i, none⟩ = false) (hc : ∀ i, i < n → ∀ j, j < 4 → w.cell? ⟨g, i * 4 + j, none⟩ = some (V4 f i j)) :
    Go.Sort.HoldsK enc4 4 w g 0 ((List.range n).map f).toArray := by
  intro t ht
  have hs : ((List.range n).map f).toArray.size = n := by simp
  rw [Go.Sort.size_flatK, hs] at ht
  rw [Nat.zero_add]
  refine ⟨?_, hf t⟩
  rw [Go.Sort.get_flatK _ _ _ _ (by rw [hs]; exact ht)]
  have h1 := hc (t / 4) (by omega) (t % 4) (by omega)
  rw [show t / 4 * 4 + t % 4 = t by omega] at h1
  rw [h1]
  have h2 : ((List.range n).map f).toArray[t / 4]! = f (t / 4) := by
    rw [getElem!_pos _ _ (by rw [hs]; omega)]
    simp
  rw [h2]
  unfold V4
  have h3 : t % 4 < (enc4 (f (t / 4))).length := by rw [enc4_len]; omega
  rw [List.getElem?_eq_getElem h3, getElem!_pos (enc4 (f (t / 4))) (t % 4) h3]
  rfl
theorem cells4 {w : World} {g : Nat} {d : Array St4} (h : Go.Sort.HoldsK enc4 4 w g 0 d) : CellsF w (some ⟨g, 0, none⟩) d.size 4 (V4 (fun k => d[k]!)) := by
  intro hn
  refine ⟨g, 0, rfl, fun i hi j hj => ?_⟩
  have h1 := (h (i * 4 + j) (by rw [Go.Sort.size_flatK]; omega)).1
  rw [Nat.zero_add] at h1
  rw [Nat.zero_add, h1, Go.Sort.get_flatK _ _ _ _ (by omega), show (i * 4 + j) / 4 = i by omega, show (i * 4 + j) % 4 = j by omega]
  unfold V4
  have h3 : j < (enc4 d[i]!).length := by rw [enc4_len]; omega
  rw [List.getElem?_eq_getElem h3, getElem!_pos (enc4 d[i]!) j h3]
  rfl
/-- the sort turns its own row only -/
theorem below_sort {α : Type} [Inhabited α] {enc : α → List Value} {k : Nat} {w : World} {blk off m B : Nat} {dk : Array α} {os : Array Obj} (hB : B ≤ blk) (hw : B ≤ w.heap.size) (hb : blk < w.heap.size) : Below B w (Go.Proofs.sortWorldK enc k w blk off m dk os) := by
  refine ⟨rfl, rfl, rfl, Go.Proofs.size_sortWorldK_c enc k w blk off m dk os, fun t ht => ?_⟩
  show ((w.heap.modify blk _) ++ os)[t]? = _
  rw [Array.getElem?_append_left (by simp; omega), Array.getElem?_modify, if_neg (by omega)]
theorem alloc2 (w : World) (o1 o2 : Obj) : (w.alloc o1).alloc o2 = Go.Sort.grow (w.drewN 0) #[o1, o2] := by
  have h : w.heap ++ #[o1, o2] = (w.heap.push o1).push o2 := Array.ext' (by simp)
  show _ = ({ w with heap := w.heap ++ #[o1, o2] } : World)
  rw [h]
  rfl
/-- what State's comparison is to the sort -/
theorem cmp4 {P : Program} {g : Nat} {blk size : Nat} {w : World}
    (h : ∀ (s0 s1 s2 s3 r0 r1 r2 r3 : Int) (w : World), (0 ≤ s0 ∧ s0 ≤ 1073741824) → (0 ≤ r0 ∧ r0 ≤ 1073741824) →
      Calls P g #[.agg #[.int .i64 s0, .int .i64 s1, .int .i64 s2, .int .i64 s3], .agg #[.int .i64 r0, .int .i64 r1, .int .i64 r2, .int .i64 r3]] w fun e w' => e = .returned (.int .i64 (s0 - r0)) ∧ ∃ o1 o2, w' = (w.alloc o1).alloc o2) :
    Go.Proofs.CmpLays P g #[] enc4 4 cf4 blk 0 size w := by
  intro m os dk hs x y
  have h1 := h x.1.1 x.1.2.1 x.1.2.2.1 x.1.2.2.2 y.1.1 y.1.2.1 y.1.2.2.1 y.1.2.2.2 (Go.Proofs.sortWorldK enc4 4 w blk 0 m dk os) x.2 y.2
  have e : ∀ z : St4, (enc4 z).toArray = #[.int .i64 z.1.1, .int .i64 z.1.2.1, .int .i64 z.1.2.2.1, .int .i64 z.1.2.2.2] := fun _ => rfl
  rw [Array.append_empty, e, e]
  refine h1.mono ?_
  rintro e w' ⟨rfl, o1, o2, rfl⟩
  refine ⟨rfl, 0, #[o1, o2], ?_⟩
  exact alloc2 _ o1 o2
/-- behind the sort: a sorted row of the same states -/
theorem sorted4 {n : Nat} {f : Nat → St4} {d' : Array St4} (hp : Go.Sort.PermIn 0 ((List.range n).map f).toArray.size ((List.range n).map f).toArray d') (hs : Go.Sort.SortedIn (Go.Proofs.ltOf cf4) 0 ((List.range n).map f).toArray.size d') :
    d'.toList.length = n ∧ List.Perm d'.toList ((List.range n).map f) ∧ ∀ i j, i < j → j < n → (d'[i]!).1.1 ≤ (d'[j]!).1.1 := by
  have hsz : ((List.range n).map f).toArray.size = n := by simp
  rw [hsz] at hp hs
  obtain ⟨h1, _, h3⟩ := hp
  rw [hsz] at h1
  have e1 : d'.extract 0 n = d' := by rw [← h1]; simp
  have e2 : ((List.range n).map f).toArray.extract 0 n = ((List.range n).map f).toArray := by
    simp [List.take_of_length_le]
  rw [e1, e2] at h3
  refine ⟨by simpa using h1, by simpa using h3, fun i j hij hj => ?_⟩
  have := hs i j (Nat.zero_le _) hij hj
  have e1 := of_decide_eq_false (show decide (cf4 d'[j]! d'[i]! < 0) = false from this)
  unfold cf4 at e1
  omega
end Go.Law.Tl
