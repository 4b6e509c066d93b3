


/-
  MasterShows: the law's loops are walked one by one: how a block of a function's code is named.
-/
import Derived.Test.YtabnohphgegflaaMsLawP
import Derived.Test.YtabnohphgegflaaShErrR
import Derived.Test.YtabnohphgegflaaTakes
import Derived.Deep.CutBlock
namespace Go.Law
/-- the block of a number in a code -/
def blkOf (n : Nat) : Code → Option Code
  | .block k c => match Nat.beq k n with
    | true => some (.block k c)
    | false => blkOf n c
  | .loop c => blkOf n c
  | .scope c => blkOf n c
  | .seq a b => match blkOf n a with
    | some c => some c
    | none => blkOf n b
  | .cond _ a b => match blkOf n a with
    | some c => some c
    | none => blkOf n b
  | _ => none
noncomputable def theBlk (f : Func) (n : Nat) : Code := (f.body.bind (blkOf n)).getD .skip
end Go.Law
namespace Go.Proofs.Ytabnohphgegflaa.MS
open Go.RowKit Go.Law Go.Law.Sh Go.Law.Ms ShT
set_option linter.unusedVariables false
set_option linter.unusedSimpArgs false
def titB : ByteArray := ⟨#[112, 108, 97, 99, 101, 46, 116, 105, 116, 108, 101]⟩
def noB : ByteArray := ⟨#[]⟩
def exE1 : Nat → Nat → Int := fun _ j => if j = 0 then 9 else 0
def exN1 : Nat → Nat → ByteArray := fun _ j => if j = 0 then titB else noB
def exE2 : Nat → Nat → Int := fun i j => if i = 0 then [1, 0, 0, 7, 0, 5, 5, 0, 0, 0].getD j 0 else [2, 0, 0, 0, 0, 3, 0, 0, 0, 0].getD j 0
def exN2 : Nat → Nat → ByteArray := fun i j => if i = 0 ∧ j = 0 then titB else noB
theorem ex_ok1 : shE 1 exE1 = 0 := by decide +kernel
theorem ex_ok2 : shE 2 exE2 = 0 := by decide +kernel
theorem ex_back : (backL exE2 exN2 2).length = 1 := by decide +kernel
theorem ex_front : (frontD 2 exE2 exN2 (shD exE1 exN1 0)).x = 7 := by decide +kernel
def TrueB (w : World) (e : Ending) (w' : World) : Prop := e = .returned (.bool true) ∧ Below w.heap.size w w'
theorem ex_cells1 (w : World) : ShF (w.alloc (.cells #[.int .i64 9, .int .i64 0, .int .i64 0, .int .i64 0, .int .i64 0, .int .i64 0, .int .i64 0, .int .i64 0, .int .i64 0, .int .i64 0, .string titB, .string noB] 24)) (some ⟨w.heap.size, 0, none⟩) 1 exE1 exN1 := by
  have hb := Blk.new w #[.int .i64 9, .int .i64 0, .int .i64 0, .int .i64 0, .int .i64 0, .int .i64 0, .int .i64 0, .int .i64 0, .int .i64 0, .int .i64 0, .string titB, .string noB] 24
  intro _
  refine ⟨w.heap.size, 0, rfl, fun i hi => ?_⟩
  obtain rfl : i = 0 := by omega
  refine ⟨fun j hj => ?_, hb.cell (i := 10) rfl, hb.cell (i := 11) rfl⟩
  obtain rfl | rfl | rfl | rfl | rfl | rfl | rfl | rfl | rfl | rfl : j = 0 ∨ j = 1 ∨ j = 2 ∨ j = 3 ∨ j = 4 ∨ j = 5 ∨ j = 6 ∨ j = 7 ∨ j = 8 ∨ j = 9 := by omega
  all_goals exact hb.cell rfl
theorem ex_cells2 (w : World) : ShF (w.alloc (.cells #[.int .i64 1, .int .i64 0, .int .i64 0, .int .i64 7, .int .i64 0, .int .i64 5, .int .i64 5, .int .i64 0, .int .i64 0, .int .i64 0, .string titB, .string noB, .int .i64 2, .int .i64 0, .int .i64 0, .int .i64 0, .int .i64 0, .int .i64 3, .int .i64 0, .int .i64 0, .int .i64 0, .int .i64 0, .string noB, .string noB] 24)) (some ⟨w.heap.size, 0, none⟩) 2 exE2 exN2 := by
  have hb := Blk.new w #[.int .i64 1, .int .i64 0, .int .i64 0, .int .i64 7, .int .i64 0, .int .i64 5, .int .i64 5, .int .i64 0, .int .i64 0, .int .i64 0, .string titB, .string noB, .int .i64 2, .int .i64 0, .int .i64 0, .int .i64 0, .int .i64 0, .int .i64 3, .int .i64 0, .int .i64 0, .int .i64 0, .int .i64 0, .string noB, .string noB] 24
  intro _
  refine ⟨w.heap.size, 0, rfl, fun i hi => ?_⟩
  obtain rfl | rfl : i = 0 ∨ i = 1 := by omega
  · refine ⟨fun j hj => ?_, hb.cell (i := 10) rfl, hb.cell (i := 11) rfl⟩
    obtain rfl | rfl | rfl | rfl | rfl | rfl | rfl | rfl | rfl | rfl : j = 0 ∨ j = 1 ∨ j = 2 ∨ j = 3 ∨ j = 4 ∨ j = 5 ∨ j = 6 ∨ j = 7 ∨ j = 8 ∨ j = 9 := by omega
    all_goals exact hb.cell rfl
  · refine ⟨fun j hj => ?_, hb.cell (i := 22) rfl, hb.cell (i := 23) rfl⟩
    obtain rfl | rfl | rfl | rfl | rfl | rfl | rfl | rfl | rfl | rfl : j = 0 ∨ j = 1 ∨ j = 2 ∨ j = 3 ∨ j = 4 ∨ j = 5 ∨ j = 6 ∨ j = 7 ∨ j = 8 ∨ j = 9 := by omega
    all_goals exact hb.cell rfl
theorem mov_eq (E : Nat → Nat → Int) (s : ShD) (p : Int) : movD E s p = ⟨s.it, s.pa, s.ki, (movD E s p).x, (movD E s p).y, (movD E s p).w, (movD E s p).h, (movD E s p).tu, s.fr, s.tn, s.nm, s.tx⟩ := by
  unfold movD
  split <;> rfl
theorem str_push {wy : World} {base : Nat} {v' : Value} {L : List ByteArray} {s : ByteArray} {xs : List Value} (hr : wy.ownsRow base 9 1 v' (L.length + 1) (xs ++ [.string s])) (hl : xs.length = L.length * 1) (hx : ∀ i, i < L.length → ∀ j, j < 1 → xs[i * 1 + j]? = some (.string (L.getD i ⟨#[]⟩))) : RowV wy base 9 1 v' (L ++ [s]).length (fun q _ => .string ((L ++ [s]).getD q ⟨#[]⟩)) := by
  rw [List.length_append]
  refine RowV.push hr hl hx (fun j hj => ?_) (fun i hi j hj => ?_)
  · obtain rfl : j = 0 := by omega
    show some (Value.string s) = some (Value.string ((L ++ [s]).getD L.length ⟨#[]⟩))
    rw [List.getD_eq_getElem?_getD, List.getElem?_append_right (Nat.le_refl _)]
    simp
  · show Value.string (L.getD i ⟨#[]⟩) = Value.string ((L ++ [s]).getD i ⟨#[]⟩)
    rw [List.getD_eq_getElem?_getD, List.getD_eq_getElem?_getD, List.getElem?_append_left hi]
/-- what the reference leaves of a master -/
def lawB (E : Nat → Nat → Int) (N : Nat → Nat → ByteArray) (n i : Nat) : List ShD := (backL E N i).map (cutX (goneK E N n))
theorem lawB_len {E : Nat → Nat → Int} {N : Nat → Nat → ByteArray} (n i : Nat) : (lawB E N n i).length ≤ i := by
  unfold lawB
  rw [List.length_map]
  exact back_len i
end Go.Proofs.Ytabnohphgegflaa.MS
