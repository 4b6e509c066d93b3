/-
  The rest of a region whose tests are decided: moves, picks and operations that are passed over.
-/
import Derived.WalkKit
import Derived.Tactics2
import Derived.Deep.WholeRow
import Derived.Deep.MidRow
namespace Go.Law
open Go
set_option linter.unusedVariables false
def skipVal (a : Act) : Op → Option Value
  | .move x => some (a.eval x)
  | .assign x => some (a.eval x)
  | .pick c x y => match a.eval c with
    | .bool true => some (a.eval x)
    | .bool false => some (a.eval y)
    | _ => none
  | .unOp .not _ x => match a.eval x with
    | .bool b => some (.bool (!b))
    | _ => none
  | _ => none
def skipRun (ops : Array Oper) : List Oper → Act → Option Act
  | [], a => some a
  | o :: l, a => match Region.wanted o (yielded ops a.tmps) with
    | true => match skipVal a o.op with
      | some v => skipRun ops l (a.put o.dst v)
      | none => none
    | false => skipRun ops l (a.put o.dst undef)
theorem skipVal_run {P : Program} {a : Act} {o : Oper} {v : Value} {w : World} (h : skipVal a o.op = some v) : (execOp a.eval o).run P w = .ok (.value v) w := by
  obtain ⟨dst, op, ty, pos, after, guard⟩ := o
  cases op with
  | move x => simp only [skipVal, Option.some.injEq] at h; subst h; rfl
  | assign x => simp only [skipVal, Option.some.injEq] at h; subst h; rfl
  | pick c x y =>
    simp only [skipVal] at h
    cases hc : a.eval c with
    | bool b =>
      rw [hc] at h
      cases b <;> simp only [Option.some.injEq] at h <;> subst h <;> (simp only [execOp, hc]; rfl)
    | _ => rw [hc] at h; simp at h
  | unOp q t x =>
    cases q with
    | not =>
      simp only [skipVal] at h
      cases hc : a.eval x with
      | bool b =>
        rw [hc] at h
        simp only [Option.some.injEq] at h
        subst h
        simp only [execOp, hc]
        rfl
      | _ => rw [hc] at h; simp at h
    | _ => simp [skipVal] at h
  | _ => simp [skipVal] at h
theorem skip_run {P : Program} {ops : Array Oper} {Q : Exit → Act → World → Prop} {w : World} : ∀ (l : List Oper) (a a' : Act), skipRun ops l a = some a' → Q .normal a' w → wpList P ops Q l a w
  | [], a, a', h, hq => by
    simp only [skipRun, Option.some.injEq] at h
    subst h
    exact hq
  | o :: l, a, a', h, hq => by
    simp only [skipRun] at h
    cases hw : Region.wanted o (yielded ops a.tmps) with
    | false =>
      rw [hw] at h
      exact wpList_skip hw (skip_run l _ a' h hq)
    | true =>
      rw [hw] at h
      simp only at h
      cases hv : skipVal a o.op with
      | none => rw [hv] at h; cases h
      | some v =>
        rw [hv] at h
        have ih := skip_run (P := P) (w := w) l _ a' h hq
        show wpList P ops Q (o :: l) a w
        simp only [wpList, hw, if_true]
        refine .inl ?_
        unfold Oper.wp
        rw [skipVal_run hv]
        exact ih
theorem skip_go {P : Program} {ops : Array Oper} {Q : Exit → Act → World → Prop} {w : World} {l : List Oper} {a : Act} (h : (skipRun ops l a).isSome = true) (hq : Q .normal ((skipRun ops l a).getD a) w) : wpList P ops Q l a w := by
  cases hs : skipRun ops l a with
  | none => rw [hs] at h; cases h
  | some a' => rw [hs] at hq; exact skip_run l a a' hs hq
/-- a struct is stored into the block that was made last -/
theorem st_store_new {P : Program} {ops : Array Oper} {Q : Exit → Act → World → Prop} {w : World} {rest : List Oper} {op : Oper} {a : Act} (hgd : op.guard = none) (ty : TypeId) (x y : Operand) (ho : op.op = .store ty x y) (c c' : Array Value)
    (hx : a.eval x = .pointer (some ⟨w.heap.size, 0, none⟩)) (hy : a.eval y = .agg c') (hi : (P.info? ty).map (·.size) = some c'.size) (hs : c.size = c'.size) (h1 : c'.all (·.oneCell') = true)
    (h : wpList P ops Q rest (a.put op.dst undef) (w.alloc (.cells c' ty))) : wpList P ops Q (op :: rest) a (w.alloc (.cells c ty)) :=
  wpList_plain hgd fun K hK => by
    unfold Oper.wp execOp
    simp only [ho, hx, hy, Sem.run_bind, run_storeAt_new w ty c c' hi hs h1, Result.andThen_ok]
    exact hK _ _ h
/-- stop behind n operations -/
theorem cut_at {P : Program} {ops : Array Oper} {Q : Exit → Act → World → Prop} {w : World} {l : List Oper} {a : Act} (n : Nat) (h : ∀ R : Nat → Nat → Nat → List Oper, R 0 0 0 = l.drop n → wpList P ops Q (l.take n ++ R 0 0 0) a w) : wpList P ops Q l a w := by
  have := h (fun _ _ _ => l.drop n) rfl
  rwa [List.take_append_drop] at this
/-- a test that holds leads to a return of a constant -/
theorem cond_err {P : Program} {Q : Exit → Act → World → Prop} {a : Act} {w : World} {t r n ty : Nat} {v : Value} {pos : String} {after : Array Edge} {els : Code} (ht : a.eval (.tmp t) = .bool true) (hq : Q .ret (a.put (some r) v) w) :
    Code.wp P (Code.cond (.tmp t) (Code.seq (Code.region n #[{ dst := some r, op := .assign (.const v), type := ty, pos := pos, after := after, guard := none }] false) Code.ret) els) Q a w := by
  refine wp_cond_true ht (wp_seq (wp_region ?_))
  have e : (List.range (#[({ dst := some r, op := .assign (.const v), type := ty, pos := pos, after := after, guard := none } : Oper)] : Array Oper).size) = [0] := rfl
  rw [e]
  simp only [wpOps]
  refine .inl ?_
  show Code.wp P Code.ret _ (a.put (some r) v) w
  exact wp_ret hq
end Go.Law
