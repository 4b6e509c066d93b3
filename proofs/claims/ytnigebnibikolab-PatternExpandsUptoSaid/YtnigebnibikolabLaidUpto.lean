/-
  The step from a walk to the row of a law's second form (the arguments bounded together), whose row lists variables.
-/
import Derived.Test.YtnigebnibikolabLaidRows
import Derived.Deep.DeepHandedRow
import Derived.Deep.DeepWitnessRowRef
namespace Go.Law
open Go.ChangeShapes Go.WideShapes Go.ChangeAt Go.RowKit
/-- the specification with a condition -/
def upS (s : ChangeSpec) (k : (H : Type) → List (DataW H) → Bool) : OpenSpec := { OpenSpec.ofChange s with cond := some k }
theorem lifted_upto {H : Type} {enc : TypeId × Value → H} {C : Checked} {os : Os} {f : FuncId} {fn : Func} {s : ChangeSpec} {F : Stop.Interp} {k : (H : Type) → List (DataW H) → Bool} {apart fresh handsOn : Bool} {tb : TypeId} {laid : List (String × DataW Unit)}
    (own : ownKnob C.prog.godebug = none) (started : os.Started) (noInit : C.prog.inits.idxOf? f = none) (hfn : C.prog.funcs[f]? = some fn)
    (witness : ∃ (w : World) (tape : Tape) (i : Input), w.os = os ∧ (w.forCall tape i).Shaped C.prog ∧ i.vars = [] ∧ Input.okWide C.prog (w.forCall tape i) .any w.heap.size f i ∧
      (upS s k).preRow enc C.prog fn [] apart laid (w.forCall tape i).memory i.args ∧ ({} : Assume).holds C.prog (lone (Frame.enter C.prog f i.args .normal) [] (w.forCall tape i)))
    (laidOut : laidOutB C.prog = true) (rd : (fn.params.toList.all fun t => C.prog.readableRec t && decide (t < C.prog.types.size)) = true) (hplain : (laid.all fun x => x.2.handleName?.isNone) = true)
    (hvars : s.vars = []) (hres : fn.resultTypes = #[tb]) (hbool : C.prog.underlying tb = some .bool)
    (hspec : ∀ ds : List (DataW H), ds.length = fn.params.size → s.fn H ds = { results := [.lit (.bool true)], args := ds })
    (walk : ∀ (W : World) (args : Array Value) (ds : List (DataW H)), Comes enc C.prog fn.params.toList W args ds → laidMet C.prog laid W → k H ds = true →
      Calls C.prog f args W fun e W' => e = .returned (.bool true) ∧ Below W.heap.size W W') :
    ReturnsInHanded {} C os f .any ((upS s k).preRow enc C.prog fn [] apart laid) (((upS s k).at F).post enc C.prog fn apart fresh handsOn false) := by
  refine returnsInHanded_of_row (s := upS s k) own started noInit hfn witness ?_
  intro W base args ds gs before hval hW _ hcond hsz hL _ _
  rw [MakeChecks.laidMetH_plain _ _ _ hplain] at hL
  have hW' : DataW.Whole enc C.prog fn.params.toList s.vars apart W args.toList ds gs before := hW
  change Calls C.prog f args W fun e W' => ∃ v, e = .returned v ∧ s.post enc C.prog fn apart fresh handsOn false W args v W'
  replace hW : DataW.Whole enc C.prog fn.params.toList s.vars apart W args.toList ds gs before := hW
  have hk := hcond k rfl
  obtain ⟨p, q, hA, hV, rfl, hfz, hnd⟩ := hW
  rw [hvars] at hV
  obtain ⟨rfl, rfl⟩ : gs = [] ∧ q = [] := by
    cases gs with
    | nil => exact ⟨rfl, hV⟩
    | cons g gs => exact hV.elim
  rw [List.append_nil] at hk
  have hlen : ∀ {ts : List TypeId} {vs : List Value} {ds : List (DataW H)} {ps : List MemPlace}, DataW.TrodAll enc C.prog W 0 (fun _ => true) true ts vs ds ps → ds.length = ts.length := by
    intro ts
    induction ts with
    | nil => intro vs ds ps h; obtain ⟨rfl, rfl, rfl⟩ := trodAll_nil h; rfl
    | cons t ts ih =>
      intro vs ds ps h
      obtain ⟨v, vs', d, ds', p, q, rfl, rfl, rfl, h0, h1⟩ := trodAll_cons h
      simp [ih h1]
  have hl := hlen hA
  have hvt : s.plain.varTypes C.prog = [] := by simp [DataSpec.varTypes, ChangeSpec.plain, hvars]
  replace hsz : (DataW.weightsEach C.prog (fn.params.toList ++ s.plain.varTypes C.prog) (ds ++ [])).all (· ≤ reachBytes) = true := hsz
  rw [hvt, List.append_nil, List.append_nil] at hsz
  refine (walk W args ds ⟨⟨base, fun j t v h1 h2 => hval j t v (by simpa using h1) h2⟩, ⟨p, hA⟩, hsz⟩ hL hk).mono fun e W' ⟨he, bel⟩ => ?_
  subst he
  have hfnEq := hspec ds (by simpa using hl)
  refine ⟨_, rfl, ds, [], p ++ [], [], p, [], hW', ?_, ?_, ?_, bel.frame _, fun h => by cases h⟩
  · rw [hres, List.append_nil, hfnEq]
    exact trodAll_mk1 (shut_bool hbool _)
  · rw [List.append_nil, hfnEq]
    exact trodAll_below laidOut bel rd hA (trodAll_lt hA)
  · rw [List.append_nil, hfnEq, hvars]
    rfl
end Go.Law
