/-
  A package-level table of rows of ints, out of the row's condition 'laid'; and the step from a walk to a law's row under such a condition.
-/
import Derived.Test.YtghbicajcffjhaaDoorLift
import Derived.ChangeArms
import Derived.OpenShut
import Derived.MakeChecks
import Derived.LaidMore
import Derived.Stop.Joined
namespace Go.Law
open Go.ChangeShapes Go.WideShapes Go.ChangeAt Go.RowKit

section
variable {H : Type} {enc : TypeId × Value → H} {P : Program} {w : World}
/-- a row of ints as data -/
def rowD (r : List Int) : DataW H := .agg (r.map fun z => .lit (.int .i64 z))

theorem ints_of_fields {fuel ti : Nat} {cs : List Value} {xs : List (DataW H × List MemPlace)} {r : List Int} (hi : P.underlying ti = some (.int .i64)) (hlen : cs.length = xs.length)
    (hx : xs.map (·.1) = r.map fun z => DataW.lit (.int .i64 z)) (h : ∀ i, i < xs.length → DataW.trod enc P w 0 (fun _ => true) false fuel ti ((cs.drop i).take 1) = xs[i]?) :
    cs = r.map (Value.int .i64) := by
  have hr : xs.length = r.length := by simpa using congrArg List.length hx
  apply List.ext_getElem?
  intro i
  rcases Nat.lt_or_ge i xs.length with hlt | hge
  · have h1 := h i hlt
    rw [List.getElem?_eq_getElem hlt] at h1
    obtain ⟨n, e1, e2, _⟩ := DataW.trod_int hi h1
    have e3 : (xs.map (·.1))[i]? = (r.map fun z => DataW.lit (H := H) (.int .i64 z))[i]? := by rw [hx]
    rw [List.getElem?_map, List.getElem?_map, List.getElem?_eq_getElem hlt, List.getElem?_eq_getElem (by omega)] at e3
    simp only [Option.map_some, Option.some.injEq, e2, DataW.lit.injEq, Lit.int.injEq, true_and] at e3
    have e4 : cs[i]? = some (Value.int .i64 n) := by
      have := congrArg (fun l => l[0]?) e1
      simpa [List.getElem?_take, List.getElem?_drop] using this
    rw [e4, List.getElem?_map, List.getElem?_eq_getElem (by omega), e3]
    rfl
  · rw [List.getElem?_eq_none (by omega), List.getElem?_eq_none (by simp; omega)]

theorem row_struct {fuel t ti k : Nat} {fs : Array Field} {cs : List Value} {y : DataW H × List MemPlace} {r : List Int} (ht : P.underlying t = some (.struct fs)) (hi : P.underlying ti = some (.int .i64)) (hc : P.cellsOf ti = 1)
    (hk : P.cellsOf t = k) (hfs : fs.size = k) (hf : (fs.toList.zipIdx.all fun x => x.1.type == ti && x.1.offset == x.2) = true)
    (h : DataW.trod enc P w 0 (fun _ => true) false fuel t cs = some y) (hy : y.1 = rowD r) : cs = r.map (Value.int .i64) := by
  obtain ⟨xs, n, _, rfl, hlen, hxs, hel⟩ := DataW.trod_struct ht h
  have hx : xs.map (·.1) = r.map fun z => DataW.lit (.int .i64 z) := by simpa [rowD] using hy
  refine ints_of_fields (enc := enc) (w := w) (fuel := n) hi (by rw [hlen, hk, hxs, hfs]) hx (fun i hlt => ?_)
  have hi' : fs[i]? = some fs[i] := Array.getElem?_eq_getElem (by omega)
  have h1 := hel i fs[i] hi'
  have h2 := List.all_eq_true.1 hf (fs[i], i) (by rw [List.mem_zipIdx_iff_getElem?]; simp)
  simp only [Bool.and_eq_true, beq_iff_eq] at h2
  rw [h2.1, h2.2, hc] at h1
  exact h1

theorem row_array {fuel t ti k : Nat} {cs : List Value} {y : DataW H × List MemPlace} {r : List Int} (ht : P.underlying t = some (.array k ti)) (hi : P.underlying ti = some (.int .i64)) (hc : P.cellsOf ti = 1)
    (hk : P.cellsOf t = k) (h : DataW.trod enc P w 0 (fun _ => true) false fuel t cs = some y) (hy : y.1 = rowD r) : cs = r.map (Value.int .i64) := by
  obtain ⟨xs, n, _, rfl, hlen, hxs, hel⟩ := DataW.trod_array ht h
  simp only at hy
  have hx : xs.map (·.1) = r.map fun z => DataW.lit (.int .i64 z) := by simpa [rowD] using hy
  refine ints_of_fields (enc := enc) (w := w) (fuel := n) hi (by rw [hlen, hk, hxs]) hx (fun i hlt => ?_)
  have h1 := hel i (by omega)
  rw [hc, Nat.mul_one] at h1
  exact h1

/-- the table at a variable -/
def TabAt (w : World) (g k : Nat) (rows : List (List Int)) : Prop :=
  ∃ b off cap, w.cell? ⟨g, 0, none⟩ = some (.slice (some ⟨b, off, none⟩) rows.length cap) ∧ ∀ (i : Nat) (r : List Int), rows[i]? = some r → r.length = k → ∀ (j : Nat) (z : Int), r[j]? = some z → w.cell? ⟨b, off + i * k + j, none⟩ = some (.int .i64 z)

theorem tab_of_trod {fuel t e k g : Nat} {cs : List Value} {y : DataW H × List MemPlace} {rows : List (List Int)} (ht : P.underlying t = some (.slice e)) (hk : P.cellsOf e = k) (hk0 : 0 < k) (hne : rows ≠ []) (hcell : w.cell? ⟨g, 0, none⟩ = cs[0]?)
    (hrow : ∀ n cs' y' r, DataW.trod enc P w 0 (fun _ => true) false n e cs' = some y' → y'.1 = rowD r → cs' = r.map (Value.int .i64))
    (h : DataW.trod enc P w 0 (fun _ => true) false fuel t cs = some y) (hy : y.1 = .slice (rows.map rowD) []) : TabAt w g k rows := by
  rcases DataW.trod_slice ht h with ⟨rfl, rfl⟩ | ⟨a, len, cap, elems, rest, m, hm, rfl, rfl, _, hl, hcap, hlen, hel, _, _⟩
  · cases hy
  · simp only [DataW.slice.injEq] at hy
    have hrl : elems.length = rows.length := by simpa using congrArg List.length hy.1
    have each : ∀ (i : Nat) (r : List Int), rows[i]? = some r → w.cells? 0 (a.add (i * k)) k = some (r.map (Value.int .i64)) := by
      intro i r hi
      have hlt : i < rows.length := (List.getElem?_eq_some_iff.1 hi).1
      have h1 := hel i (by omega)
      rw [hk, List.getElem?_eq_getElem (show i < elems.length by omega)] at h1
      obtain ⟨c, hc1, hc2⟩ := Option.bind_eq_some_iff.1 h1
      have e1 : (elems[i]'(by omega)).1 = rowD r := by
        have := congrArg (fun l => l[i]?) hy.1
        simp only [List.getElem?_map, List.getElem?_eq_getElem (show i < elems.length by omega), hi, Option.map_some, Option.some.injEq] at this
        exact this
      rw [hc1, hrow _ _ _ _ hc2 e1]
    have hspot : a.spot = none := by
      cases rows with
      | nil => exact absurd rfl hne
      | cons r rows =>
        have h0 := each 0 r rfl
        obtain ⟨_, hl0, hc0⟩ := World.cells?_some h0
        have := hc0 0 hk0
        cases hr : r.map (Value.int .i64) with
        | nil => rw [hr] at hl0; simp at hl0; omega
        | cons v vs =>
          rw [hr] at this
          simp [Addr.add] at this
          obtain ⟨b, off, spot⟩ := a
          simpa using World.cell?_spot this
    obtain ⟨b, off, spot⟩ := a
    simp only at hspot
    subst hspot
    refine ⟨b, off, cap, by rw [hcell, ← hrl, hlen]; rfl, fun i r hi hrk j z hj => ?_⟩
    obtain ⟨_, _, hc0⟩ := World.cells?_some (each i r hi)
    have hjk : j < k := by rw [← hrk]; exact (List.getElem?_eq_some_iff.1 hj).1
    have h1 := hc0 j hjk
    rw [List.getElem?_map, hj] at h1
    have e : (Addr.add ⟨b, off, none⟩ (i * k)).add j = ⟨b, off + i * k + j, none⟩ := by
      unfold Addr.add
      split <;> split <;> simp_all <;> omega
    rw [e] at h1
    exact h1
end

theorem laid_cell {P : Program} {w : World} {n : String} {g : Nat} {cs : Array Value} (hg : P.globalNamed n = some g) (h : w.var? P n = some cs) : w.cell? ⟨g, 0, none⟩ = cs.toList[0]? := by
  rw [World.var?_cell hg h 0]; simp

/-- The step from a walk to the row of a law whose row lists variables. -/
theorem lifted_laid {H : Type} {enc : TypeId × Value → H} {C : Checked} {os : Os} {f : FuncId} {fn : Func} {s : ChangeSpec} {apart fresh handsOn : Bool} {tb : TypeId} {laid : List (String × DataW Unit)}
    (own : ownKnob C.prog.godebug = none) (started : os.Started) (noInit : C.prog.inits.idxOf? f = none) (hfn : C.prog.funcs[f]? = some fn)
    (witness : ∃ (w : World) (tape : Tape) (i : Input), w.os = os ∧ (w.forCall tape i).Shaped C.prog ∧ i.vars = [] ∧ Input.okWide C.prog (w.forCall tape i) .any w.heap.size f i ∧
      ((s.pre enc C.prog fn [] apart (w.forCall tape i).memory i.args ∧ laidMetH C.prog laid (w.forCall tape i).memory) ∧ sizedMet enc C.prog fn (OpenSpec.ofChange s) apart (w.forCall tape i).memory i.args) ∧ ({} : Assume).holds C.prog (lone (Frame.enter C.prog f i.args .normal) [] (w.forCall tape i)))
    (laidOut : laidOutB C.prog = true) (rd : (fn.params.toList.all fun t => C.prog.readableRec t && decide (t < C.prog.types.size)) = true) (hplain : (laid.all fun x => x.2.handleName?.isNone) = true)
    (hvars : s.vars = []) (hres : fn.resultTypes = #[tb]) (hbool : C.prog.underlying tb = some .bool)
    (hspec : ∀ ds : List (DataW H), ds.length = fn.params.size → s.fn H ds = { results := [.lit (.bool true)], args := ds })
    (walk : ∀ (W : World) (args : Array Value) (ds : List (DataW H)), Comes enc C.prog fn.params.toList W args ds → laidMet C.prog laid W →
      Calls C.prog f args W fun e W' => e = .returned (.bool true) ∧ Below W.heap.size W W') :
    ReturnsInHanded {} C os f .any (fun w args => (s.pre enc C.prog fn [] apart w args ∧ laidMetH C.prog laid w) ∧ sizedMet enc C.prog fn (OpenSpec.ofChange s) apart w args) (s.post enc C.prog fn apart fresh handsOn false) := by
  refine returnsInHanded_of_change_and (X := fun w _ => laidMetH C.prog laid w) (fun _ _ _ hh h => h.of_heap hh) own started noInit hfn witness ?_
  intro W base args ds gs before hval hW _ hsz hL _
  rw [MakeChecks.laidMetH_plain _ _ _ hplain] at hL
  have hW' := hW
  obtain ⟨p, q, hA, hV, rfl, hfz, hnd⟩ := hW
  rw [hvars] at hV
  obtain ⟨rfl, rfl⟩ : gs = [] ∧ q = [] := by
    cases gs with
    | nil => exact ⟨rfl, hV⟩
    | cons g gs => exact hV.elim
  have hlen : ∀ {ts : List TypeId} {vs : List Value} {ds : List (DataW H)} {ps : List MemPlace}, DataW.TrodAll enc C.prog W 0 (fun _ => true) true ts vs ds ps → ds.length = ts.length := by
    intro ts
    induction ts with
    | nil => intro vs ds ps h; obtain ⟨rfl, rfl, rfl⟩ := trodAll_nil h; rfl
    | cons t ts ih =>
      intro vs ds ps h
      obtain ⟨v, vs', d, ds', p, q, rfl, rfl, rfl, h0, h1⟩ := trodAll_cons h
      simp [ih h1]
  have hl := hlen hA
  have hvt : s.plain.varTypes C.prog = [] := by simp [DataSpec.varTypes, ChangeSpec.plain, hvars]
  rw [hvt, List.append_nil, List.append_nil] at hsz
  refine (walk W args ds ⟨⟨base, fun j t v h1 h2 => hval j t v (by simpa using h1) h2⟩, ⟨p, hA⟩, hsz⟩ hL).mono fun e W' ⟨he, bel⟩ => ?_
  subst he
  have hfnEq := hspec ds (by simpa using hl)
  refine ⟨_, rfl, ds, [], p ++ [], [], p, [], hW', ?_, ?_, ?_, bel.frame _, fun h => by cases h⟩
  · rw [hres, List.append_nil, hfnEq]
    exact trodAll_mk1 (shut_bool hbool _)
  · rw [List.append_nil, hfnEq]
    exact trodAll_below laidOut bel rd hA (trodAll_lt hA)
  · rw [List.append_nil, hfnEq, hvars]
    rfl
end Go.Law
