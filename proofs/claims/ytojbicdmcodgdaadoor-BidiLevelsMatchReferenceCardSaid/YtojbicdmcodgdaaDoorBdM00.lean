/-
  Lift, Reads, LaidRows, Common, DoorTabs, DoorDirT, CellsF, First, Own.
-/
import Derived.ProofKit
import Derived.SizedLaws
import Derived.Carry
import Derived.WalkKit
import Derived.OpenShut
import Derived.ChangeArms
import Derived.ChangeMaps5
import Derived.MakeChecks
import Derived.LaidMore
import Derived.Stop.Joined
import Derived.WalkSmall
import Derived.Deep.QuietTactic
import Derived.Laws.AppendOwn
import Derived.Laws.MakeOwn
import Derived.Laws.OwnMore
namespace Go.Law
open Go.ChangeShapes Go.WideShapes Go.ChangeAt Go.RowKit
theorem trodAll_below {H : Type} {enc : TypeId × Value → H} {P : Program} (hl : laidOutB P = true) {W W' : World} (hb : Below W.heap.size W W') :
    ∀ {ts : List TypeId} {vs : List Value} {ds : List (DataW H)} {ps : List MemPlace}, (ts.all fun t => P.readableRec t && decide (t < P.types.size)) = true →
      DataW.TrodAll enc P W 0 (fun _ => true) true ts vs ds ps → (∀ x ∈ ps, x.block < W.heap.size) →
      DataW.TrodAll enc P W' 0 (fun b => decide (b < W.heap.size)) true ts vs ds ps
  | [], vs, ds, ps, _, h, _ => by
    obtain ⟨rfl, rfl, rfl⟩ := trodAll_nil h
    exact trodAll_mk0
  | t :: ts, vs, ds, ps, hr, h, hlt => by
    obtain ⟨v, vs', d, ds', p, q, rfl, rfl, rfl, h0, h1⟩ := trodAll_cons h
    simp only [List.all_cons, Bool.and_eq_true, decide_eq_true_eq] at hr
    exact trodAll_cons_mk (Below.trod hl hr.1.1 hr.1.2 h0 hb fun x hx => hlt x (by simp [hx]))
      (trodAll_below hl hb (by simpa using hr.2) h1 fun x hx => hlt x (by simp [hx]))
theorem trodAll_lt {H : Type} {enc : TypeId × Value → H} {P : Program} {W : World} :
    ∀ {ts : List TypeId} {vs : List Value} {ds : List (DataW H)} {ps : List MemPlace}, DataW.TrodAll enc P W 0 (fun _ => true) true ts vs ds ps → ∀ x ∈ ps, x.block < W.heap.size
  | [], vs, ds, ps, h => by
    obtain ⟨rfl, rfl, rfl⟩ := trodAll_nil h
    intro x hx; cases hx
  | t :: ts, vs, ds, ps, h => by
    obtain ⟨v, vs', d, ds', p, q, rfl, rfl, rfl, h0, h1⟩ := trodAll_cons h
    intro x hx
    rcases List.mem_append.1 hx with hx | hx
    · obtain ⟨m, hm⟩ := h0
      exact DataW.trod_lt m _ _ _ hm x hx
    · exact trodAll_lt h1 x hx
/-- What a law's walk may use of its arguments: they read as data, each within the reach. -/
structure Comes {H : Type} (enc : TypeId × Value → H) (P : Program) (ts : List TypeId) (W : World) (args : Array Value) (ds : List (DataW H)) : Prop where
  val : ∃ base, ∀ (j : Nat) t v, ts[j]? = some t → args[j]? = some v → Value.okWide P W .any base t v
  reads : ∃ p, DataW.TrodAll enc P W 0 (fun _ => true) true ts args.toList ds p
  sized : (DataW.weightsEach P ts ds).all (· ≤ reachBytes) = true
theorem lifted {H : Type} {enc : TypeId × Value → H} {C : Checked} {os : Os} {f : FuncId} {fn : Func} {s : ChangeSpec} {apart fresh handsOn : Bool} {tb : TypeId}
    (own : ownKnob C.prog.godebug = none) (started : os.Started) (noInit : C.prog.inits.idxOf? f = none) (hfn : C.prog.funcs[f]? = some fn)
    (witness : ∃ (w : World) (tape : Tape) (i : Input), w.os = os ∧ (w.forCall tape i).Shaped C.prog ∧ i.vars = [] ∧ Input.okWide C.prog (w.forCall tape i) .any w.heap.size f i ∧
      s.pre6 enc C.prog fn [] apart (w.forCall tape i).memory i.args ∧ ({} : Assume).holds C.prog (lone (Frame.enter C.prog f i.args .normal) [] (w.forCall tape i)))
    (laidOut : laidOutB C.prog = true) (rd : (fn.params.toList.all fun t => C.prog.readableRec t && decide (t < C.prog.types.size)) = true)
    (hvars : s.vars = []) (hres : fn.resultTypes = #[tb]) (hbool : C.prog.underlying tb = some .bool)
    (hspec : ∀ ds : List (DataW H), ds.length = fn.params.size → s.fn H ds = { results := [.lit (.bool true)], args := ds })
    (walk : ∀ (W : World) (args : Array Value) (ds : List (DataW H)), Comes enc C.prog fn.params.toList W args ds →
      Calls C.prog f args W fun e W' => e = .returned (.bool true) ∧ Below W.heap.size W W') :
    ReturnsInHanded {} C os f .any (s.pre6 enc C.prog fn [] apart) (s.post enc C.prog fn apart fresh handsOn false) := by
  refine returnsInHanded_of_change_sized own started noInit hfn witness ?_
  intro W base args ds gs before hval hW _ hsz _
  have hW' := hW
  obtain ⟨p, q, hA, hV, rfl, hfz, hnd⟩ := hW
  rw [hvars] at hV
  obtain ⟨rfl, rfl⟩ : gs = [] ∧ q = [] := by
    cases gs with
    | nil => exact ⟨rfl, hV⟩
    | cons g gs => exact hV.elim
  have hlen : ∀ {ts : List TypeId} {vs : List Value} {ds : List (DataW H)} {ps : List MemPlace}, DataW.TrodAll enc C.prog W 0 (fun _ => true) true ts vs ds ps → ds.length = ts.length := by
    intro ts
    induction ts with
    | nil => intro vs ds ps h; obtain ⟨rfl, rfl, rfl⟩ := trodAll_nil h; rfl
    | cons t ts ih =>
      intro vs ds ps h
      obtain ⟨v, vs', d, ds', p, q, rfl, rfl, rfl, h0, h1⟩ := trodAll_cons h
      simp [ih h1]
  have hl := hlen hA
  have hvt : s.plain.varTypes C.prog = [] := by simp [DataSpec.varTypes, ChangeSpec.plain, hvars]
  rw [hvt, List.append_nil, List.append_nil] at hsz
  refine (walk W args ds ⟨⟨base, fun j t v h1 h2 => hval j t v (by simpa using h1) h2⟩, ⟨p, hA⟩, hsz⟩).mono fun e W' ⟨he, bel⟩ => ?_
  subst he
  have hfnEq := hspec ds (by simpa using hl)
  refine ⟨_, rfl, ds, [], p ++ [], [], p, [], hW', ?_, ?_, ?_, bel.frame _, fun h => by cases h⟩
  · rw [hres, List.append_nil, hfnEq]
    exact trodAll_mk1 (shut_bool hbool _)
  · rw [List.append_nil, hfnEq]
    exact trodAll_below laidOut bel rd hA (trodAll_lt hA)
  · rw [List.append_nil, hfnEq, hvars]
    rfl
/-- Some cells of a world read as a Lean value. -/
abbrev Rd (α : Type) := World → List Value → α → Prop
def RInt (k : IntKind) : Rd Int := fun _ cs n => cs = [.int k n] ∧ (Lit.int k n).wf = true
def RBool : Rd Bool := fun _ cs b => cs = [.bool b]
def RStr : Rd ByteArray := fun _ cs s => cs = [.string s] ∧ s.size ≤ reachBytes
def RNil : Rd Unit := fun _ cs _ => cs = []
def RPair {α β : Type} (R : Rd α) (S : Rd β) : Rd (α × β) := fun w cs x => ∃ c d, cs = c ++ d ∧ R w c x.1 ∧ S w d x.2
/-- The elements of a row: element i at 'off + i * s'. -/
def Elems {α : Type} (R : Rd α) (s : Nat) (w : World) (a : Option Addr) (xs : List α) : Prop :=
  xs ≠ [] → ∃ b off, a = some ⟨b, off, none⟩ ∧ ∀ (i : Nat) (x : α), xs[i]? = some x → ∃ cs, cs.length = s ∧ (∀ j v, cs[j]? = some v → w.cell? ⟨b, off + i * s + j, none⟩ = some v) ∧ R w cs x
def RSlice {α : Type} (R : Rd α) (s bytes : Nat) : Rd (List α) := fun w cs xs =>
  ∃ a cap, cs = [.slice a xs.length cap] ∧ xs.length ≤ cap ∧ cap ≤ maxLen ∧ cap * bytes ≤ reachBytes ∧ (a = none → cap = 0) ∧ Elems R s w a xs
/-- Whatever reads at this type (with so much fuel) reads so. -/
def ReaderAt {H : Type} (enc : TypeId × Value → H) (P : Program) (w : World) (fuel : Nat) (t : TypeId) {α : Type} (R : Rd α) : Prop :=
  ∀ cs y, DataW.trod enc P w 0 (fun _ => true) true fuel t cs = some y → (∀ n ∈ y.1.weights P t, n ≤ reachBytes) → ∃ x, R w cs x
section
variable {H : Type} {enc : TypeId × Value → H} {P : Program} {w : World}
theorem reader_int {fuel : Nat} {t : TypeId} {k : IntKind} (ht : P.underlying t = some (.int k)) : ReaderAt enc P w fuel t (RInt k) := by
  intro cs y h _
  obtain ⟨n, h, _, hw⟩ := DataW.trod_int ht h
  exact ⟨n, h, hw⟩
theorem reader_bool {fuel : Nat} {t : TypeId} (ht : P.underlying t = some .bool) : ReaderAt enc P w fuel t RBool := by
  intro cs y h _
  obtain ⟨n, h, _⟩ := DataW.trod_bool ht h
  exact ⟨n, h⟩
theorem reader_string {fuel : Nat} {t : TypeId} (ht : P.underlying t = some .string) : ReaderAt enc P w fuel t RStr := by
  intro cs y h hy
  obtain ⟨s, h1, rfl, hw⟩ := DataW.trod_string ht h
  exact ⟨s, h1, by simpa using hy s.data.toList.length (by simp [DataW.weights])⟩
/-- The fields from place 'off' on. -/
def FieldsAt {H : Type} (enc : TypeId × Value → H) (P : Program) (w : World) (fuel : Nat) (total off : Nat) (fs : List Field) {α : Type} (R : Rd α) : Prop :=
  ∀ (cs : List Value) (xs : List (DataW H × List MemPlace)), cs.length = total → xs.length = fs.length →
    (∀ (i : Nat) (f : Field), fs[i]? = some f → DataW.trod enc P w 0 (fun _ => true) true fuel f.type ((cs.drop f.offset).take (P.cellsOf f.type)) = xs[i]?) →
    (∀ n ∈ DataW.weightsEach P (fs.map (·.type)) (xs.map (·.1)), n ≤ reachBytes) → ∃ x, R w (cs.drop off) x
theorem fields_nil {fuel total : Nat} : FieldsAt enc P w fuel total total [] RNil := by
  intro cs xs hc _ _ _
  exact ⟨(), by simp [RNil, hc]⟩
theorem fields_cons {fuel total off c : Nat} {f : Field} {fs : List Field} {α β : Type} {R : Rd α} {S : Rd β} (hoff : f.offset = off) (hc : P.cellsOf f.type = c)
    (h1 : ReaderAt enc P w fuel f.type R) (h2 : FieldsAt enc P w fuel total (off + c) fs S) : FieldsAt enc P w fuel total off (f :: fs) (RPair R S) := by
  intro cs xs hcs hxs hf hw
  cases xs with
  | nil => simp at hxs
  | cons x xs =>
    simp only [List.map_cons, DataW.weightsEach, List.mem_append] at hw
    have e0 := hf 0 f rfl
    rw [hoff, hc] at e0
    obtain ⟨u, hu⟩ := h1 _ x e0 (fun n hn => hw n (.inl hn))
    obtain ⟨v, hv⟩ := h2 cs xs hcs (by simpa using hxs) (fun i g hg => by simpa using hf (i + 1) g (by simpa using hg)) (fun n hn => hw n (.inr hn))
    refine ⟨(u, v), (cs.drop off).take c, cs.drop (off + c), ?_, hu, hv⟩
    rw [← List.drop_drop, List.take_append_drop]
theorem reader_struct {fuel : Nat} {t : TypeId} {fs : Array Field} {l : List Field} {α : Type} {R : Rd α} {n : Nat} (ht : P.underlying t = some (.struct fs)) (hl : fs.toList = l) (hn : P.cellsOf t = n)
    (h : ∀ m, fuel = m + 1 → FieldsAt enc P w m n 0 l R) : ReaderAt enc P w fuel t R := by
  intro cs y hy hw
  obtain ⟨xs, m, hm, rfl, hlen, hxs, hf⟩ := DataW.trod_struct ht hy
  have := h m hm cs xs (hlen.trans hn) (by rw [hxs, ← hl]; simp) (fun i f hi => hf i f (by rw [← hl] at hi; simpa using hi)) (by
    intro k hk
    refine hw k ?_
    simp only [DataW.weights, ht]
    rw [hl]; exact hk)
  simpa using this
theorem weightsAll_mem {e : TypeId} {n : Nat} : ∀ {ds : List (DataW H)} {d : DataW H}, d ∈ ds → n ∈ d.weights P e → n ∈ DataW.weightsAll P e ds
  | d' :: ds, d, hd, hn => by
    simp only [DataW.weightsAll, List.mem_append]
    rcases List.mem_cons.1 hd with rfl | hd
    · exact .inl hn
    · exact .inr (weightsAll_mem hd hn)
theorem choose_list {α : Type} {p : Nat → α → Prop} : ∀ (n : Nat), (∀ i, i < n → ∃ x, p i x) → ∃ xs : List α, xs.length = n ∧ ∀ i x, xs[i]? = some x → p i x := by
  intro n
  induction n with
  | zero => intro _; exact ⟨[], rfl, by simp⟩
  | succ n ih =>
    intro h
    obtain ⟨xs, hl, hp⟩ := ih (fun i hi => h i (by omega))
    obtain ⟨x, hx⟩ := h n (by omega)
    refine ⟨xs ++ [x], by simp [hl], fun i y hy => ?_⟩
    rw [List.getElem?_append] at hy
    split at hy
    · exact hp i y hy
    · rename_i hi
      have : i = n := by
        have := (List.getElem?_eq_some_iff.1 hy).1
        simp at this; omega
      subst this
      simp [hl] at hy
      exact hy ▸ hx
theorem mapM_cells {n : Nat} {a : Addr} {cs : List Value} (h : w.cells? 0 a n = some cs) : cs.length = n ∧ ∀ j v, cs[j]? = some v → w.cell? (a.add j) = some v := by
  obtain ⟨_, hl, hc⟩ := World.cells?_some h
  refine ⟨hl, fun j v hj => ?_⟩
  have hjn : j < n := by rw [← hl]; exact (List.getElem?_eq_some_iff.1 hj).1
  rw [← hj]
  exact hc j hjn
theorem reader_slice {fuel : Nat} {t e : TypeId} {s bytes : Nat} {α : Type} {R : Rd α} (ht : P.underlying t = some (.slice e)) (hs : P.cellsOf e = s) (hs0 : 0 < s) (hb : P.bytesOf e = bytes)
    (h : ∀ m, fuel = m + 1 → ReaderAt enc P w m e R) : ReaderAt enc P w fuel t (RSlice R s bytes) := by
  intro cs y hy hw
  rcases DataW.trod_slice ht hy with ⟨rfl, rfl⟩ | ⟨a, len, cap, elems, rest, m, hm, rfl, rfl, _, hl, hcap, hlen, hel, hsp, _⟩
  · exact ⟨[], none, 0, rfl, Nat.le_refl _, by unfold maxLen; omega, by simp, fun _ => rfl, fun h => absurd rfl h⟩
  · have hall : ∀ i, i < len → ∃ x, ∃ cs, cs.length = s ∧ (∀ j v, cs[j]? = some v → w.cell? ((a.add (i * s)).add j) = some v) ∧ R w cs x := by
      intro i hi
      have h1 := hel i hi
      rw [hs] at h1
      have hx : elems[i]? = some elems[i] := List.getElem?_eq_getElem (by omega)
      rw [hx] at h1
      obtain ⟨c, hc1, hc2⟩ := Option.bind_eq_some_iff.1 h1
      obtain ⟨hcl, hcc⟩ := mapM_cells hc1
      obtain ⟨x, hx⟩ := h m hm c _ hc2 (fun n hn => hw n (by
        simp only [DataW.weights, ht, List.mem_cons, List.mem_append]
        exact .inr (.inl (weightsAll_mem (List.mem_map.2 ⟨elems[i], List.getElem_mem _, rfl⟩) hn))))
      exact ⟨x, c, hcl, hcc, hx⟩
    obtain ⟨xs, hxl, hxs⟩ := choose_list len hall
    have hrest : rest.length = cap - len := (hsp rfl).1
    refine ⟨xs, some a, cap, by rw [hxl], by omega, hcap, ?_, (fun h => by cases h), ?_⟩
    · have := hw ((elems.length + rest.length) * P.bytesOf e) (by simp [DataW.weights, ht])
      rw [hb, hlen, hrest] at this
      have e1 : len + (cap - len) = cap := by omega
      rwa [e1] at this
    · intro hne
      obtain ⟨b, off, spot⟩ := a
      have hspot : spot = none := by
        cases xs with
        | nil => exact absurd rfl hne
        | cons x xs =>
          obtain ⟨c, hcl, hcc, _⟩ := hxs 0 x rfl
          cases c with
          | nil => simp at hcl; omega
          | cons v c =>
            have := hcc 0 v rfl
            simp [Addr.add] at this
            simpa using World.cell?_spot this
      subst hspot
      refine ⟨b, off, rfl, fun i x hi => ?_⟩
      obtain ⟨c, hcl, hcc, hR⟩ := hxs i x hi
      refine ⟨c, hcl, fun j v hj => ?_, hR⟩
      have := hcc j v hj
      rw [← this]
      congr 1
      unfold Addr.add
      split <;> split <;> simp_all <;> omega
/-! ### a parameter at a time -/
theorem uncons {ts : List TypeId} {t : TypeId} {W : World} {args : List Value} {ds : List (DataW H)} {α : Type} {R : Rd α}
    (h : ∃ base, ∀ (j : Nat) t' v, (t :: ts)[j]? = some t' → args[j]? = some v → Value.okWide P W .any base t' v)
    (hr : ∃ p, DataW.TrodAll enc P W 0 (fun _ => true) true (t :: ts) args ds p) (hz : (DataW.weightsEach P (t :: ts) ds).all (· ≤ reachBytes) = true)
    (hR : ∀ fuel, ReaderAt enc P W fuel t R) :
    ∃ v vs ds' x, args = v :: vs ∧ (∃ base, Value.okWide P W .any base t v) ∧ R W v.cells.toList x ∧
      (∃ base, ∀ (j : Nat) t' v, ts[j]? = some t' → vs[j]? = some v → Value.okWide P W .any base t' v) ∧
      (∃ p, DataW.TrodAll enc P W 0 (fun _ => true) true ts vs ds' p) ∧ (DataW.weightsEach P ts ds').all (· ≤ reachBytes) = true := by
  obtain ⟨base, hv⟩ := h
  obtain ⟨p, hp⟩ := hr
  obtain ⟨v, vs, d, ds', p0, q0, rfl, rfl, rfl, ⟨fuel, hf⟩, h1⟩ := trodAll_cons hp
  simp only [DataW.weightsEach, List.all_append, Bool.and_eq_true] at hz
  obtain ⟨x, hx⟩ := hR fuel _ _ hf (fun n hn => by simpa using List.all_eq_true.1 hz.1 n hn)
  exact ⟨v, vs, ds', x, rfl, ⟨base, hv 0 t v rfl rfl⟩, hx, ⟨base, fun j t' v' a b => hv (j + 1) t' v' a b⟩, ⟨q0, h1⟩, hz.2⟩
theorem wf_i64 {n : Int} (h : (Lit.int .i64 n).wf = true) : -9223372036854775808 ≤ n ∧ n ≤ 9223372036854775807 := by
  simp [Lit.wf, IntKind.min, IntKind.max, IntKind.signed, IntKind.bits] at h
  omega
theorem int_arg {t : TypeId} {W : World} {base : Nat} {v : Value} {n : Int} (ht : P.underlying t = some (.int .i64)) (hv : Value.okWide P W .any base t v) (h : RInt .i64 W v.cells.toList n) :
    v = .int .i64 n ∧ -9223372036854775808 ≤ n ∧ n ≤ 9223372036854775807 := by
  obtain ⟨m, rfl⟩ := okWide_int ht hv
  obtain ⟨h1, h2⟩ := h
  simp [Value.cells] at h1
  subst h1
  exact ⟨rfl, wf_i64 h2⟩
theorem bool_arg {t : TypeId} {W : World} {base : Nat} {v : Value} {b : Bool} (ht : P.underlying t = some .bool) (hv : Value.okWide P W .any base t v) (h : RBool W v.cells.toList b) : v = .bool b := by
  obtain ⟨m, rfl⟩ := okWide_bool ht hv
  simp [Value.cells, RBool] at h
  rw [h]
theorem slice_arg {t e : TypeId} {W : World} {base s bytes : Nat} {v : Value} {α : Type} {R : Rd α} {xs : List α} (ht : P.underlying t = some (.slice e)) (hv : Value.okWide P W .any base t v) (h : RSlice R s bytes W v.cells.toList xs) :
    ∃ a cap, v = .slice a xs.length cap ∧ xs.length ≤ cap ∧ cap ≤ maxLen ∧ cap * bytes ≤ reachBytes ∧ (a = none → cap = 0) ∧ Elems R s W a xs := by
  obtain ⟨a0, len, cap, rfl⟩ := okWide_slice ht hv
  obtain ⟨a, cap', h1, h2⟩ := h
  simp [Value.cells] at h1
  obtain ⟨rfl, rfl, rfl⟩ := h1
  exact ⟨_, _, rfl, h2⟩
theorem string_arg {t : TypeId} {W : World} {base : Nat} {v : Value} {s : ByteArray} (ht : P.underlying t = some .string) (hv : Value.okWide P W .any base t v) (h : RStr W v.cells.toList s) :
    v = .string s ∧ s.size ≤ reachBytes := by
  obtain ⟨s', rfl⟩ := okWide_string ht hv
  obtain ⟨h1, h2⟩ := h
  simp [Value.cells] at h1
  subst h1
  exact ⟨rfl, h2⟩
theorem struct_arg {t : TypeId} {W : World} {base : Nat} {v : Value} {fs : Array Field} (ht : P.underlying t = some (.struct fs)) (hv : Value.okWide P W .any base t v) :
    ∃ cs : Array Value, v = .agg cs ∧ v.cells.toList = cs.toList := by
  obtain ⟨cs, rfl, _⟩ := okWide_struct ht hv
  exact ⟨cs, rfl, rfl⟩
/-- The list of ints at an address. -/
def Ints (w : World) (a : Option Addr) (xs : List Int) : Prop :=
  xs ≠ [] → ∃ b off, a = some ⟨b, off, none⟩ ∧ ∀ i, i < xs.length → w.cell? ⟨b, off + i, none⟩ = some (.int .i64 (xs.getD i 0))
theorem ints_of_elems {a : Option Addr} {xs : List Int} (h : Elems (RInt .i64) 1 w a xs) : Ints w a xs ∧ ∀ x ∈ xs, -9223372036854775808 ≤ x ∧ x ≤ 9223372036854775807 := by
  refine ⟨fun hne => ?_, fun x hx => ?_⟩
  · obtain ⟨b, off, rfl, hh⟩ := h hne
    refine ⟨b, off, rfl, fun i hi => ?_⟩
    obtain ⟨cs, _, hc, h1, _⟩ := hh i (xs.getD i 0) (by rw [List.getElem?_eq_getElem hi]; simp [hi])
    subst h1
    have := hc 0 _ rfl
    simpa using this
  · have hne : xs ≠ [] := by rintro rfl; cases hx
    obtain ⟨b, off, rfl, hh⟩ := h hne
    obtain ⟨i, hi, rfl⟩ := List.mem_iff_getElem.1 hx
    obtain ⟨cs, _, hc, h1, h2⟩ := hh i xs[i] (List.getElem?_eq_getElem hi)
    exact wf_i64 h2
theorem lt_of_cell {w : World} {a : Addr} {v : Value} (h : w.cell? a = some v) : a.block < w.heap.size := by
  unfold World.cell? at h
  rcases Nat.lt_or_ge a.block w.heap.size with h' | h'
  · exact h'
  · rw [Array.getElem?_eq_none h'] at h; cases h
theorem Ints.below {W w : World} {B : Nat} {a : Option Addr} {xs : List Int} (h : Ints W a xs) (hB : W.heap.size ≤ B) (hb : Below B W w) : Ints w a xs := by
  intro hne
  obtain ⟨b, off, rfl, hh⟩ := h hne
  refine ⟨b, off, rfl, fun i hi => ?_⟩
  have h1 := hh i hi
  have := lt_of_cell h1
  rw [hb.cell (show b < B by have h2 : b < W.heap.size := this; omega)]
  exact h1
end
section
variable {H : Type} {enc : TypeId × Value → H} {P : Program} {w : World}
/-- a row of ints as data -/
def rowD (r : List Int) : DataW H := .agg (r.map fun z => .lit (.int .i64 z))
theorem ints_of_fields {fuel ti : Nat} {cs : List Value} {xs : List (DataW H × List MemPlace)} {r : List Int} (hi : P.underlying ti = some (.int .i64)) (hlen : cs.length = xs.length)
    (hx : xs.map (·.1) = r.map fun z => DataW.lit (.int .i64 z)) (h : ∀ i, i < xs.length → DataW.trod enc P w 0 (fun _ => true) false fuel ti ((cs.drop i).take 1) = xs[i]?) :
    cs = r.map (Value.int .i64) := by
  have hr : xs.length = r.length := by simpa using congrArg List.length hx
  apply List.ext_getElem?
  intro i
  rcases Nat.lt_or_ge i xs.length with hlt | hge
  · have h1 := h i hlt
    rw [List.getElem?_eq_getElem hlt] at h1
    obtain ⟨n, e1, e2, _⟩ := DataW.trod_int hi h1
    have e3 : (xs.map (·.1))[i]? = (r.map fun z => DataW.lit (H := H) (.int .i64 z))[i]? := by rw [hx]
    rw [List.getElem?_map, List.getElem?_map, List.getElem?_eq_getElem hlt, List.getElem?_eq_getElem (by omega)] at e3
    simp only [Option.map_some, Option.some.injEq, e2, DataW.lit.injEq, Lit.int.injEq, true_and] at e3
    have e4 : cs[i]? = some (Value.int .i64 n) := by
      have := congrArg (fun l => l[0]?) e1
      simpa [List.getElem?_take, List.getElem?_drop] using this
    rw [e4, List.getElem?_map, List.getElem?_eq_getElem (by omega), e3]
    rfl
  · rw [List.getElem?_eq_none (by omega), List.getElem?_eq_none (by simp; omega)]
theorem row_struct {fuel t ti k : Nat} {fs : Array Field} {cs : List Value} {y : DataW H × List MemPlace} {r : List Int} (ht : P.underlying t = some (.struct fs)) (hi : P.underlying ti = some (.int .i64)) (hc : P.cellsOf ti = 1)
    (hk : P.cellsOf t = k) (hfs : fs.size = k) (hf : (fs.toList.zipIdx.all fun x => x.1.type == ti && x.1.offset == x.2) = true)
    (h : DataW.trod enc P w 0 (fun _ => true) false fuel t cs = some y) (hy : y.1 = rowD r) : cs = r.map (Value.int .i64) := by
  obtain ⟨xs, n, _, rfl, hlen, hxs, hel⟩ := DataW.trod_struct ht h
  have hx : xs.map (·.1) = r.map fun z => DataW.lit (.int .i64 z) := by simpa [rowD] using hy
  refine ints_of_fields (enc := enc) (w := w) (fuel := n) hi (by rw [hlen, hk, hxs, hfs]) hx (fun i hlt => ?_)
  have hi' : fs[i]? = some fs[i] := Array.getElem?_eq_getElem (by omega)
  have h1 := hel i fs[i] hi'
  have h2 := List.all_eq_true.1 hf (fs[i], i) (by rw [List.mem_zipIdx_iff_getElem?]; simp)
  simp only [Bool.and_eq_true, beq_iff_eq] at h2
  rw [h2.1, h2.2, hc] at h1
  exact h1
theorem row_array {fuel t ti k : Nat} {cs : List Value} {y : DataW H × List MemPlace} {r : List Int} (ht : P.underlying t = some (.array k ti)) (hi : P.underlying ti = some (.int .i64)) (hc : P.cellsOf ti = 1)
    (hk : P.cellsOf t = k) (h : DataW.trod enc P w 0 (fun _ => true) false fuel t cs = some y) (hy : y.1 = rowD r) : cs = r.map (Value.int .i64) := by
  obtain ⟨xs, n, _, rfl, hlen, hxs, hel⟩ := DataW.trod_array ht h
  simp only at hy
  have hx : xs.map (·.1) = r.map fun z => DataW.lit (.int .i64 z) := by simpa [rowD] using hy
  refine ints_of_fields (enc := enc) (w := w) (fuel := n) hi (by rw [hlen, hk, hxs]) hx (fun i hlt => ?_)
  have h1 := hel i (by omega)
  rw [hc, Nat.mul_one] at h1
  exact h1
/-- the table at a variable -/
def TabAt (w : World) (g k : Nat) (rows : List (List Int)) : Prop :=
  ∃ b off cap, w.cell? ⟨g, 0, none⟩ = some (.slice (some ⟨b, off, none⟩) rows.length cap) ∧ ∀ (i : Nat) (r : List Int), rows[i]? = some r → r.length = k → ∀ (j : Nat) (z : Int), r[j]? = some z → w.cell? ⟨b, off + i * k + j, none⟩ = some (.int .i64 z)
theorem tab_of_trod {fuel t e k g : Nat} {cs : List Value} {y : DataW H × List MemPlace} {rows : List (List Int)} (ht : P.underlying t = some (.slice e)) (hk : P.cellsOf e = k) (hk0 : 0 < k) (hne : rows ≠ []) (hcell : w.cell? ⟨g, 0, none⟩ = cs[0]?)
    (hrow : ∀ n cs' y' r, DataW.trod enc P w 0 (fun _ => true) false n e cs' = some y' → y'.1 = rowD r → cs' = r.map (Value.int .i64))
    (h : DataW.trod enc P w 0 (fun _ => true) false fuel t cs = some y) (hy : y.1 = .slice (rows.map rowD) []) : TabAt w g k rows := by
  rcases DataW.trod_slice ht h with ⟨rfl, rfl⟩ | ⟨a, len, cap, elems, rest, m, hm, rfl, rfl, _, hl, hcap, hlen, hel, _, _⟩
  · cases hy
  · simp only [DataW.slice.injEq] at hy
    have hrl : elems.length = rows.length := by simpa using congrArg List.length hy.1
    have each : ∀ (i : Nat) (r : List Int), rows[i]? = some r → w.cells? 0 (a.add (i * k)) k = some (r.map (Value.int .i64)) := by
      intro i r hi
      have hlt : i < rows.length := (List.getElem?_eq_some_iff.1 hi).1
      have h1 := hel i (by omega)
      rw [hk, List.getElem?_eq_getElem (show i < elems.length by omega)] at h1
      obtain ⟨c, hc1, hc2⟩ := Option.bind_eq_some_iff.1 h1
      have e1 : (elems[i]'(by omega)).1 = rowD r := by
        have := congrArg (fun l => l[i]?) hy.1
        simp only [List.getElem?_map, List.getElem?_eq_getElem (show i < elems.length by omega), hi, Option.map_some, Option.some.injEq] at this
        exact this
      rw [hc1, hrow _ _ _ _ hc2 e1]
    have hspot : a.spot = none := by
      cases rows with
      | nil => exact absurd rfl hne
      | cons r rows =>
        have h0 := each 0 r rfl
        obtain ⟨_, hl0, hc0⟩ := World.cells?_some h0
        have := hc0 0 hk0
        cases hr : r.map (Value.int .i64) with
        | nil => rw [hr] at hl0; simp at hl0; omega
        | cons v vs =>
          rw [hr] at this
          simp [Addr.add] at this
          obtain ⟨b, off, spot⟩ := a
          simpa using World.cell?_spot this
    obtain ⟨b, off, spot⟩ := a
    simp only at hspot
    subst hspot
    refine ⟨b, off, cap, by rw [hcell, ← hrl, hlen]; rfl, fun i r hi hrk j z hj => ?_⟩
    obtain ⟨_, _, hc0⟩ := World.cells?_some (each i r hi)
    have hjk : j < k := by rw [← hrk]; exact (List.getElem?_eq_some_iff.1 hj).1
    have h1 := hc0 j hjk
    rw [List.getElem?_map, hj] at h1
    have e : (Addr.add ⟨b, off, none⟩ (i * k)).add j = ⟨b, off + i * k + j, none⟩ := by
      unfold Addr.add
      split <;> split <;> simp_all <;> omega
    rw [e] at h1
    exact h1
end
theorem laid_cell {P : Program} {w : World} {n : String} {g : Nat} {cs : Array Value} (hg : P.globalNamed n = some g) (h : w.var? P n = some cs) : w.cell? ⟨g, 0, none⟩ = cs.toList[0]? := by
  rw [World.var?_cell hg h 0]; simp
/-- The step from a walk to the row of a law whose row lists variables. -/
theorem lifted_laid {H : Type} {enc : TypeId × Value → H} {C : Checked} {os : Os} {f : FuncId} {fn : Func} {s : ChangeSpec} {apart fresh handsOn : Bool} {tb : TypeId} {laid : List (String × DataW Unit)}
    (own : ownKnob C.prog.godebug = none) (started : os.Started) (noInit : C.prog.inits.idxOf? f = none) (hfn : C.prog.funcs[f]? = some fn)
    (witness : ∃ (w : World) (tape : Tape) (i : Input), w.os = os ∧ (w.forCall tape i).Shaped C.prog ∧ i.vars = [] ∧ Input.okWide C.prog (w.forCall tape i) .any w.heap.size f i ∧
      ((s.pre enc C.prog fn [] apart (w.forCall tape i).memory i.args ∧ laidMetH C.prog laid (w.forCall tape i).memory) ∧ sizedMet enc C.prog fn (OpenSpec.ofChange s) apart (w.forCall tape i).memory i.args) ∧ ({} : Assume).holds C.prog (lone (Frame.enter C.prog f i.args .normal) [] (w.forCall tape i)))
    (laidOut : laidOutB C.prog = true) (rd : (fn.params.toList.all fun t => C.prog.readableRec t && decide (t < C.prog.types.size)) = true) (hplain : (laid.all fun x => x.2.handleName?.isNone) = true)
    (hvars : s.vars = []) (hres : fn.resultTypes = #[tb]) (hbool : C.prog.underlying tb = some .bool)
    (hspec : ∀ ds : List (DataW H), ds.length = fn.params.size → s.fn H ds = { results := [.lit (.bool true)], args := ds })
    (walk : ∀ (W : World) (args : Array Value) (ds : List (DataW H)), Comes enc C.prog fn.params.toList W args ds → laidMet C.prog laid W →
      Calls C.prog f args W fun e W' => e = .returned (.bool true) ∧ Below W.heap.size W W') :
    ReturnsInHanded {} C os f .any (fun w args => (s.pre enc C.prog fn [] apart w args ∧ laidMetH C.prog laid w) ∧ sizedMet enc C.prog fn (OpenSpec.ofChange s) apart w args) (s.post enc C.prog fn apart fresh handsOn false) := by
  refine returnsInHanded_of_change_and (X := fun w _ => laidMetH C.prog laid w) (fun _ _ _ hh h => h.of_heap hh) own started noInit hfn witness ?_
  intro W base args ds gs before hval hW _ hsz hL _
  rw [MakeChecks.laidMetH_plain _ _ _ hplain] at hL
  have hW' := hW
  obtain ⟨p, q, hA, hV, rfl, hfz, hnd⟩ := hW
  rw [hvars] at hV
  obtain ⟨rfl, rfl⟩ : gs = [] ∧ q = [] := by
    cases gs with
    | nil => exact ⟨rfl, hV⟩
    | cons g gs => exact hV.elim
  have hlen : ∀ {ts : List TypeId} {vs : List Value} {ds : List (DataW H)} {ps : List MemPlace}, DataW.TrodAll enc C.prog W 0 (fun _ => true) true ts vs ds ps → ds.length = ts.length := by
    intro ts
    induction ts with
    | nil => intro vs ds ps h; obtain ⟨rfl, rfl, rfl⟩ := trodAll_nil h; rfl
    | cons t ts ih =>
      intro vs ds ps h
      obtain ⟨v, vs', d, ds', p, q, rfl, rfl, rfl, h0, h1⟩ := trodAll_cons h
      simp [ih h1]
  have hl := hlen hA
  have hvt : s.plain.varTypes C.prog = [] := by simp [DataSpec.varTypes, ChangeSpec.plain, hvars]
  rw [hvt, List.append_nil, List.append_nil] at hsz
  refine (walk W args ds ⟨⟨base, fun j t v h1 h2 => hval j t v (by simpa using h1) h2⟩, ⟨p, hA⟩, hsz⟩ hL).mono fun e W' ⟨he, bel⟩ => ?_
  subst he
  have hfnEq := hspec ds (by simpa using hl)
  refine ⟨_, rfl, ds, [], p ++ [], [], p, [], hW', ?_, ?_, ?_, bel.frame _, fun h => by cases h⟩
  · rw [hres, List.append_nil, hfnEq]
    exact trodAll_mk1 (shut_bool hbool _)
  · rw [List.append_nil, hfnEq]
    exact trodAll_below laidOut bel rd hA (trodAll_lt hA)
  · rw [List.append_nil, hfnEq, hvars]
    rfl
end Go.Law
namespace Go.Law
open Go.RowKit
theorem bcell {B : Nat} {W w1 : World} (hb : Below B W w1) : (∀ b o, b < B → w1.cell? ⟨b, o, none⟩ = W.cell? ⟨b, o, none⟩) ∧ (∀ b o, b < B → w1.frozen? ⟨b, o, none⟩ = W.frozen? ⟨b, o, none⟩) :=
  ⟨fun b o h => hb.cell (p := ⟨b, o, none⟩) h, fun b o h => hb.frozen (p := ⟨b, o, none⟩) h⟩
theorem vint {k : IntKind} {a b : Int} (h : a = b) : Value.int k a = Value.int k b := by rw [h]
theorem quiet_call {P : Program} {f : FuncId} {args : Array Value} {w : World} {n : Nat} {v : Value}
    (h : Calls P f args (w.drewN n) fun e w' => e = .returned v ∧ w.drewN n = w') : Calls P f args (w.drewN n) fun e w'' => e = .returned v ∧ ∃ m, w'' = w.drewN m :=
  h.mono fun _ _ ⟨he, hm⟩ => ⟨he, n, hm.symm⟩
def casesT : List (List Int) := [[65, 90, 32], [192, 214, 32], [216, 222, 32], [913, 929, 32], [931, 937, 32], [1024, 1039, 80], [1040, 1071, 32]]
def lettersT : List (List Int) := [[48, 57], [65, 90], [95, 95], [97, 122], [192, 591], [880, 1535]]
def tableT : List (List Int) := [[9, 9, 11], [10, 10, 10], [0, 31, 9], [32, 32, 12], [35, 37, 5], [43, 43, 4], [45, 45, 4], [44, 44, 7], [46, 47, 7], [58, 58, 7], [48, 57, 3], [33, 64, 13], [91, 96, 13], [123, 126, 13], [127, 159, 9], [160, 160, 7], [162, 165, 5], [173, 173, 9], [176, 177, 5], [170, 170, 0], [181, 181, 0], [186, 186, 0], [161, 191, 13], [215, 215, 13], [247, 247, 13], [768, 879, 8], [1425, 1469, 8], [1471, 1471, 8], [1473, 1474, 8], [1424, 1535, 1], [1552, 1562, 8], [1611, 1631, 8], [1632, 1641, 6], [1643, 1644, 6], [1776, 1785, 3], [1536, 1983, 2], [1984, 2143, 1], [2144, 2303, 2], [8192, 8202, 12], [8203, 8205, 9], [8206, 8206, 0], [8207, 8207, 1], [8234, 8234, 14], [8235, 8235, 15], [8236, 8236, 18], [8237, 8237, 16], [8238, 8238, 17], [8239, 8239, 7], [8288, 8293, 9], [8294, 8294, 19], [8295, 8295, 20], [8296, 8296, 21], [8297, 8297, 22], [8352, 8399, 5], [8208, 8287, 13], [8592, 11263, 13], [12288, 12288, 12], [12289, 12292, 13], [12296, 12320, 13], [64285, 64335, 1], [64336, 65023, 2], [65024, 65039, 8], [65136, 65278, 2], [65279, 65279, 9], [65529, 65533, 13]]
def bracketsT : List (List Int) := [[40, 41], [91, 93], [123, 125], [12300, 12301], [60, 62], [171, 187], [8249, 8250]]
/-- entry j of row i -/
def ent (T : List (List Int)) (i j : Nat) : Int := (T.getD i []).getD j 0
def hit (T : List (List Int)) (c : Int) (i : Nat) : Bool := decide (ent T i 0 ≤ c ∧ c ≤ ent T i 1)
/-- the first row whose range holds c -/
def findR (T : List (List Int)) (c : Int) : Option Nat := (List.range T.length).find? (hit T c)
theorem findR_some {T : List (List Int)} {c : Int} {k : Nat} (hk : k < T.length) (hn : ∀ j, j < k → hit T c j = false) (hh : hit T c k = true) : findR T c = some k := by
  unfold findR
  rw [List.find?_eq_some_iff_getElem]
  refine ⟨hh, k, by simpa using hk, by simp, fun j hj => by simp [hn j hj]⟩
theorem findR_none {T : List (List Int)} {c : Int} (hn : ∀ j, j < T.length → hit T c j = false) : findR T c = none := by
  unfold findR
  rw [List.find?_eq_none]
  intro x hx
  simp [hn x (by simpa using hx)]
/-- the rows of a table, entry by entry -/
theorem TabAt.ents {w : World} {g k : Nat} {T : List (List Int)} (h : TabAt w g k T) (hk : ∀ r ∈ T, r.length = k) :
    ∃ b off cap, w.cell? ⟨g, 0, none⟩ = some (.slice (some ⟨b, off, none⟩) T.length cap) ∧ ∀ i j, i < T.length → j < k → w.cell? ⟨b, off + i * k + j, none⟩ = some (.int .i64 (ent T i j)) := by
  obtain ⟨b, off, cap, h1, h2⟩ := h
  refine ⟨b, off, cap, h1, fun i j hi hj => ?_⟩
  have hr : T[i]? = some T[i] := List.getElem?_eq_getElem hi
  have hl := hk T[i] (List.getElem_mem _)
  have := h2 i T[i] hr hl j (T[i].getD j 0) (by rw [List.getElem?_eq_getElem (by omega)]; simp [List.getElem?_eq_getElem (show j < T[i].length by omega)])
  rw [this]
  unfold ent
  simp [hi]
theorem TabAt.below {W w : World} {B g k : Nat} {T : List (List Int)} (h : TabAt W g k T) (hk : ∀ r ∈ T, r.length = k) (hk0 : 0 < k) (hne : T ≠ []) (hB : W.heap.size ≤ B) (hb : Below B W w) : TabAt w g k T := by
  obtain ⟨b, off, cap, h1, h2⟩ := h
  have hg : g < W.heap.size := lt_of_cell h1
  have hbl : b < W.heap.size := by
    cases T with
    | nil => exact absurd rfl hne
    | cons r T =>
      have hl := hk r (by simp)
      exact lt_of_cell (h2 0 r rfl hl 0 (r.getD 0 0) (by rw [List.getElem?_eq_getElem (by omega)]; simp [List.getElem?_eq_getElem (show 0 < r.length by omega)]))
  refine ⟨b, off, cap, by rw [hb.cell (show g < B by omega)]; exact h1, fun i r hi hl j z hj => ?_⟩
  rw [hb.cell (show b < B by omega)]
  exact h2 i r hi hl j z hj
end Go.Law
namespace Go.Law
def dirAT : List (List Int) := [[9, 9, 11], [10, 10, 10], [0, 31, 9], [32, 32, 12], [35, 37, 5], [43, 43, 4], [45, 45, 4], [44, 44, 7], [46, 47, 7], [58, 58, 7], [48, 57, 3], [33, 64, 13], [91, 96, 13], [123, 126, 13], [127, 159, 9], [160, 160, 7], [162, 165, 5], [173, 173, 9], [176, 177, 5]]
def dirST : List (List Int) := [[170, 170, 0], [181, 181, 0], [186, 186, 0], [161, 191, 13], [215, 215, 13], [247, 247, 13], [768, 879, 8], [1425, 1469, 8], [1471, 1471, 8], [1473, 1473, 8], [1474, 1474, 8], [1552, 1562, 8], [1611, 1631, 8], [65024, 65039, 8], [1424, 1535, 1], [1984, 2143, 1], [8207, 8207, 1], [64285, 64335, 1], [1632, 1641, 6], [1643, 1643, 6], [1644, 1644, 6], [1776, 1785, 3], [1536, 1983, 2], [2144, 2303, 2], [64336, 65023, 2], [65136, 65278, 2], [8192, 8202, 12], [12288, 12288, 12], [8203, 8205, 9], [8288, 8293, 9], [65279, 65279, 9], [8234, 8234, 14], [8235, 8235, 15], [8236, 8236, 18], [8237, 8237, 16], [8238, 8238, 17], [8239, 8239, 7], [8294, 8294, 19], [8295, 8295, 20], [8296, 8296, 21], [8297, 8297, 22], [8352, 8399, 5], [8208, 8287, 13], [8592, 11263, 13], [12289, 12292, 13], [12296, 12320, 13], [65529, 65533, 13]]
def edgesL : List Int := [9, 10, 32, 33, 48, 57, 65, 90, 97, 122, 126, 127, 159, 160, 173, 192, 222, 223, 591, 768, 879, 880, 1327, 1424, 1471, 1535, 1536, 1552, 1632, 1776, 1983, 1984, 2143, 2144, 2303, 4352, 4447, 8192, 8202, 8203, 8207, 8208, 8212, 8234, 8239, 8287, 8288, 8297, 8352, 8592, 11263, 11904, 12288, 12296, 12320, 42191, 44032, 55203, 63744, 64255, 64285, 64336, 65023, 65024, 65136, 65279, 65280, 65376, 65529, 65532, 131072, 262141]
def pairsL : List Int := [40, 41, 91, 93, 123, 125, 12300, 12301, 60, 62, 171, 187, 8249, 8250]
/-- the class of the first row that holds c -/
def lookR (c : Int) : List (List Int) → Int
  | [] => 0
  | r :: t => if c < r.getD 0 0 ∨ r.getD 1 0 < c then lookR c t else r.getD 2 0
theorem lookR_append (c : Int) : ∀ (S T : List (List Int)), (∀ i, i < S.length → hit S c i = false) → lookR c (S ++ T) = lookR c T
  | [], T, _ => rfl
  | r :: S, T, h => by
    have h0 := h 0 (by simp)
    have h0' : c < r.getD 0 0 ∨ r.getD 1 0 < c := by
      simp only [hit, ent, List.getD_cons_zero, decide_eq_false_iff_not] at h0; omega
    show (if _ then _ else _) = _
    rw [if_pos h0']
    exact lookR_append c S T fun i hi => by
      have := h (i + 1) (by simpa using hi)
      simpa [hit, ent] using this
theorem lookR_hit (c : Int) : ∀ (S : List (List Int)) (k : Nat), k < S.length → (∀ i, i < k → hit S c i = false) → hit S c k = true → lookR c S = ent S k 2
  | r :: S, 0, _, _, hk => by
    have h0' : ¬ (c < r.getD 0 0 ∨ r.getD 1 0 < c) := by
      simp only [hit, ent, List.getD_cons_zero, decide_eq_true_eq] at hk; omega
    show (if _ then _ else _) = _
    rw [if_neg h0']; rfl
  | r :: S, k + 1, hl, hn, hk => by
    have h0 := hn 0 (by omega)
    have h0' : c < r.getD 0 0 ∨ r.getD 1 0 < c := by
      simp only [hit, ent, List.getD_cons_zero, decide_eq_false_iff_not] at h0; omega
    show (if _ then _ else _) = _
    rw [if_pos h0']
    rw [lookR_hit c S k (by simpa using hl) (fun i hi => by simpa [hit, ent] using hn (i + 1) (by omega)) (by simpa [hit, ent] using hk)]
    simp [ent]
theorem lookR_hit_append (c : Int) (S T : List (List Int)) (k : Nat) (hk : k < S.length) (hn : ∀ i, i < k → hit S c i = false) (hh : hit S c k = true) : lookR c (S ++ T) = ent S k 2 := by
  have e : ∀ i, i < S.length → hit (S ++ T) c i = hit S c i := fun i hi => by simp [hit, ent, List.getElem?_append_left hi]
  rw [lookR_hit c (S ++ T) k (by simp; omega) (fun i hi => by rw [e i (by omega)]; exact hn i hi) (by rw [e k hk]; exact hh)]
  simp [ent, List.getElem?_append_left hk]
/-- c and p lie alike to every row -/
theorem lookR_alike (c p : Int) : ∀ (S : List (List Int)), (∀ r ∈ S, (c < r.getD 0 0 ∨ r.getD 1 0 < c) ↔ (p < r.getD 0 0 ∨ r.getD 1 0 < p)) → lookR c S = lookR p S
  | [], _ => rfl
  | r :: S, h => by
    have h0 := h r (by simp)
    have ih := lookR_alike c p S fun r' hr => h r' (by simp [hr])
    show (if _ then _ else _) = (if _ then _ else _)
    by_cases h1 : c < r.getD 0 0 ∨ r.getD 1 0 < c
    · rw [if_pos h1, if_pos (h0.1 h1), ih]
    · rw [if_neg h1, if_neg fun h2 => h1 (h0.2 h2)]
def breaks (S : List (List Int)) : List Int := S.flatMap fun r => [r.getD 0 0, r.getD 1 0 + 1]
theorem greatest_below (c : Int) : ∀ (l : List Int), (∃ x ∈ l, x ≤ c) → ∃ p ∈ l, p ≤ c ∧ ∀ x ∈ l, x ≤ c → x ≤ p
  | [], ⟨x, hx, _⟩ => by cases hx
  | y :: l, h => by
    by_cases hl : ∃ x ∈ l, x ≤ c
    · obtain ⟨p, hp, hpc, hm⟩ := greatest_below c l hl
      by_cases hy : y ≤ c ∧ p < y
      · exact ⟨y, by simp, hy.1, fun x hx hxc => by rcases List.mem_cons.1 hx with rfl | hx; omega; have := hm x hx hxc; omega⟩
      · exact ⟨p, by simp [hp], hpc, fun x hx hxc => by rcases List.mem_cons.1 hx with rfl | hx; omega; exact hm x hx hxc⟩
    · obtain ⟨x, hx, hxc⟩ := h
      rcases List.mem_cons.1 hx with rfl | hx'
      · exact ⟨x, by simp, hxc, fun z hz hzc => by rcases List.mem_cons.1 hz with rfl | hz; omega; exact absurd ⟨z, hz, hzc⟩ hl⟩
      · exact absurd ⟨x, hx', hxc⟩ hl
theorem lookR_break (c p : Int) (S : List (List Int)) (hpc : p ≤ c) (hm : ∀ x ∈ breaks S, x ≤ c → x ≤ p) : lookR c S = lookR p S :=
  lookR_alike c p S fun r hr => by
    have h1 := hm (r.getD 0 0) (by unfold breaks; simp only [List.mem_flatMap]; exact ⟨r, hr, by simp⟩)
    have h2 := hm (r.getD 1 0 + 1) (by unfold breaks; simp only [List.mem_flatMap]; exact ⟨r, hr, by simp⟩)
    omega
theorem lookR_low (c : Int) : ∀ (S : List (List Int)), (∀ r ∈ S, c < r.getD 0 0) → lookR c S = 0
  | [], _ => rfl
  | r :: S, h => by
    show (if _ then _ else _) = _
    rw [if_pos (.inl (h r (by simp)))]
    exact lookR_low c S fun r' hr => h r' (by simp [hr])
/-- Two tables that agree where ranges begin and end agree everywhere. -/
theorem lookR_same (S T : List (List Int)) (h : ((breaks S ++ breaks T).all fun p => lookR p S == lookR p T) = true) (c : Int) : lookR c S = lookR c T := by
  by_cases hx : ∃ x ∈ breaks S ++ breaks T, x ≤ c
  · obtain ⟨p, hp, hpc, hm⟩ := greatest_below c _ hx
    rw [lookR_break c p S hpc fun x hx => hm x (by simp [hx]), lookR_break c p T hpc fun x hx => hm x (by simp [hx])]
    simpa using List.all_eq_true.1 h p hp
  · have low : ∀ U : List (List Int), (∀ x ∈ breaks U, ¬ x ≤ c) → lookR c U = 0 := fun U hU => lookR_low c U fun r hr => by
      have := hU (r.getD 0 0) (by unfold breaks; simp only [List.mem_flatMap]; exact ⟨r, hr, by simp⟩)
      omega
    rw [low S fun x h1 h2 => hx ⟨x, by simp [h1], h2⟩, low T fun x h1 h2 => hx ⟨x, by simp [h1], h2⟩]
theorem tables_same (c : Int) : lookR c tableT = lookR c (dirAT ++ dirST) := lookR_same _ _ (by decide +kernel) c
end Go.Law
namespace Go.Law
open Go.RowKit
/-- n structs of s cells at an address -/
def CellsF (w : World) (a : Option Addr) (n s : Nat) (V : Nat → Nat → Value) : Prop :=
  0 < n → ∃ b off, a = some ⟨b, off, none⟩ ∧ ∀ i, i < n → ∀ j, j < s → w.cell? ⟨b, off + i * s + j, none⟩ = some (V i j)
theorem CellsF.below {W w : World} {B : Nat} {a : Option Addr} {n s : Nat} {V : Nat → Nat → Value} (h : CellsF W a n s V) (hB : W.heap.size ≤ B) (hb : Below B W w) : CellsF w a n s V := by
  intro hn
  obtain ⟨b, off, rfl, hh⟩ := h hn
  refine ⟨b, off, rfl, fun i hi j hj => ?_⟩
  have h1 := hh i hi j hj
  have hlt : b < W.heap.size := lt_of_cell h1
  rw [hb.cell (show b < B by omega)]
  exact h1
theorem CellsF.take {w : World} {a : Option Addr} {n m s : Nat} {V : Nat → Nat → Value} (h : CellsF w a n s V) (hm : m ≤ n) : CellsF w a m s V := by
  intro h0
  obtain ⟨b, off, rfl, hc⟩ := h (by omega)
  exact ⟨b, off, rfl, fun i hi j hj => hc i (by omega) j hj⟩
theorem CellsF.of_elems {α : Type} {R : Rd α} {s : Nat} {w : World} {a : Option Addr} {xs : List α} {g : α → Nat → Value} (h : Elems R s w a xs) (d : α) (hR : ∀ cs x, R w cs x → ∀ j, j < s → cs[j]? = some (g x j)) :
    CellsF w a xs.length s (fun i j => g (xs.getD i d) j) := by
  intro hn
  obtain ⟨b, off, rfl, hh⟩ := h (by rintro rfl; simp at hn)
  refine ⟨b, off, rfl, fun i hi j hj => ?_⟩
  have hx := List.getElem?_eq_getElem hi
  obtain ⟨cs, hl, hc, hr⟩ := hh i _ hx
  have := hc j _ (hR cs _ hr j hj)
  rw [this]
  simp [List.getD, hx]
end Go.Law
namespace Go.Law
def firstE (f : Nat → Int) : Nat → Int
  | 0 => 0
  | n + 1 => if firstE f n ≠ 0 then firstE f n else f n
theorem firstE_none {f : Nat → Int} {n : Nat} (h : ∀ i, i < n → f i = 0) : firstE f n = 0 := by
  induction n with
  | zero => rfl
  | succ n ih => simp only [firstE]; rw [ih (fun i hi => h i (by omega)), if_neg (by simp), h n (by omega)]
theorem firstE_at {f : Nat → Int} {n k : Nat} (hk : k < n) (h : ∀ i, i < k → f i = 0) (hg : f k ≠ 0) : firstE f n = f k := by
  induction n with
  | zero => omega
  | succ n ih =>
    simp only [firstE]
    by_cases hkn : k = n
    · subst hkn; rw [firstE_none h, if_neg (by simp)]
    · rw [ih (by omega), if_pos hg]
theorem firstE_zero {f : Nat → Int} {n : Nat} (h : firstE f n = 0) : ∀ i, i < n → f i = 0 := by
  intro i hi
  induction n with
  | zero => omega
  | succ n ih =>
    simp only [firstE] at h
    by_cases h1 : firstE f n = 0
    · rw [if_neg (by simpa using h1)] at h
      by_cases hin : i = n
      · rw [hin]; exact h
      · exact ih h1 (by omega)
    · rw [if_pos h1] at h; exact absurd h h1
end Go.Law
namespace Go.Law
open Go.RowKit
/-- n ints at an address. -/
def IntsF (w : World) (a : Option Addr) (n : Nat) (f : Nat → Int) : Prop :=
  0 < n → ∃ b off, a = some ⟨b, off, none⟩ ∧ ∀ i, i < n → w.cell? ⟨b, off + i, none⟩ = some (.int .i64 (f i))
/-- Block g is a row of the call's own, not frozen; its first n cells hold the ints f. -/
def OwnF (w : World) (e : TypeId) (g : Nat) (n : Nat) (f : Nat → Int) : Prop :=
  ∃ cur, w.heap[g]? = some (.cells cur e (0, 0)) ∧ n ≤ cur.size ∧ ∀ i, i < n → cur[i]? = some (.int .i64 (f i))
theorem IntsF.of_ints {w : World} {a : Option Addr} {xs : List Int} (h : Ints w a xs) : IntsF w a xs.length (fun i => xs.getD i 0) := by
  intro hn
  obtain ⟨b, off, rfl, hh⟩ := h (by rintro rfl; simp at hn)
  exact ⟨b, off, rfl, hh⟩
theorem IntsF.below {W w : World} {B : Nat} {a : Option Addr} {n : Nat} {f : Nat → Int} (h : IntsF W a n f) (hB : W.heap.size ≤ B) (hb : Below B W w) : IntsF w a n f := by
  intro hn
  obtain ⟨b, off, rfl, hh⟩ := h hn
  refine ⟨b, off, rfl, fun i hi => ?_⟩
  have h1 := hh i hi
  have hlt : b < W.heap.size := lt_of_cell h1
  rw [hb.cell (show b < B by omega)]
  exact h1
theorem IntsF.alloc {w : World} {a : Option Addr} {n : Nat} {f : Nat → Int} (h : IntsF w a n f) (o : Obj) : IntsF (w.alloc o) a n f :=
  h.below (Nat.le_refl _) ((Below.refl _ _).alloc (Nat.le_refl _) _)
theorem IntsF.congr {w : World} {a : Option Addr} {n : Nat} {f f' : Nat → Int} (h : IntsF w a n f) (e : ∀ i, i < n → f i = f' i) : IntsF w a n f' := by
  intro hn
  obtain ⟨b, off, rfl, hh⟩ := h hn
  exact ⟨b, off, rfl, fun i hi => by rw [← e i hi]; exact hh i hi⟩
theorem IntsF.zero (w : World) (a : Option Addr) (f : Nat → Int) : IntsF w a 0 f := fun h => by omega
theorem OwnF.cell {w : World} {e : TypeId} {g n : Nat} {f : Nat → Int} (h : OwnF w e g n f) {i : Nat} (hi : i < n) : w.cell? ⟨g, i, none⟩ = some (.int .i64 (f i)) := by
  obtain ⟨cur, hc, _, hf⟩ := h
  simp [World.cell?, hc, hf i hi]
theorem OwnF.frozen {w : World} {e : TypeId} {g n : Nat} {f : Nat → Int} (h : OwnF w e g n f) (i : Nat) : w.frozen? ⟨g, i, none⟩ = false := by
  obtain ⟨cur, hc, _, _⟩ := h
  simp [World.frozen?, hc]
theorem OwnF.ints {w : World} {e : TypeId} {g n : Nat} {f : Nat → Int} (h : OwnF w e g n f) : IntsF w (some ⟨g, 0, none⟩) n f :=
  fun _ => ⟨g, 0, rfl, fun i hi => by rw [Nat.zero_add]; exact h.cell hi⟩
theorem OwnF.congr {w : World} {e : TypeId} {g n : Nat} {f f' : Nat → Int} (h : OwnF w e g n f) (he : ∀ i, i < n → f i = f' i) : OwnF w e g n f' := by
  obtain ⟨cur, hc, hn, hf⟩ := h
  exact ⟨cur, hc, hn, fun i hi => by rw [← he i hi]; exact hf i hi⟩
theorem OwnF.lt {w : World} {e : TypeId} {g n : Nat} {f : Nat → Int} (h : OwnF w e g n f) : g < w.heap.size := by
  obtain ⟨cur, hc, _⟩ := h
  exact (Array.getElem?_eq_some_iff.1 hc).1
theorem OwnF.block {w w' : World} {e : TypeId} {g n : Nat} {f : Nat → Int} (h : OwnF w e g n f) (hb : w'.heap[g]? = w.heap[g]?) : OwnF w' e g n f := by
  obtain ⟨cur, hc, r⟩ := h
  exact ⟨cur, by rw [hb]; exact hc, r⟩
theorem OwnF.below {w w' : World} {e : TypeId} {g n B : Nat} {f : Nat → Int} (h : OwnF w e g n f) (hb : Below B w w') (hg : g < B) : OwnF w' e g n f := h.block (hb.block g hg)
theorem OwnF.alloc {w : World} {e : TypeId} {g n : Nat} {f : Nat → Int} (h : OwnF w e g n f) (o : Obj) : OwnF (w.alloc o) e g n f := h.block (Below.heap_alloc _ _ _ h.lt)
theorem OwnF.drew {w : World} {e : TypeId} {g n : Nat} {f : Nat → Int} (h : OwnF w e g n f) : OwnF w.drew e g n f := h.block rfl
theorem OwnF.drewN {w : World} {e : TypeId} {g n : Nat} {f : Nat → Int} (h : OwnF w e g n f) (k : Nat) : OwnF (w.drewN k) e g n f := h.block rfl
theorem OwnF.other {w : World} {e : TypeId} {g n : Nat} {f : Nat → Int} (h : OwnF w e g n f) {a : Addr} (ha : g ≠ a.block) (u : Value) : OwnF (w.setCell a u) e g n f :=
  h.block (Below.heap_setCell _ _ _ _ ha)
/-- the function f with x at i -/
def upd (f : Nat → Int) (i : Nat) (x : Int) : Nat → Int := fun j => if j = i then x else f j
theorem OwnF.set {w : World} {e : TypeId} {g n : Nat} {f : Nat → Int} (h : OwnF w e g n f) (i : Nat) (x : Int) : OwnF (w.setCell ⟨g, i, none⟩ (.int .i64 x)) e g n (upd f i x) := by
  obtain ⟨cur, hc, hn, hf⟩ := h
  refine ⟨cur.setIfInBounds i (.int .i64 x), ?_, by simpa using hn, fun j hj => ?_⟩
  · simp only [World.setCell, Array.getElem?_modify, hc, Option.map_some]
    simp
  · unfold upd
    by_cases hij : j = i
    · subst hij
      rw [if_pos rfl, Array.getElem?_setIfInBounds_self_of_lt (by omega)]
    · rw [if_neg hij, Array.getElem?_setIfInBounds_ne (by omega)]
      exact hf j hj
theorem OwnF.new {w : World} (e : TypeId) (cs : Array Value) (n : Nat) (f : Nat → Int) (hn : n ≤ cs.size) (hf : ∀ i, i < n → cs[i]? = some (.int .i64 (f i))) : OwnF (w.alloc (.cells cs e)) e w.heap.size n f :=
  ⟨cs, by show (w.heap.push _)[_]? = _; simp, hn, hf⟩
theorem OwnF.make {w : World} (e : TypeId) (n : Nat) : OwnF (w.alloc (.cells (madeCells #[.int .i64 0] n) e)) e w.heap.size n (fun _ => 0) := by
  refine OwnF.new e _ n _ (by rw [size_madeCells]; omega) (fun i hi => ?_)
  have h1 : i % 1 = 0 := by omega
  simp [madeCells, hi, h1]
/-- Out of the kit's word for a row that the call appends to. -/
theorem OwnF.of_row {w : World} {base e n : Nat} {v : Value} {xs : List Value} {f : Nat → Int} (h : w.ownsRow base e 1 v n xs) (hx : ∀ i, i < n → xs[i]? = some (.int .i64 (f i))) (hn : 0 < n) :
    ∃ g cap, v = .slice (some ⟨g, 0, none⟩) n cap ∧ base ≤ g ∧ n ≤ cap ∧ cap ≤ maxLen ∧ OwnF w e g n f := by
  obtain ⟨hl, h⟩ := h
  rcases h with ⟨_, h0⟩ | ⟨g, cap, cur, hv, hg, hh, hnc, hcm, hcs, ht⟩
  · omega
  · refine ⟨g, cap, hv, hg, hnc, hcm, cur, hh, by rw [hcs]; omega, fun i hi => ?_⟩
    have h1 := hx i hi
    rw [← ht, List.getElem?_take_of_lt (by omega)] at h1
    simpa using h1
theorem ownBlock_ge {w : World} {base e size n : Nat} {v : Value} {xs : List Value} (h : w.ownsRow base e size v n xs) : ∀ k, v.ownBlock = some k → base ≤ k := by
  intro k hk
  obtain ⟨_, ⟨rfl, _⟩ | ⟨g, cap, cur, rfl, hg, _⟩⟩ := h
  · cases hk
  · simp [Value.ownBlock] at hk
    omega
/-- behind an append to a row of the call's own -/
theorem below_grown {B e size n : Nat} {W w w' : World} {v : Value} {xs : List Value} {o : Obj} (hb : Below B W w) (hB : B ≤ w.heap.size) (h : w.ownsRow B e size v n xs) (hg : (w.alloc o).grownBy w' v.ownBlock) : Below B W w' :=
  (hb.alloc hB o).grown hg (by simp; omega) (ownBlock_ge h)
/-- the row while its part from l to h is turned round: k steps done -/
def mid (f : Nat → Int) (l h k : Nat) : Nat → Int := fun j => if (l ≤ j ∧ j < l + k) ∨ (h ≤ j + k ∧ j < h) then f (l + h - 1 - j) else f j
theorem mid_zero (f : Nat → Int) (l h : Nat) (j : Nat) : mid f l h 0 j = f j := by
  unfold mid; rw [if_neg (by omega)]
theorem mid_at (f : Nat → Int) {l h k a : Nat} (ha : a = l + k) (hk : 2 * k + 1 < h - l) : mid f l h k a = f a := by
  unfold mid; rw [if_neg (by omega)]
theorem mid_at' (f : Nat → Int) {l h k b : Nat} (hb : b + k + 1 = h) (hk : 2 * k + 1 < h - l) : mid f l h k b = f b := by
  unfold mid; rw [if_neg (by omega)]
theorem mid_step (f : Nat → Int) {l h k a b : Nat} (ha : a = l + k) (hb : b + k + 1 = h) (j : Nat) :
    upd (upd (mid f l h k) a (f b)) b (f a) j = mid f l h (k + 1) j := by
  subst ha
  unfold upd mid
  by_cases h1 : j = b
  · subst h1
    rw [if_pos rfl, if_pos (by omega)]; congr 1; omega
  · rw [if_neg h1]
    by_cases h2 : j = l + k
    · subst h2
      rw [if_pos rfl, if_pos (by omega)]; congr 1; omega
    · rw [if_neg h2]
      by_cases h3 : (l ≤ j ∧ j < l + k) ∨ (h ≤ j + k ∧ j < h)
      · rw [if_pos h3, if_pos (by omega)]
      · rw [if_neg h3, if_neg (by omega)]
theorem mid_end (f : Nat → Int) {l h k : Nat} (hk : h - l ≤ 2 * k + 1) (hk' : 2 * k ≤ h - l + 1) (j : Nat) : mid f l h k j = if l ≤ j ∧ j < h then f (l + h - 1 - j) else f j := by
  unfold mid
  by_cases h1 : l ≤ j ∧ j < h
  · rw [if_pos h1]
    by_cases h2 : (l ≤ j ∧ j < l + k) ∨ (h ≤ j + k ∧ j < h)
    · rw [if_pos h2]
    · rw [if_neg h2]; congr 1; omega
  · rw [if_neg h1, if_neg (by omega)]
end Go.Law
