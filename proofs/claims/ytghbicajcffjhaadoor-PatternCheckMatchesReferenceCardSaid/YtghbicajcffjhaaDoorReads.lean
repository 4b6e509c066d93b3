/-
  How a law's arguments read: each parameter's cells as a Lean value, by the shape of its type.
  Conditions: none of its own; it speaks of values that read as data within the reach.
-/
import Derived.Test.YtghbicajcffjhaaDoorLift
import Derived.ChangeArms
import Derived.ChangeMaps5
namespace Go.Law
open Go.ChangeShapes Go.WideShapes Go.ChangeAt Go.RowKit

/-- Some cells of a world read as a Lean value. -/
abbrev Rd (α : Type) := World → List Value → α → Prop

def RInt (k : IntKind) : Rd Int := fun _ cs n => cs = [.int k n] ∧ (Lit.int k n).wf = true
def RBool : Rd Bool := fun _ cs b => cs = [.bool b]
def RStr : Rd ByteArray := fun _ cs s => cs = [.string s] ∧ s.size ≤ reachBytes
def RNil : Rd Unit := fun _ cs _ => cs = []
def RPair {α β : Type} (R : Rd α) (S : Rd β) : Rd (α × β) := fun w cs x => ∃ c d, cs = c ++ d ∧ R w c x.1 ∧ S w d x.2
/-- The elements of a row: element i at 'off + i * s'. -/
def Elems {α : Type} (R : Rd α) (s : Nat) (w : World) (a : Option Addr) (xs : List α) : Prop :=
  xs ≠ [] → ∃ b off, a = some ⟨b, off, none⟩ ∧ ∀ (i : Nat) (x : α), xs[i]? = some x → ∃ cs, cs.length = s ∧ (∀ j v, cs[j]? = some v → w.cell? ⟨b, off + i * s + j, none⟩ = some v) ∧ R w cs x
def RSlice {α : Type} (R : Rd α) (s bytes : Nat) : Rd (List α) := fun w cs xs =>
  ∃ a cap, cs = [.slice a xs.length cap] ∧ xs.length ≤ cap ∧ cap ≤ maxLen ∧ cap * bytes ≤ reachBytes ∧ (a = none → cap = 0) ∧ Elems R s w a xs

/-- Whatever reads at this type (with so much fuel) reads so. -/
def ReaderAt {H : Type} (enc : TypeId × Value → H) (P : Program) (w : World) (fuel : Nat) (t : TypeId) {α : Type} (R : Rd α) : Prop :=
  ∀ cs y, DataW.trod enc P w 0 (fun _ => true) true fuel t cs = some y → (∀ n ∈ y.1.weights P t, n ≤ reachBytes) → ∃ x, R w cs x
section
variable {H : Type} {enc : TypeId × Value → H} {P : Program} {w : World}

theorem reader_int {fuel : Nat} {t : TypeId} {k : IntKind} (ht : P.underlying t = some (.int k)) : ReaderAt enc P w fuel t (RInt k) := by
  intro cs y h _
  obtain ⟨n, h, _, hw⟩ := DataW.trod_int ht h
  exact ⟨n, h, hw⟩

theorem reader_bool {fuel : Nat} {t : TypeId} (ht : P.underlying t = some .bool) : ReaderAt enc P w fuel t RBool := by
  intro cs y h _
  obtain ⟨n, h, _⟩ := DataW.trod_bool ht h
  exact ⟨n, h⟩

theorem reader_string {fuel : Nat} {t : TypeId} (ht : P.underlying t = some .string) : ReaderAt enc P w fuel t RStr := by
  intro cs y h hy
  obtain ⟨s, h1, rfl, hw⟩ := DataW.trod_string ht h
  exact ⟨s, h1, by simpa using hy s.data.toList.length (by simp [DataW.weights])⟩

/-- The fields from place 'off' on. -/
def FieldsAt {H : Type} (enc : TypeId × Value → H) (P : Program) (w : World) (fuel : Nat) (total off : Nat) (fs : List Field) {α : Type} (R : Rd α) : Prop :=
  ∀ (cs : List Value) (xs : List (DataW H × List MemPlace)), cs.length = total → xs.length = fs.length →
    (∀ (i : Nat) (f : Field), fs[i]? = some f → DataW.trod enc P w 0 (fun _ => true) true fuel f.type ((cs.drop f.offset).take (P.cellsOf f.type)) = xs[i]?) →
    (∀ n ∈ DataW.weightsEach P (fs.map (·.type)) (xs.map (·.1)), n ≤ reachBytes) → ∃ x, R w (cs.drop off) x

theorem fields_nil {fuel total : Nat} : FieldsAt enc P w fuel total total [] RNil := by
  intro cs xs hc _ _ _
  exact ⟨(), by simp [RNil, hc]⟩

theorem fields_cons {fuel total off c : Nat} {f : Field} {fs : List Field} {α β : Type} {R : Rd α} {S : Rd β} (hoff : f.offset = off) (hc : P.cellsOf f.type = c)
    (h1 : ReaderAt enc P w fuel f.type R) (h2 : FieldsAt enc P w fuel total (off + c) fs S) : FieldsAt enc P w fuel total off (f :: fs) (RPair R S) := by
  intro cs xs hcs hxs hf hw
  cases xs with
  | nil => simp at hxs
  | cons x xs =>
    simp only [List.map_cons, DataW.weightsEach, List.mem_append] at hw
    have e0 := hf 0 f rfl
    rw [hoff, hc] at e0
    obtain ⟨u, hu⟩ := h1 _ x e0 (fun n hn => hw n (.inl hn))
    obtain ⟨v, hv⟩ := h2 cs xs hcs (by simpa using hxs) (fun i g hg => by simpa using hf (i + 1) g (by simpa using hg)) (fun n hn => hw n (.inr hn))
    refine ⟨(u, v), (cs.drop off).take c, cs.drop (off + c), ?_, hu, hv⟩
    rw [← List.drop_drop, List.take_append_drop]

theorem reader_struct {fuel : Nat} {t : TypeId} {fs : Array Field} {l : List Field} {α : Type} {R : Rd α} {n : Nat} (ht : P.underlying t = some (.struct fs)) (hl : fs.toList = l) (hn : P.cellsOf t = n)
    (h : ∀ m, fuel = m + 1 → FieldsAt enc P w m n 0 l R) : ReaderAt enc P w fuel t R := by
  intro cs y hy hw
  obtain ⟨xs, m, hm, rfl, hlen, hxs, hf⟩ := DataW.trod_struct ht hy
  have := h m hm cs xs (hlen.trans hn) (by rw [hxs, ← hl]; simp) (fun i f hi => hf i f (by rw [← hl] at hi; simpa using hi)) (by
    intro k hk
    refine hw k ?_
    simp only [DataW.weights, ht]
    rw [hl]; exact hk)
  simpa using this

theorem weightsAll_mem {e : TypeId} {n : Nat} : ∀ {ds : List (DataW H)} {d : DataW H}, d ∈ ds → n ∈ d.weights P e → n ∈ DataW.weightsAll P e ds
  | d' :: ds, d, hd, hn => by
    simp only [DataW.weightsAll, List.mem_append]
    rcases List.mem_cons.1 hd with rfl | hd
    · exact .inl hn
    · exact .inr (weightsAll_mem hd hn)

theorem choose_list {α : Type} {p : Nat → α → Prop} : ∀ (n : Nat), (∀ i, i < n → ∃ x, p i x) → ∃ xs : List α, xs.length = n ∧ ∀ i x, xs[i]? = some x → p i x := by
  intro n
  induction n with
  | zero => intro _; exact ⟨[], rfl, by simp⟩
  | succ n ih =>
    intro h
    obtain ⟨xs, hl, hp⟩ := ih (fun i hi => h i (by omega))
    obtain ⟨x, hx⟩ := h n (by omega)
    refine ⟨xs ++ [x], by simp [hl], fun i y hy => ?_⟩
    rw [List.getElem?_append] at hy
    split at hy
    · exact hp i y hy
    · rename_i hi
      have : i = n := by
        have := (List.getElem?_eq_some_iff.1 hy).1
        simp at this; omega
      subst this
      simp [hl] at hy
      exact hy ▸ hx

theorem mapM_cells {n : Nat} {a : Addr} {cs : List Value} (h : w.cells? 0 a n = some cs) : cs.length = n ∧ ∀ j v, cs[j]? = some v → w.cell? (a.add j) = some v := by
  obtain ⟨_, hl, hc⟩ := World.cells?_some h
  refine ⟨hl, fun j v hj => ?_⟩
  have hjn : j < n := by rw [← hl]; exact (List.getElem?_eq_some_iff.1 hj).1
  rw [← hj]
  exact hc j hjn

theorem reader_slice {fuel : Nat} {t e : TypeId} {s bytes : Nat} {α : Type} {R : Rd α} (ht : P.underlying t = some (.slice e)) (hs : P.cellsOf e = s) (hs0 : 0 < s) (hb : P.bytesOf e = bytes)
    (h : ∀ m, fuel = m + 1 → ReaderAt enc P w m e R) : ReaderAt enc P w fuel t (RSlice R s bytes) := by
  intro cs y hy hw
  rcases DataW.trod_slice ht hy with ⟨rfl, rfl⟩ | ⟨a, len, cap, elems, rest, m, hm, rfl, rfl, _, hl, hcap, hlen, hel, hsp, _⟩
  · exact ⟨[], none, 0, rfl, Nat.le_refl _, by unfold maxLen; omega, by simp, fun _ => rfl, fun h => absurd rfl h⟩
  · have hall : ∀ i, i < len → ∃ x, ∃ cs, cs.length = s ∧ (∀ j v, cs[j]? = some v → w.cell? ((a.add (i * s)).add j) = some v) ∧ R w cs x := by
      intro i hi
      have h1 := hel i hi
      rw [hs] at h1
      have hx : elems[i]? = some elems[i] := List.getElem?_eq_getElem (by omega)
      rw [hx] at h1
      obtain ⟨c, hc1, hc2⟩ := Option.bind_eq_some_iff.1 h1
      obtain ⟨hcl, hcc⟩ := mapM_cells hc1
      obtain ⟨x, hx⟩ := h m hm c _ hc2 (fun n hn => hw n (by
        simp only [DataW.weights, ht, List.mem_cons, List.mem_append]
        exact .inr (.inl (weightsAll_mem (List.mem_map.2 ⟨elems[i], List.getElem_mem _, rfl⟩) hn))))
      exact ⟨x, c, hcl, hcc, hx⟩
    obtain ⟨xs, hxl, hxs⟩ := choose_list len hall
    have hrest : rest.length = cap - len := (hsp rfl).1
    refine ⟨xs, some a, cap, by rw [hxl], by omega, hcap, ?_, (fun h => by cases h), ?_⟩
    · have := hw ((elems.length + rest.length) * P.bytesOf e) (by simp [DataW.weights, ht])
      rw [hb, hlen, hrest] at this
      have e1 : len + (cap - len) = cap := by omega
      rwa [e1] at this
    · intro hne
      obtain ⟨b, off, spot⟩ := a
      have hspot : spot = none := by
        cases xs with
        | nil => exact absurd rfl hne
        | cons x xs =>
          obtain ⟨c, hcl, hcc, _⟩ := hxs 0 x rfl
          cases c with
          | nil => simp at hcl; omega
          | cons v c =>
            have := hcc 0 v rfl
            simp [Addr.add] at this
            simpa using World.cell?_spot this
      subst hspot
      refine ⟨b, off, rfl, fun i x hi => ?_⟩
      obtain ⟨c, hcl, hcc, hR⟩ := hxs i x hi
      refine ⟨c, hcl, fun j v hj => ?_, hR⟩
      have := hcc j v hj
      rw [← this]
      congr 1
      unfold Addr.add
      split <;> split <;> simp_all <;> omega

/-! ### a parameter at a time -/
theorem uncons {ts : List TypeId} {t : TypeId} {W : World} {args : List Value} {ds : List (DataW H)} {α : Type} {R : Rd α}
    (h : ∃ base, ∀ (j : Nat) t' v, (t :: ts)[j]? = some t' → args[j]? = some v → Value.okWide P W .any base t' v)
    (hr : ∃ p, DataW.TrodAll enc P W 0 (fun _ => true) true (t :: ts) args ds p) (hz : (DataW.weightsEach P (t :: ts) ds).all (· ≤ reachBytes) = true)
    (hR : ∀ fuel, ReaderAt enc P W fuel t R) :
    ∃ v vs ds' x, args = v :: vs ∧ (∃ base, Value.okWide P W .any base t v) ∧ R W v.cells.toList x ∧
      (∃ base, ∀ (j : Nat) t' v, ts[j]? = some t' → vs[j]? = some v → Value.okWide P W .any base t' v) ∧
      (∃ p, DataW.TrodAll enc P W 0 (fun _ => true) true ts vs ds' p) ∧ (DataW.weightsEach P ts ds').all (· ≤ reachBytes) = true := by
  obtain ⟨base, hv⟩ := h
  obtain ⟨p, hp⟩ := hr
  obtain ⟨v, vs, d, ds', p0, q0, rfl, rfl, rfl, ⟨fuel, hf⟩, h1⟩ := trodAll_cons hp
  simp only [DataW.weightsEach, List.all_append, Bool.and_eq_true] at hz
  obtain ⟨x, hx⟩ := hR fuel _ _ hf (fun n hn => by simpa using List.all_eq_true.1 hz.1 n hn)
  exact ⟨v, vs, ds', x, rfl, ⟨base, hv 0 t v rfl rfl⟩, hx, ⟨base, fun j t' v' a b => hv (j + 1) t' v' a b⟩, ⟨q0, h1⟩, hz.2⟩

theorem wf_i64 {n : Int} (h : (Lit.int .i64 n).wf = true) : -9223372036854775808 ≤ n ∧ n ≤ 9223372036854775807 := by
  simp [Lit.wf, IntKind.min, IntKind.max, IntKind.signed, IntKind.bits] at h
  omega

theorem int_arg {t : TypeId} {W : World} {base : Nat} {v : Value} {n : Int} (ht : P.underlying t = some (.int .i64)) (hv : Value.okWide P W .any base t v) (h : RInt .i64 W v.cells.toList n) :
    v = .int .i64 n ∧ -9223372036854775808 ≤ n ∧ n ≤ 9223372036854775807 := by
  obtain ⟨m, rfl⟩ := okWide_int ht hv
  obtain ⟨h1, h2⟩ := h
  simp [Value.cells] at h1
  subst h1
  exact ⟨rfl, wf_i64 h2⟩

theorem bool_arg {t : TypeId} {W : World} {base : Nat} {v : Value} {b : Bool} (ht : P.underlying t = some .bool) (hv : Value.okWide P W .any base t v) (h : RBool W v.cells.toList b) : v = .bool b := by
  obtain ⟨m, rfl⟩ := okWide_bool ht hv
  simp [Value.cells, RBool] at h
  rw [h]

theorem slice_arg {t e : TypeId} {W : World} {base s bytes : Nat} {v : Value} {α : Type} {R : Rd α} {xs : List α} (ht : P.underlying t = some (.slice e)) (hv : Value.okWide P W .any base t v) (h : RSlice R s bytes W v.cells.toList xs) :
    ∃ a cap, v = .slice a xs.length cap ∧ xs.length ≤ cap ∧ cap ≤ maxLen ∧ cap * bytes ≤ reachBytes ∧ (a = none → cap = 0) ∧ Elems R s W a xs := by
  obtain ⟨a0, len, cap, rfl⟩ := okWide_slice ht hv
  obtain ⟨a, cap', h1, h2⟩ := h
  simp [Value.cells] at h1
  obtain ⟨rfl, rfl, rfl⟩ := h1
  exact ⟨_, _, rfl, h2⟩

theorem string_arg {t : TypeId} {W : World} {base : Nat} {v : Value} {s : ByteArray} (ht : P.underlying t = some .string) (hv : Value.okWide P W .any base t v) (h : RStr W v.cells.toList s) :
    v = .string s ∧ s.size ≤ reachBytes := by
  obtain ⟨s', rfl⟩ := okWide_string ht hv
  obtain ⟨h1, h2⟩ := h
  simp [Value.cells] at h1
  subst h1
  exact ⟨rfl, h2⟩

theorem struct_arg {t : TypeId} {W : World} {base : Nat} {v : Value} {fs : Array Field} (ht : P.underlying t = some (.struct fs)) (hv : Value.okWide P W .any base t v) :
    ∃ cs : Array Value, v = .agg cs ∧ v.cells.toList = cs.toList := by
  obtain ⟨cs, rfl, _⟩ := okWide_struct ht hv
  exact ⟨cs, rfl, rfl⟩

/-- The list of ints at an address. -/
def Ints (w : World) (a : Option Addr) (xs : List Int) : Prop :=
  xs ≠ [] → ∃ b off, a = some ⟨b, off, none⟩ ∧ ∀ i, i < xs.length → w.cell? ⟨b, off + i, none⟩ = some (.int .i64 (xs.getD i 0))

theorem ints_of_elems {a : Option Addr} {xs : List Int} (h : Elems (RInt .i64) 1 w a xs) : Ints w a xs ∧ ∀ x ∈ xs, -9223372036854775808 ≤ x ∧ x ≤ 9223372036854775807 := by
  refine ⟨fun hne => ?_, fun x hx => ?_⟩
  · obtain ⟨b, off, rfl, hh⟩ := h hne
    refine ⟨b, off, rfl, fun i hi => ?_⟩
    obtain ⟨cs, _, hc, h1, _⟩ := hh i (xs.getD i 0) (by rw [List.getElem?_eq_getElem hi]; simp [hi])
    subst h1
    have := hc 0 _ rfl
    simpa using this
  · have hne : xs ≠ [] := by rintro rfl; cases hx
    obtain ⟨b, off, rfl, hh⟩ := h hne
    obtain ⟨i, hi, rfl⟩ := List.mem_iff_getElem.1 hx
    obtain ⟨cs, _, hc, h1, h2⟩ := hh i xs[i] (List.getElem?_eq_getElem hi)
    exact wf_i64 h2

theorem lt_of_cell {w : World} {a : Addr} {v : Value} (h : w.cell? a = some v) : a.block < w.heap.size := by
  unfold World.cell? at h
  rcases Nat.lt_or_ge a.block w.heap.size with h' | h'
  · exact h'
  · rw [Array.getElem?_eq_none h'] at h; cases h

theorem Ints.below {W w : World} {B : Nat} {a : Option Addr} {xs : List Int} (h : Ints W a xs) (hB : W.heap.size ≤ B) (hb : Below B W w) : Ints w a xs := by
  intro hne
  obtain ⟨b, off, rfl, hh⟩ := h hne
  refine ⟨b, off, rfl, fun i hi => ?_⟩
  have h1 := hh i hi
  have := lt_of_cell h1
  rw [hb.cell (show b < B by have h2 : b < W.heap.size := this; omega)]
  exact h1
end
end Go.Law
