/-
  Maps of the call's own that are told by a function: from ints to bools, from strings to ints.
-/
import Derived.Maps.OwnSet
import Derived.Maps.OwnOps
import Derived.Maps.Views
namespace Go.Law.Ms
open Go.RowKit Go.Maps
set_option linter.unusedVariables false
/-- block b is a map from ints to bools that says G -/
def MapI (P : Program) (k e : TypeId) (w : World) (b n : Nat) (G : Int → Bool) : Prop :=
  ∃ D : DataW Unit, w.ownsMap P k (plainElem P e) b n D ∧ ∀ x : Int, D.atKey (.int .i64 x) (.lit (.bool false)) = .lit (.bool (G x))
/-- block b is a map from strings to ints that says G -/
def MapS (P : Program) (k e : TypeId) (w : World) (b n : Nat) (G : ByteArray → Int) : Prop :=
  ∃ D : DataW Unit, w.ownsMap P k (plainElem P e) b n D ∧ ∀ x : ByteArray, D.atKey (.string x.data.toList) (.lit (.int .i64 0)) = .lit (.int .i64 (G x))
section
variable {P : Program} {k e t : TypeId} {w w' : World} {b n : Nat} {G : Int → Bool} {F : ByteArray → Int}
theorem wf_bd {x : Int} (h : -9223372036854775808 ≤ x ∧ x ≤ 9223372036854775807) : (Lit.int .i64 x).wf = true := by
  simp [Lit.wf, IntKind.min, IntKind.max, IntKind.signed, IntKind.bits]
  omega
theorem key_int (hk : P.underlying k = some (.int .i64)) {x : Int} (hx : (Lit.int .i64 x).wf = true) : keyOf P k (.int .i64 x) = some (.int .i64 x) := by
  simp [keyOf, mapKey, hk, hx]
theorem key_str (hk : P.underlying k = some .string) {s : ByteArray} (hs : s.size ≤ maxLen) : keyOf P k (.string s) = some (.string s.data.toList) := by
  simp [keyOf, mapKey, hk, hs]
theorem plain_bool_inv (he : P.underlying e = some .bool) {v : Value} {z : DataW Unit × List MemPlace} (h : plainElem P e v = some z) : ∃ a, v = .bool a ∧ z = (.lit (.bool a), []) := by
  unfold plainElem at h
  rw [he] at h
  cases v <;> simp at h
  subst h
  exact ⟨_, rfl, rfl⟩
theorem MapI.lt (h : MapI P k e w b n G) : b < w.heap.size := by obtain ⟨D, h1, _⟩ := h; exact h1.lt
theorem MapS.lt (h : MapS P k e w b n F) : b < w.heap.size := by obtain ⟨D, h1, _⟩ := h; exact h1.lt
theorem MapI.block (h : MapI P k e w b n G) (hb : w'.heap[b]? = w.heap[b]?) : MapI P k e w' b n G := by
  obtain ⟨D, ⟨es, clock, h1, r⟩, h2⟩ := h
  exact ⟨D, ⟨es, clock, by rw [hb]; exact h1, r⟩, h2⟩
theorem MapS.block (h : MapS P k e w b n F) (hb : w'.heap[b]? = w.heap[b]?) : MapS P k e w' b n F := by
  obtain ⟨D, ⟨es, clock, h1, r⟩, h2⟩ := h
  exact ⟨D, ⟨es, clock, by rw [hb]; exact h1, r⟩, h2⟩
theorem MapI.congr {G' : Int → Bool} (h : MapI P k e w b n G) (hg : ∀ x, G x = G' x) : MapI P k e w b n G' := by
  obtain ⟨D, h1, h2⟩ := h
  exact ⟨D, h1, fun x => by rw [h2, hg]⟩
theorem MapS.congr {F' : ByteArray → Int} (h : MapS P k e w b n F) (hg : ∀ x, F x = F' x) : MapS P k e w b n F' := by
  obtain ⟨D, h1, h2⟩ := h
  exact ⟨D, h1, fun x => by rw [h2, hg]⟩
theorem MapI.mono {m : Nat} (h : MapI P k e w b n G) (hm : n ≤ m) : MapI P k e w b m G := by
  obtain ⟨D, h1, h2⟩ := h
  exact ⟨D, h1.mono hm, h2⟩
theorem MapI.made (w : World) (P : Program) (k e : TypeId) : MapI P k e (w.alloc (.map #[] 0)) w.heap.size 0 (fun _ => false) :=
  ⟨.map [], World.ownsMap_made _ _ _ _, fun x => rfl⟩
theorem MapS.made (w : World) (P : Program) (k e : TypeId) : MapS P k e (w.alloc (.map #[] 0)) w.heap.size 0 (fun _ => 0) :=
  ⟨.map [], World.ownsMap_made _ _ _ _, fun x => rfl⟩
theorem MapI.look (h : MapI P k e w b n G) (hk : P.underlying k = some (.int .i64)) (he : P.underlying e = some .bool) (ht : P.underlying t = some (.map k e)) (hz : (zeroValue e).run P w = .ok (.bool false) w) (x : Int) (hx : (Lit.int .i64 x).wf = true) :
    (Instr.lookup t (.map (some b)) (.int .i64 x) false).run P w = .ok (.bool (G x)) w := by
  obtain ⟨D, h1, h2⟩ := h
  obtain ⟨v, ps, hrun, hv⟩ := h1.lookup (int_keyed hk) ht hz (plainElem_bool he false) (key_int hk hx)
  rw [h2] at hv
  obtain ⟨a, rfl, hz2⟩ := plain_bool_inv he hv
  simp only [Prod.mk.injEq, DataW.lit.injEq, Lit.bool.injEq] at hz2
  rw [hrun, hz2.1]
theorem MapS.look (h : MapS P k e w b n F) (hk : P.underlying k = some .string) (he : P.underlying e = some (.int .i64)) (ht : P.underlying t = some (.map k e)) (hz : (zeroValue e).run P w = .ok (.int .i64 0) w) (x : ByteArray) (hx : x.size ≤ maxLen) :
    (Instr.lookup t (.map (some b)) (.string x) false).run P w = .ok (.int .i64 (F x)) w := by
  obtain ⟨D, h1, h2⟩ := h
  obtain ⟨c, hrun, hat, _⟩ := h1.lookup_int (string_keyed hk) ht he hz (key_str hk hx)
  rw [h2] at hat
  simp only [DataW.lit.injEq, Lit.int.injEq, true_and] at hat
  rw [hrun, hat]
theorem MapI.put (h : MapI P k e w b n G) (hk : P.underlying k = some (.int .i64)) (he : P.underlying e = some .bool) (ht : P.underlying t = some (.map k e)) (hn : n < maxLen) (x : Int) (v : Bool) (hx : (Lit.int .i64 x).wf = true) :
    ∃ w', (Instr.mapUpdate t (.map (some b)) (.int .i64 x) (.bool v)).run P w = .ok () w' ∧ MapI P k e w' b (n + 1) (fun y => if y = x then v else G y) ∧ w.grownBy w' (some b) := by
  obtain ⟨D, h1, h2⟩ := h
  obtain ⟨w', hrun, hown, hg⟩ := h1.update (int_keyed hk) ht hn (key_int hk hx) (plainElem_bool he v)
  refine ⟨w', hrun, ⟨_, hown, fun y => ?_⟩, hg⟩
  show _ = DataW.lit (.bool (if y = x then v else G y))
  by_cases hy : y = x
  · rw [if_pos hy, hy]
    exact atKey_put_same h1.isMap ((int_keyed hk).key (key_int hk hx)) _ _
  · rw [if_neg hy, atKey_put_other (fun he => hy (by simpa using he)), h2]
theorem MapS.put (h : MapS P k e w b n F) (hk : P.underlying k = some .string) (he : P.underlying e = some (.int .i64)) (ht : P.underlying t = some (.map k e)) (hn : n < maxLen) (x : ByteArray) (v : Int) (hv : (Lit.int .i64 v).wf = true) (hx : x.size ≤ maxLen) :
    ∃ w', (Instr.mapUpdate t (.map (some b)) (.string x) (.int .i64 v)).run P w = .ok () w' ∧ MapS P k e w' b (n + 1) (fun y => if y = x then v else F y) ∧ w.grownBy w' (some b) := by
  obtain ⟨D, h1, h2⟩ := h
  obtain ⟨w', hrun, hown, hg⟩ := h1.update (string_keyed hk) ht hn (key_str hk hx) (plainElem_int he hv)
  refine ⟨w', hrun, ⟨_, hown, fun y => ?_⟩, hg⟩
  show _ = DataW.lit (.int .i64 (if y = x then v else F y))
  by_cases hy : y = x
  · rw [if_pos hy, hy]
    exact atKey_put_same h1.isMap ((string_keyed hk).key (key_str hk hx)) _ _
  · rw [if_neg hy, atKey_put_other (fun he => hy ?_), h2]
    simp only [Lit.string.injEq] at he
    cases y; cases x
    simpa using Array.ext' he
end
end Go.Law.Ms
