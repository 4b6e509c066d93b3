

/-
  MasterShows (slides are shown over what is left of their masters): the call returns true for every input.
  Conditions: none beyond the row's own.
-/
import Derived.Test.YtabnohphgegflaaRows
import Derived.Test.YtabnohphgegflaaReads
import Derived.Test.YtabnohphgegflaaLift
import Derived.Test.YtabnohphgegflaaShRead
import Derived.Test.YtabnohphgegflaaMsLaw
namespace Go.Proofs.Ytabnohphgegflaa.MSS
open Go.ChangeShapes Go.WideShapes Go.ChangeAt Go.RowKit Go.Law Go.Law.Sh Go.Law.Ms ShT MS
set_option linter.unusedVariables false
theorem names_of {w : World} {a : Option Addr} {xs : List ShT} (h : Elems RShape 12 w a xs) : ∀ i, i < xs.length → (nOf (xs.getD i shE0) 0).size ≤ maxLen := by
  intro i hi
  obtain ⟨b, off, rfl, hh⟩ := h (by rintro rfl; simp at hi)
  have hx := List.getElem?_eq_getElem hi
  obtain ⟨cs, hl, hc, hr⟩ := hh i _ hx
  have e : xs.getD i shE0 = xs[i] := by simp [List.getD, hx]
  rw [e]
  have := rshape_size hr 0
  unfold reachBytes at this
  unfold maxLen
  omega
theorem own : ownKnob Try.prog.godebug = none := by kernel_rfl
set_option maxRecDepth 100000 in
theorem lifted (os : Os) (started : os.Started) (H : Type) (enc : TypeId × Value → H) :
    ReturnsInHanded {} Try.checked os 3 .any (Rows.masterShowsSpec.pre6 enc Try.prog Try.f3 Rows.masterShowsRow.domain false) (Rows.masterShowsSpec.post enc Try.prog Try.f3 false true false false) := by
  refine Law.lifted (C := Try.checked) (tb := 4) own started (by kernel_rfl) Try.func3
    (ChangeSpec.witness6 (enc := enc) (C := Try.checked) false ⟨#[], #[.slice none 0 0, .slice none 0 0], []⟩ 8 (by kernel_rfl) (by kernel_rfl) (by kernel_rfl) (by kernel_rfl)) (by kernel_rfl) (by kernel_rfl) rfl rfl Try.underlying4 ?_ ?_
  · intro ds h
    match ds, h with
    | [d1, d2], _ => rfl
  · intro W args ds hc
    obtain ⟨hvS, hrS, hzS⟩ := hc
    rw [show Try.f3.params.toList = [22, 22] from rfl] at hvS hrS hzS
    have hvT : ∃ base, ∀ (j : Nat) t' v, ([22, 22])[j]? = some t' → args.toList[j]? = some v → Value.okWide Try.prog W .any base t' v := by
      obtain ⟨b, hb⟩ := hvS
      exact ⟨b, fun j t' v h1 h2 => hb j t' v h1 (by simpa using h2)⟩
    obtain ⟨v0, vs0, ds0, x0, e0, ⟨b0, k0⟩, r0, hv0, hr0, hz0⟩ := uncons (R := RSlice RShape 12 112) hvT hrS hzS (fun _ => reader_shapes)
    obtain ⟨v1, vs1, ds1, x1, rfl, ⟨b1, k1⟩, r1, hv1, hr1, hz1⟩ := uncons (R := RSlice RShape 12 112) hv0 hr0 hz0 (fun _ => reader_shapes)
    obtain ⟨pE, hrE⟩ := hr1
    obtain ⟨rfl, _, _⟩ := trodAll_nil hrE
    obtain ⟨a0, c0, rfl, l0, m0, t0, n0, el0⟩ := slice_arg Try.underlying22 k0 r0
    obtain ⟨a1, c1, rfl, l1, m1, t1, n1, el1⟩ := slice_arg Try.underlying22 k1 r1
    obtain rfl : args = #[.slice a0 x0.length c0, .slice a1 x1.length c1] := by apply Array.ext'; simpa using e0
    exact showsLaw_any _ _ _ _ _ _ _ _ _ _ W (shF_of el0) (shF_of el1) ⟨l0, m0⟩ ⟨l1, m1⟩ (by unfold reachBytes at t0 t1; omega) (names_of el0) (names_of el1)

theorem over : Rows.masterShowsRow.holds Try.pinned (OpenSpec.ofChange Rows.masterShowsSpec) :=
  OpenClaim.holds_of_wide 3 Try.f3 rfl rfl rfl rfl rfl rfl rfl ⟨rfl, rfl, rfl, rfl, rfl⟩ rfl rfl rfl rfl rfl (by kernel_rfl) Try.func3 (by kernel_rfl)
    (of_decide_eq_true (by kernel_rfl)) (by unfold Func.isWrapper; first | (rw [if_pos (by decide +kernel)]; kernel_rfl) | (rw [if_neg (by decide +kernel)]; exact ⟨rfl, rfl⟩))
    (fun os started H enc _ => lifted os started H enc)
theorem proved : Rows.MasterShowsSaid := over
#print axioms proved
end Go.Proofs.Ytabnohphgegflaa.MSS
