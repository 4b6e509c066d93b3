

/-
  ClockLeft (Left compares the clock with a plan): the call returns true for every input.
  Conditions: none beyond the row's own.
-/
import Derived.Test.YtpbnkkeplhgepaaRows
import Derived.Test.YtpbnkkeplhgepaaReads
import Derived.Test.YtpbnkkeplhgepaaLfLaw
namespace Go.Proofs.Ytpbnkkeplhgepaa.LF
open Go.ChangeShapes Go.WideShapes Go.ChangeAt Go.RowKit Go.Law Go.Law.Cl CL
set_option linter.unusedVariables false

theorem law_any (n : Nat) (E : Nat → Nat → Int) (T : Int) (a : Option Addr) (c : Nat) (b : Option Addr) (m d : Nat) (p : Nat → Int) (w : World) (ha : StrF w a n 3 E) (hn : n ≤ 1000000000000000000) (hnil : a = none → n = 0 ∧ c = 0) (hp : IntsF w b m p) (hm : m ≤ 1000000000000000000) :
    Calls Try.prog 10 #[.slice a n c, .int .i64 T, .slice b m d] w fun e w' => e = .returned (.bool true) ∧ Below w.heap.size w w' := by
  by_cases he : repE n E T = 0
  · by_cases hm2 : 1000 < m
    · exact lf_large n E T a c b m d p w ha hnil hp hm he hm2
    · exact lf_plan n E T a c b m d p w ha hnil hp he (by omega)
  · exact lf_err n E T a c b m d p w ha hn hp hm he

theorem own : ownKnob Try.prog.godebug = none := by kernel_rfl
set_option maxRecDepth 100000 in
theorem lifted (os : Os) (started : os.Started) (H : Type) (enc : TypeId × Value → H) :
    ReturnsInHanded {} Try.checked os 10 .any (Rows.clockLeftSpec.pre6 enc Try.prog Try.f10 Rows.clockLeftRow.domain false) (Rows.clockLeftSpec.post enc Try.prog Try.f10 false true false false) := by
  refine Law.lifted (C := Try.checked) (tb := 4) own started (by kernel_rfl) Try.func10
    (ChangeSpec.witness6 (enc := enc) (C := Try.checked) false ⟨#[], #[.slice none 0 0, .int .i64 0, .slice none 0 0], []⟩ 8 (by kernel_rfl) (by kernel_rfl) (by kernel_rfl) (by kernel_rfl)) (by kernel_rfl) (by kernel_rfl) rfl rfl Try.underlying4 ?_ ?_
  · intro ds h
    match ds, h with
    | [d1, d2, d3], _ => rfl
  · intro W args ds hc
    obtain ⟨hvS, hrS, hzS⟩ := hc
    rw [show Try.f10.params.toList = [63, 3, 34] from rfl] at hvS hrS hzS
    have hvT : ∃ base, ∀ (j : Nat) t' v, ([63, 3, 34])[j]? = some t' → args.toList[j]? = some v → Value.okWide Try.prog W .any base t' v := by
      obtain ⟨b, hb⟩ := hvS
      exact ⟨b, fun j t' v h1 h2 => hb j t' v h1 (by simpa using h2)⟩
    obtain ⟨v0, vs0, ds0, x0, e0, ⟨b0, k0⟩, r0, hv0, hr0, hz0⟩ := uncons (R := RSlice (RPair (RInt .i64) (RPair (RInt .i64) (RPair (RInt .i64) RNil))) 3 24) hvT hrS hzS (fun _ => reader_slice Try.underlying63 (s := 3) (bytes := 24) (by kernel_rfl) (by omega) (by kernel_rfl) (fun _ _ => reader_struct Try.underlying72 rfl (by kernel_rfl) (fun m _ => fields_cons (c := 1) rfl (by kernel_rfl) (reader_int Try.underlying3) (fields_cons (c := 1) rfl (by kernel_rfl) (reader_int Try.underlying3) (fields_cons (c := 1) rfl (by kernel_rfl) (reader_int Try.underlying3) fields_nil)))))
    obtain ⟨v1, vs1, ds1, x1, rfl, ⟨b1, k1⟩, r1, hv1, hr1, hz1⟩ := uncons (R := RInt .i64) hv0 hr0 hz0 (fun _ => reader_int Try.underlying3)
    obtain ⟨v2, vs2, ds2, x2, rfl, ⟨b2, k2⟩, r2, hv2, hr2, hz2⟩ := uncons (R := RSlice (RInt .i64) 1 8) hv1 hr1 hz1 (fun _ => reader_slice Try.underlying34 (s := 1) (bytes := 8) (by kernel_rfl) (by omega) (by kernel_rfl) (fun _ _ => reader_int Try.underlying3))
    obtain ⟨pE, hrE⟩ := hr2
    obtain ⟨rfl, _, _⟩ := trodAll_nil hrE
    obtain ⟨rfl, l1, u1⟩ := int_arg Try.underlying3 k1 r1
    obtain ⟨a2, c2, rfl, l2, m2, t2, n2, el2⟩ := slice_arg Try.underlying34 k2 r2
    obtain ⟨in2, bd2⟩ := ints_of_elems el2
    obtain ⟨a0, c0, rfl, l0, m0, t0, n0, el0⟩ := slice_arg Try.underlying63 k0 r0
    have hstr := StrF.of_elems (g := fun x => [x.1, x.2.1, x.2.2.1]) el0 (fun cs x h => by
      obtain ⟨y1, d1, rfl, ⟨rfl, _⟩, y2, d2, rfl, ⟨rfl, _⟩, y3, d3, rfl, ⟨rfl, _⟩, rfl⟩ := h
      rfl)
    obtain rfl : args = #[.slice a0 x0.length c0, .int .i64 x1, .slice a2 x2.length c2] := by apply Array.ext'; simpa using e0
    have hn : x0.length ≤ 1000000000000000000 := by unfold reachBytes at t0; omega
    have hm : x2.length ≤ 1000000000000000000 := by unfold reachBytes at t2; omega
    exact law_any _ _ _ _ _ _ _ _ _ W hstr hn (fun h => by have := n0 h; omega) (IntsF.of_ints in2) hm

theorem over : Rows.clockLeftRow.holds Try.pinned (OpenSpec.ofChange Rows.clockLeftSpec) :=
  OpenClaim.holds_of_wide 10 Try.f10 rfl rfl rfl rfl rfl rfl rfl ⟨rfl, rfl, rfl, rfl, rfl⟩ rfl rfl rfl rfl rfl (by kernel_rfl) Try.func10 (by kernel_rfl)
    (of_decide_eq_true (by kernel_rfl)) (by unfold Func.isWrapper; first | (rw [if_pos (by decide +kernel)]; kernel_rfl) | (rw [if_neg (by decide +kernel)]; exact ⟨rfl, rfl⟩))
    (fun os started H enc _ => lifted os started H enc)
theorem proved : Rows.ClockLeftSaid := over
#print axioms proved
end Go.Proofs.Ytpbnkkeplhgepaa.LF
