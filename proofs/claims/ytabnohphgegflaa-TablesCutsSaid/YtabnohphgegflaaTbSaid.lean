

/-
  TablesCuts (tables are divided where no cell reaches over the edge, after the head): the call returns true for every input.
  Conditions: none beyond the row's own.
-/
import Derived.Test.YtabnohphgegflaaRows
import Derived.Test.YtabnohphgegflaaReads
import Derived.Test.YtabnohphgegflaaLift
import Derived.Test.YtabnohphgegflaaTbRead
import Derived.Test.YtabnohphgegflaaTbLaw
namespace Go.Proofs.Ytabnohphgegflaa.TCS
open Go.ChangeShapes Go.WideShapes Go.ChangeAt Go.RowKit Go.Law Go.Law.Tb TB
set_option linter.unusedVariables false
theorem own : ownKnob Try.prog.godebug = none := by kernel_rfl
set_option maxRecDepth 100000 in
theorem lifted (os : Os) (started : os.Started) (H : Type) (enc : TypeId × Value → H) :
    ReturnsInHanded {} Try.checked os 4 .any (Rows.tablesCutsSpec.pre6 enc Try.prog Try.f4 Rows.tablesCutsRow.domain false) (Rows.tablesCutsSpec.post enc Try.prog Try.f4 false true false false) := by
  refine Law.lifted (C := Try.checked) (tb := 4) own started (by kernel_rfl) Try.func4
    (ChangeSpec.witness6 (enc := enc) (C := Try.checked) false ⟨#[], #[.agg #[.int .i64 0, .int .i64 0, .slice none 0 0, .int .i64 0, .int .i64 0, .int .i64 0, .int .i64 0]], []⟩ 8 (by kernel_rfl) (by kernel_rfl) (by kernel_rfl) (by kernel_rfl)) (by kernel_rfl) (by kernel_rfl) rfl rfl Try.underlying4 ?_ ?_
  · intro ds h
    match ds, h with
    | [d1], _ => rfl
  · intro W args ds hc
    obtain ⟨hvS, hrS, hzS⟩ := hc
    rw [show Try.f4.params.toList = [41] from rfl] at hvS hrS hzS
    have hvT : ∃ base, ∀ (j : Nat) t' v, ([41])[j]? = some t' → args.toList[j]? = some v → Value.okWide Try.prog W .any base t' v := by
      obtain ⟨b, hb⟩ := hvS
      exact ⟨b, fun j t' v h1 h2 => hb j t' v h1 (by simpa using h2)⟩
    obtain ⟨v0, vs0, ds0, x0, e0, ⟨b0, k0⟩, r0, hv0, hr0, hz0⟩ := uncons (R := RTab) hvT hrS hzS (fun _ => reader_tab)
    obtain ⟨pE, hrE⟩ := hr0
    obtain ⟨rfl, _, _⟩ := trodAll_nil hrE
    obtain ⟨cs, rfl, hcs⟩ := struct_arg Try.underlying41 k0
    obtain ⟨T, hok, hcap, hcells⟩ := rtab_cells r0
    rw [hcs] at hcells
    obtain rfl : cs = T.cells.toArray := by apply Array.ext'; simpa using hcells
    obtain rfl : args = #[.agg T.cells.toArray] := by apply Array.ext'; simpa using e0
    exact cutsLaw_any T W hok hcap

theorem over : Rows.tablesCutsRow.holds Try.pinned (OpenSpec.ofChange Rows.tablesCutsSpec) :=
  OpenClaim.holds_of_wide 4 Try.f4 rfl rfl rfl rfl rfl rfl rfl ⟨rfl, rfl, rfl, rfl, rfl⟩ rfl rfl rfl rfl rfl (by kernel_rfl) Try.func4 (by kernel_rfl)
    (of_decide_eq_true (by kernel_rfl)) (by unfold Func.isWrapper; first | (rw [if_pos (by decide +kernel)]; kernel_rfl) | (rw [if_neg (by decide +kernel)]; exact ⟨rfl, rfl⟩))
    (fun os started H enc _ => lifted os started H enc)
theorem proved : Rows.TablesCutsSaid := over
#print axioms proved
end Go.Proofs.Ytabnohphgegflaa.TCS
