

/-
  ChartSectorsAndShares (sectors and shares are rounded as told, and add up): the call returns true for every input.
  Conditions: none beyond the row's own.
-/
import Derived.Test.YtpbnkkeplhgepaaRows
import Derived.Test.YtpbnkkeplhgepaaReads
import Derived.Test.YtpbnkkeplhgepaaChLaw
namespace Go.Proofs.Ytpbnkkeplhgepaa.CH
open Go.ChangeShapes Go.WideShapes Go.ChangeAt Go.RowKit Go.Law
set_option linter.unusedVariables false

/-- the reading of a row of rows of ints -/
theorem rowsF_of {w : World} {a : Option Addr} {xs : List (List Int)} (h : Elems (RSlice (RInt .i64) 1 8) 1 w a xs) :
    ∃ (sa : Nat → Option Addr) (sn sc : Nat → Nat) (sf : Nat → Nat → Int), RowsF w a xs.length sa sn sc sf := by
  by_cases hne : xs = []
  · subst hne
    exact ⟨fun _ => none, fun _ => 0, fun _ => 0, fun _ _ => 0, fun h => by simp at h⟩
  · obtain ⟨b, off, rfl, hh⟩ := h hne
    have hq : ∀ q : Nat, ∃ (sa : Option Addr) (sn sc : Nat) (sf : Nat → Int), q < xs.length → w.cell? ⟨b, off + q, none⟩ = some (.slice sa sn sc) ∧ sn ≤ 1000000000000000000 ∧ IntsF w sa sn sf := by
      intro q
      by_cases hq : q < xs.length
      · obtain ⟨cs, hl, hc, a1, cap, rfl, h1, h2, h3, _, h5⟩ := hh q _ (List.getElem?_eq_getElem hq)
        obtain ⟨hi, _⟩ := ints_of_elems h5
        refine ⟨a1, xs[q].length, cap, _, fun _ => ⟨?_, ?_, IntsF.of_ints hi⟩⟩
        · have := hc 0 _ rfl
          simpa using this
        · unfold reachBytes at h3; omega
      · exact ⟨none, 0, 0, fun _ => 0, fun h => absurd h hq⟩
    exact ⟨fun q => (hq q).choose, fun q => (hq q).choose_spec.choose, fun q => (hq q).choose_spec.choose_spec.choose, fun q => (hq q).choose_spec.choose_spec.choose_spec.choose,
      fun _ => ⟨b, off, rfl, fun q h => (hq q).choose_spec.choose_spec.choose_spec.choose_spec h⟩⟩

theorem law_any (kind : Int) (a1 a2 : Option Addr) (p cp s cs : Nat) (sa : Nat → Option Addr) (sn sc : Nat → Nat) (sf : Nat → Nat → Int) (m : Nat) (h : Nat → Int) (al : Option Addr) (cl : Nat) (w : World)
    (hrows : RowsF w a2 s sa sn sc sf) (hl : IntsF w al m h) (hm : m ≤ 1000000000000000000) :
    Calls Try.prog 8 #[.agg #[.int .i64 kind, .slice a1 p cp, .slice a2 s cs], .slice al m cl] w fun e w' => e = .returned (.bool true) ∧ Below w.heap.size w w' := by
  by_cases he : chErr kind p s sn sf = 0
  · by_cases hk : kind = 3
    · subst hk
      exact law_sectors a1 a2 p cp s cs sa sn sc sf m h al cl w hrows hl hm he
    · exact law_kind kind a1 a2 p cp s cs sa sn sc sf m h al cl w hrows hl hm he hk
  · exact law_bad kind a1 a2 p cp s cs sa sn sc sf m h al cl w hrows hl hm he

theorem own : ownKnob Try.prog.godebug = none := by kernel_rfl
set_option maxRecDepth 100000 in
theorem lifted (os : Os) (started : os.Started) (H : Type) (enc : TypeId × Value → H) :
    ReturnsInHanded {} Try.checked os 8 .any (Rows.chartSectorsAndSharesSpec.pre6 enc Try.prog Try.f8 Rows.chartSectorsAndSharesRow.domain false) (Rows.chartSectorsAndSharesSpec.post enc Try.prog Try.f8 false true false false) := by
  refine Law.lifted (C := Try.checked) (tb := 4) own started (by kernel_rfl) Try.func8
    (ChangeSpec.witness6 (enc := enc) (C := Try.checked) false ⟨#[], #[.agg #[.int .i64 0, .slice none 0 0, .slice none 0 0], .slice none 0 0], []⟩ 8 (by kernel_rfl) (by kernel_rfl) (by kernel_rfl) (by kernel_rfl)) (by kernel_rfl) (by kernel_rfl) rfl rfl Try.underlying4 ?_ ?_
  · intro ds h
    match ds, h with
    | [d1, d2], _ => rfl
  · intro W args ds hc
    obtain ⟨hvS, hrS, hzS⟩ := hc
    rw [show Try.f8.params.toList = [55, 34] from rfl] at hvS hrS hzS
    have hvT : ∃ base, ∀ (j : Nat) t' v, ([55, 34])[j]? = some t' → args.toList[j]? = some v → Value.okWide Try.prog W .any base t' v := by
      obtain ⟨b, hb⟩ := hvS
      exact ⟨b, fun j t' v h1 h2 => hb j t' v h1 (by simpa using h2)⟩
    obtain ⟨v0, vs0, ds0, x0, e0, ⟨b0, k0⟩, r0, hv0, hr0, hz0⟩ := uncons (R := RPair (RInt .i64) (RPair (RSlice RStr 1 16) (RPair (RSlice (RSlice (RInt .i64) 1 8) 1 24) RNil))) hvT hrS hzS (fun _ => reader_struct Try.underlying55 rfl (by kernel_rfl) (fun m _ => fields_cons (c := 1) rfl (by kernel_rfl) (reader_int Try.underlying3) (fields_cons (c := 1) rfl (by kernel_rfl) (reader_slice Try.underlying53 (s := 1) (bytes := 16) (by kernel_rfl) (by omega) (by kernel_rfl) (fun _ _ => reader_string Try.underlying9)) (fields_cons (c := 1) rfl (by kernel_rfl) (reader_slice Try.underlying46 (s := 1) (bytes := 24) (by kernel_rfl) (by omega) (by kernel_rfl) (fun _ _ => reader_slice Try.underlying34 (s := 1) (bytes := 8) (by kernel_rfl) (by omega) (by kernel_rfl) (fun _ _ => reader_int Try.underlying3))) fields_nil))))
    obtain ⟨v1, vs1, ds1, x1, rfl, ⟨b1, k1⟩, r1, hv1, hr1, hz1⟩ := uncons (R := RSlice (RInt .i64) 1 8) hv0 hr0 hz0 (fun _ => reader_slice Try.underlying34 (s := 1) (bytes := 8) (by kernel_rfl) (by omega) (by kernel_rfl) (fun _ _ => reader_int Try.underlying3))
    obtain ⟨pE, hrE⟩ := hr1
    obtain ⟨rfl, _, _⟩ := trodAll_nil hrE
    obtain ⟨a1, c1, rfl, l1, m1, t1, n1, el1⟩ := slice_arg Try.underlying34 k1 r1
    obtain ⟨in1, bd1⟩ := ints_of_elems el1
    obtain ⟨cs, rfl, hcs⟩ := struct_arg Try.underlying55 k0
    obtain ⟨y1, d1, hc1, ⟨rfl, _⟩, y2, d2, rfl, ⟨aN, cN, rfl, _⟩, y3, d3, rfl, ⟨aS, cS, rfl, _, _, _, _, elS⟩, rfl⟩ := r0
    rw [hcs] at hc1
    obtain rfl : cs = #[.int .i64 x0.1, .slice aN x0.2.1.length cN, .slice aS x0.2.2.1.length cS] := by apply Array.ext'; simpa using hc1
    obtain rfl : args = #[.agg #[.int .i64 x0.1, .slice aN x0.2.1.length cN, .slice aS x0.2.2.1.length cS], .slice a1 x1.length c1] := by apply Array.ext'; simpa using e0
    have hn : x1.length ≤ 1000000000000000000 := by unfold reachBytes at t1; omega
    obtain ⟨sa, sn, sc, sf, hrows⟩ := rowsF_of elS
    exact law_any _ _ _ _ _ _ _ sa sn sc sf _ _ _ _ W hrows (IntsF.of_ints in1) hn

theorem over : Rows.chartSectorsAndSharesRow.holds Try.pinned (OpenSpec.ofChange Rows.chartSectorsAndSharesSpec) :=
  OpenClaim.holds_of_wide 8 Try.f8 rfl rfl rfl rfl rfl rfl rfl ⟨rfl, rfl, rfl, rfl, rfl⟩ rfl rfl rfl rfl rfl (by kernel_rfl) Try.func8 (by kernel_rfl)
    (of_decide_eq_true (by kernel_rfl)) (by unfold Func.isWrapper; first | (rw [if_pos (by decide +kernel)]; kernel_rfl) | (rw [if_neg (by decide +kernel)]; exact ⟨rfl, rfl⟩))
    (fun os started H enc _ => lifted os started H enc)
theorem proved : Rows.ChartSectorsAndSharesSaid := over
#print axioms proved
end Go.Proofs.Ytpbnkkeplhgepaa.CH
