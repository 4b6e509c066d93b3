/-
  A table as an argument.
-/
import Derived.Test.YtabnohphgegflaaReads
import Derived.Test.YtabnohphgegflaaProg
import Derived.Test.YtabnohphgegflaaCellsF
import Derived.Test.YtabnohphgegflaaTbCut
namespace Go.Law
open Go.RowKit
theorem CellsF.choose {α β : Type} [Inhabited β] {R : Rd α} {s : Nat} {w : World} {a : Option Addr} {xs : List α} {V : β → Nat → Value} {Q : β → Prop} (h : Elems R s w a xs)
    (hR : ∀ cs x, R w cs x → ∃ y : β, Q y ∧ ∀ j, j < s → cs[j]? = some (V y j)) : ∃ Y : Nat → β, (∀ i, i < xs.length → Q (Y i)) ∧ CellsF w a xs.length s (fun i j => V (Y i) j) := by
  by_cases h0 : xs = []
  · subst h0
    exact ⟨fun _ => default, fun i hi => absurd hi (by simp), fun hn => absurd hn (by simp)⟩
  · obtain ⟨b, off, rfl, hh⟩ := h h0
    have hex : ∀ i, ∃ y : β, i < xs.length → Q y ∧ ∀ j, j < s → w.cell? ⟨b, off + i * s + j, none⟩ = some (V y j) := by
      intro i
      by_cases hi : i < xs.length
      · obtain ⟨cs, hl, hc, hr⟩ := hh i _ (List.getElem?_eq_getElem hi)
        obtain ⟨y, hq, hv⟩ := hR cs _ hr
        exact ⟨y, fun _ => ⟨hq, fun j hj => hc j _ (hv j hj)⟩⟩
      · exact ⟨default, fun h => absurd h hi⟩
    refine ⟨fun i => Classical.choose (hex i), fun i hi => (Classical.choose_spec (hex i) hi).1, fun _ => ⟨b, off, rfl, fun i hi j hj => (Classical.choose_spec (hex i) hi).2 j hj⟩⟩
end Go.Law
namespace Go.Law.Tb
open Go.RowKit Go.Law
set_option linter.unusedVariables false
abbrev RLook : Rd (Int × Bool × Bool × Unit) := RPair (RInt .i64) (RPair RBool (RPair RBool RNil))
abbrev ItT := Int × Int × (Int × Bool × Bool × Unit) × Int × Int × Int × Int × Unit
abbrev RPIt : Rd ItT := RPair (RInt .i64) (RPair (RInt .i64) (RPair RLook (RPair (RInt .i64) (RPair (RInt .i64) (RPair (RInt .i64) (RPair (RInt .i64) RNil))))))
abbrev PaT := List ItT × (Int × Bool × Bool × Unit) × Int × Int × Int × Int × Int × Int × Int × Int × Bool × Bool × Int × Int × Int × Unit
abbrev RPar : Rd PaT := RPair (RSlice RPIt 9 64) (RPair RLook (RPair (RInt .i64) (RPair (RInt .i64) (RPair (RInt .i64) (RPair (RInt .i64) (RPair (RInt .i64) (RPair (RInt .i64) (RPair (RInt .i64) (RPair (RInt .i64) (RPair RBool (RPair RBool (RPair (RInt .i64) (RPair (RInt .i64) (RPair (RInt .i64) RNil))))))))))))))
abbrev CeT := Int × Int × Int × Int × List PaT × Int × Int × Int × Int × Unit
abbrev RCell : Rd CeT := RPair (RInt .i64) (RPair (RInt .i64) (RPair (RInt .i64) (RPair (RInt .i64) (RPair (RSlice RPar 17 136) (RPair (RInt .i64) (RPair (RInt .i64) (RPair (RInt .i64) (RPair (RInt .i64) RNil))))))))
abbrev TaT := Int × Int × List CeT × Int × Int × Int × Int × Unit
abbrev RTab : Rd TaT := RPair (RInt .i64) (RPair (RInt .i64) (RPair (RSlice RCell 9 88) (RPair (RInt .i64) (RPair (RInt .i64) (RPair (RInt .i64) (RPair (RInt .i64) RNil))))))
theorem rit_cells {w : World} {cs : List Value} {x : ItT} (h : RPIt w cs x) : ∃ y : PIt, True ∧ ∀ j, j < 9 → cs[j]? = some (y.V j) := by
  obtain ⟨_, _, rfl, ⟨rfl, _⟩, _, _, rfl, ⟨rfl, _⟩, _, _, rfl, ⟨_, _, rfl, ⟨rfl, _⟩, _, _, rfl, rfl, _, _, rfl, rfl, rfl⟩, _, _, rfl, ⟨rfl, _⟩, _, _, rfl, ⟨rfl, _⟩, _, _, rfl, ⟨rfl, _⟩, _, _, rfl, ⟨rfl, _⟩, rfl⟩ := h
  refine ⟨⟨x.1, x.2.1, x.2.2.1.1, x.2.2.1.2.1, x.2.2.1.2.2.1, x.2.2.2.1, x.2.2.2.2.1, x.2.2.2.2.2.1, x.2.2.2.2.2.2.1⟩, trivial, fun j hj => ?_⟩
  obtain rfl | rfl | rfl | rfl | rfl | rfl | rfl | rfl | rfl : j = 0 ∨ j = 1 ∨ j = 2 ∨ j = 3 ∨ j = 4 ∨ j = 5 ∨ j = 6 ∨ j = 7 ∨ j = 8 := by omega
  all_goals rfl
def ParQ (w : World) (p : ParD) : Prop := ParOk w p ∧ p.n ≤ p.c ∧ p.c ≤ maxLen
theorem rpar_cells {w : World} {cs : List Value} {x : PaT} (h : RPar w cs x) : ∃ y : ParD, ParQ w y ∧ ∀ j, j < 17 → cs[j]? = some (y.V j) := by
  obtain ⟨_, _, rfl, ⟨sa, sc, rfl, sl, sm, st, sn, se⟩, _, _, rfl, ⟨_, _, rfl, ⟨rfl, _⟩, _, _, rfl, rfl, _, _, rfl, rfl, rfl⟩, _, _, rfl, ⟨rfl, _⟩, _, _, rfl, ⟨rfl, _⟩, _, _, rfl, ⟨rfl, _⟩, _, _, rfl, ⟨rfl, _⟩, _, _, rfl, ⟨rfl, _⟩, _, _, rfl, ⟨rfl, _⟩, _, _, rfl, ⟨rfl, _⟩, _, _, rfl, ⟨rfl, _⟩, _, _, rfl, rfl, _, _, rfl, rfl, _, _, rfl, ⟨rfl, _⟩, _, _, rfl, ⟨rfl, _⟩, _, _, rfl, ⟨rfl, _⟩, rfl⟩ := h
  obtain ⟨I, _, hI⟩ := CellsF.choose (β := PIt) (V := fun y j => y.V j) (Q := fun _ => True) se (fun cs x h => rit_cells h)
  refine ⟨⟨x.1.length, sa, sc, I, x.2.1.1, x.2.1.2.1, x.2.1.2.2.1, x.2.2.1, x.2.2.2.1, x.2.2.2.2.1, x.2.2.2.2.2.1, x.2.2.2.2.2.2.1, x.2.2.2.2.2.2.2.1, x.2.2.2.2.2.2.2.2.1, x.2.2.2.2.2.2.2.2.2.1, x.2.2.2.2.2.2.2.2.2.2.1, x.2.2.2.2.2.2.2.2.2.2.2.1, x.2.2.2.2.2.2.2.2.2.2.2.2.1, x.2.2.2.2.2.2.2.2.2.2.2.2.2.1, x.2.2.2.2.2.2.2.2.2.2.2.2.2.2.1⟩, ⟨hI, sl, sm⟩, fun j hj => ?_⟩
  obtain rfl | rfl | rfl | rfl | rfl | rfl | rfl | rfl | rfl | rfl | rfl | rfl | rfl | rfl | rfl | rfl | rfl : j = 0 ∨ j = 1 ∨ j = 2 ∨ j = 3 ∨ j = 4 ∨ j = 5 ∨ j = 6 ∨ j = 7 ∨ j = 8 ∨ j = 9 ∨ j = 10 ∨ j = 11 ∨ j = 12 ∨ j = 13 ∨ j = 14 ∨ j = 15 ∨ j = 16 := by omega
  all_goals rfl
def CellQ (w : World) (c : CellD) : Prop := CellOk w c ∧ c.np ≤ 1000000000000000 ∧ ∀ k, k < c.np → (c.par k).n ≤ (c.par k).c ∧ (c.par k).c ≤ maxLen
theorem rcell_cells {w : World} {cs : List Value} {x : CeT} (h : RCell w cs x) : ∃ y : CellD, CellQ w y ∧ ∀ j, j < 9 → cs[j]? = some (y.V j) := by
  obtain ⟨_, _, rfl, ⟨rfl, _⟩, _, _, rfl, ⟨rfl, _⟩, _, _, rfl, ⟨rfl, _⟩, _, _, rfl, ⟨rfl, _⟩, _, _, rfl, ⟨sa, sc, rfl, sl, sm, st, sn, se⟩, _, _, rfl, ⟨rfl, _⟩, _, _, rfl, ⟨rfl, _⟩, _, _, rfl, ⟨rfl, _⟩, _, _, rfl, ⟨rfl, _⟩, rfl⟩ := h
  obtain ⟨P, hQ, hP⟩ := CellsF.choose (β := ParD) (V := fun y j => y.V j) (Q := ParQ w) se (fun cs x h => rpar_cells h)
  refine ⟨⟨x.1, x.2.1, x.2.2.1, x.2.2.2.1, x.2.2.2.2.1.length, sa, sc, P, x.2.2.2.2.2.1, x.2.2.2.2.2.2.1, x.2.2.2.2.2.2.2.1, x.2.2.2.2.2.2.2.2.1⟩, ⟨⟨hP, fun k hk => (hQ k hk).1⟩, ?_, fun k hk => (hQ k hk).2⟩, fun j hj => ?_⟩
  · unfold reachBytes at st
    simp only
    omega
  obtain rfl | rfl | rfl | rfl | rfl | rfl | rfl | rfl | rfl : j = 0 ∨ j = 1 ∨ j = 2 ∨ j = 3 ∨ j = 4 ∨ j = 5 ∨ j = 6 ∨ j = 7 ∨ j = 8 := by omega
  all_goals rfl
end Go.Law.Tb
namespace Go.Proofs.Ytabnohphgegflaa.TB
open Go.RowKit Go.Law Go.Law.Tb
theorem rtab_cells {w : World} {cs : List Value} {x : TaT} (h : RTab w cs x) : ∃ y : TabD, TabOk w y ∧ TabCap y ∧ cs = y.cells := by
  obtain ⟨_, _, rfl, ⟨rfl, _⟩, _, _, rfl, ⟨rfl, _⟩, _, _, rfl, ⟨sa, sc, rfl, sl, sm, st, sn, se⟩, _, _, rfl, ⟨rfl, _⟩, _, _, rfl, ⟨rfl, _⟩, _, _, rfl, ⟨rfl, _⟩, _, _, rfl, ⟨rfl, _⟩, rfl⟩ := h
  obtain ⟨C, hQ, hC⟩ := CellsF.choose (β := CellD) (V := fun y j => y.V j) (Q := CellQ w) se (fun cs x h => rcell_cells h)
  refine ⟨⟨x.1, x.2.1, x.2.2.1.length, sa, sc, C, x.2.2.2.1, x.2.2.2.2.1, x.2.2.2.2.2.1, x.2.2.2.2.2.2.1⟩, ⟨hC, fun i hi => (hQ i hi).1⟩, ⟨?_, fun i hi => (hQ i hi).2⟩, rfl⟩
  unfold reachBytes at st
  simp only
  omega
theorem reader_look {H : Type} {enc : TypeId × Value → H} {w : World} {fuel : Nat} : ReaderAt enc Try.prog w fuel 60 RLook :=
  reader_struct Try.underlying60 rfl (by kernel_rfl) (fun m _ => fields_cons (c := 1) rfl (by kernel_rfl) (reader_int Try.underlying3) (fields_cons (c := 1) rfl (by kernel_rfl) (reader_bool Try.underlying4) (fields_cons (c := 1) rfl (by kernel_rfl) (reader_bool Try.underlying4) fields_nil)))
theorem reader_item {H : Type} {enc : TypeId × Value → H} {w : World} {fuel : Nat} : ReaderAt enc Try.prog w fuel 68 RPIt :=
  reader_struct Try.underlying68 rfl (by kernel_rfl) (fun m _ => fields_cons (c := 1) rfl (by kernel_rfl) (reader_int Try.underlying3) (fields_cons (c := 1) rfl (by kernel_rfl) (reader_int Try.underlying3) (fields_cons (c := 3) rfl (by kernel_rfl) reader_look (fields_cons (c := 1) rfl (by kernel_rfl) (reader_int Try.underlying3) (fields_cons (c := 1) rfl (by kernel_rfl) (reader_int Try.underlying3) (fields_cons (c := 1) rfl (by kernel_rfl) (reader_int Try.underlying3) (fields_cons (c := 1) rfl (by kernel_rfl) (reader_int Try.underlying3) fields_nil)))))))
theorem reader_items {H : Type} {enc : TypeId × Value → H} {w : World} {fuel : Nat} : ReaderAt enc Try.prog w fuel 58 (RSlice RPIt 9 64) :=
  reader_slice Try.underlying58 (s := 9) (bytes := 64) (by kernel_rfl) (by omega) (by kernel_rfl) (fun _ _ => reader_item)
theorem reader_par {H : Type} {enc : TypeId × Value → H} {w : World} {fuel : Nat} : ReaderAt enc Try.prog w fuel 62 RPar :=
  reader_struct Try.underlying62 rfl (by kernel_rfl) (fun m _ => fields_cons (c := 1) rfl (by kernel_rfl) reader_items (fields_cons (c := 3) rfl (by kernel_rfl) reader_look (fields_cons (c := 1) rfl (by kernel_rfl) (reader_int Try.underlying3) (fields_cons (c := 1) rfl (by kernel_rfl) (reader_int Try.underlying3) (fields_cons (c := 1) rfl (by kernel_rfl) (reader_int Try.underlying3) (fields_cons (c := 1) rfl (by kernel_rfl) (reader_int Try.underlying3) (fields_cons (c := 1) rfl (by kernel_rfl) (reader_int Try.underlying3) (fields_cons (c := 1) rfl (by kernel_rfl) (reader_int Try.underlying3) (fields_cons (c := 1) rfl (by kernel_rfl) (reader_int Try.underlying3) (fields_cons (c := 1) rfl (by kernel_rfl) (reader_int Try.underlying3) (fields_cons (c := 1) rfl (by kernel_rfl) (reader_bool Try.underlying4) (fields_cons (c := 1) rfl (by kernel_rfl) (reader_bool Try.underlying4) (fields_cons (c := 1) rfl (by kernel_rfl) (reader_int Try.underlying3) (fields_cons (c := 1) rfl (by kernel_rfl) (reader_int Try.underlying3) (fields_cons (c := 1) rfl (by kernel_rfl) (reader_int Try.underlying3) fields_nil)))))))))))))))
theorem reader_pars {H : Type} {enc : TypeId × Value → H} {w : World} {fuel : Nat} : ReaderAt enc Try.prog w fuel 42 (RSlice RPar 17 136) :=
  reader_slice Try.underlying42 (s := 17) (bytes := 136) (by kernel_rfl) (by omega) (by kernel_rfl) (fun _ _ => reader_par)
theorem reader_cell {H : Type} {enc : TypeId × Value → H} {w : World} {fuel : Nat} : ReaderAt enc Try.prog w fuel 44 RCell :=
  reader_struct Try.underlying44 rfl (by kernel_rfl) (fun m _ => fields_cons (c := 1) rfl (by kernel_rfl) (reader_int Try.underlying3) (fields_cons (c := 1) rfl (by kernel_rfl) (reader_int Try.underlying3) (fields_cons (c := 1) rfl (by kernel_rfl) (reader_int Try.underlying3) (fields_cons (c := 1) rfl (by kernel_rfl) (reader_int Try.underlying3) (fields_cons (c := 1) rfl (by kernel_rfl) reader_pars (fields_cons (c := 1) rfl (by kernel_rfl) (reader_int Try.underlying3) (fields_cons (c := 1) rfl (by kernel_rfl) (reader_int Try.underlying3) (fields_cons (c := 1) rfl (by kernel_rfl) (reader_int Try.underlying3) (fields_cons (c := 1) rfl (by kernel_rfl) (reader_int Try.underlying3) fields_nil)))))))))
theorem reader_cells {H : Type} {enc : TypeId × Value → H} {w : World} {fuel : Nat} : ReaderAt enc Try.prog w fuel 39 (RSlice RCell 9 88) :=
  reader_slice Try.underlying39 (s := 9) (bytes := 88) (by kernel_rfl) (by omega) (by kernel_rfl) (fun _ _ => reader_cell)
theorem reader_tab {H : Type} {enc : TypeId × Value → H} {w : World} {fuel : Nat} : ReaderAt enc Try.prog w fuel 41 RTab :=
  reader_struct Try.underlying41 rfl (by kernel_rfl) (fun m _ => fields_cons (c := 1) rfl (by kernel_rfl) (reader_int Try.underlying3) (fields_cons (c := 1) rfl (by kernel_rfl) (reader_int Try.underlying3) (fields_cons (c := 1) rfl (by kernel_rfl) reader_cells (fields_cons (c := 1) rfl (by kernel_rfl) (reader_int Try.underlying3) (fields_cons (c := 1) rfl (by kernel_rfl) (reader_int Try.underlying3) (fields_cons (c := 1) rfl (by kernel_rfl) (reader_int Try.underlying3) (fields_cons (c := 1) rfl (by kernel_rfl) (reader_int Try.underlying3) fields_nil)))))))
end Go.Proofs.Ytabnohphgegflaa.TB
