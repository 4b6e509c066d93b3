/-
  Effects as arguments.
-/
import Derived.Test.YthddbinbeinafaaReads
import Derived.Test.YthddbinbeinafaaProg
import Derived.Test.YthddbinbeinafaaCellsF
import Derived.Test.YthddbinbeinafaaTlPlain
namespace Go.Law.Tl
open Go.RowKit Go.Law
abbrev EffT := Int × Int × Int × Int × Int × Int × Int × Unit
abbrev REff : Rd EffT := RPair (RInt .i64) (RPair (RInt .i64) (RPair (RInt .i64) (RPair (RInt .i64) (RPair (RInt .i64) (RPair (RInt .i64) (RPair (RInt .i64) RNil))))))
def effE0 : EffT := (0, 0, 0, 0, 0, 0, 0, ())
def effOf (x : EffT) : Eff := ⟨x.1, x.2.1, x.2.2.1, x.2.2.2.1, x.2.2.2.2.1, x.2.2.2.2.2.1, x.2.2.2.2.2.2.1⟩
theorem reff_cells {w : World} {cs : List Value} {x : EffT} (h : REff w cs x) : ∀ j, j < 7 → cs[j]? = some ((effOf x).V j) := by
  obtain ⟨_, _, rfl, ⟨rfl, _⟩, _, _, rfl, ⟨rfl, _⟩, _, _, rfl, ⟨rfl, _⟩, _, _, rfl, ⟨rfl, _⟩, _, _, rfl, ⟨rfl, _⟩, _, _, rfl, ⟨rfl, _⟩, _, _, rfl, ⟨rfl, _⟩, rfl⟩ := h
  intro j hj
  obtain rfl | rfl | rfl | rfl | rfl | rfl | rfl : j = 0 ∨ j = 1 ∨ j = 2 ∨ j = 3 ∨ j = 4 ∨ j = 5 ∨ j = 6 := by omega
  all_goals rfl
theorem effF_of {w : World} {a : Option Addr} {xs : List EffT} (h : Elems REff 7 w a xs) : CellsF w a xs.length 7 (fun i => (effOf (xs.getD i effE0)).V) :=
  CellsF.of_elems (g := fun x j => (effOf x).V j) h effE0 (fun _ _ hr => reff_cells hr)
end Go.Law.Tl
namespace Go.Proofs.Ythddbinbeinafaa.TL
open Go.RowKit Go.Law Go.Law.Tl
theorem reader_eff {H : Type} {enc : TypeId × Value → H} {w : World} {fuel : Nat} : ReaderAt enc Try.prog w fuel 36 REff :=
  reader_struct Try.underlying36 rfl (by kernel_rfl) (fun m _ => fields_cons (c := 1) rfl (by kernel_rfl) (reader_int Try.underlying3) (fields_cons (c := 1) rfl (by kernel_rfl) (reader_int Try.underlying3) (fields_cons (c := 1) rfl (by kernel_rfl) (reader_int Try.underlying3)
    (fields_cons (c := 1) rfl (by kernel_rfl) (reader_int Try.underlying3) (fields_cons (c := 1) rfl (by kernel_rfl) (reader_int Try.underlying3) (fields_cons (c := 1) rfl (by kernel_rfl) (reader_int Try.underlying3) (fields_cons (c := 1) rfl (by kernel_rfl) (reader_int Try.underlying3) fields_nil)))))))
theorem reader_effs {H : Type} {enc : TypeId × Value → H} {w : World} {fuel : Nat} : ReaderAt enc Try.prog w fuel 22 (RSlice REff 7 56) :=
  reader_slice Try.underlying22 (s := 7) (bytes := 56) (by kernel_rfl) (by omega) (by kernel_rfl) (fun _ _ => reader_eff)
end Go.Proofs.Ythddbinbeinafaa.TL
