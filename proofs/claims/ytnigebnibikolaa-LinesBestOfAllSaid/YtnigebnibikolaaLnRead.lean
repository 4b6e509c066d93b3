/-
  Parts and shapes of paragraphs as arguments.
-/
import Derived.Test.YtnigebnibikolaaReads
import Derived.Test.YtnigebnibikolaaProg
import Derived.Test.YtnigebnibikolaaLnPlain
namespace Go.Law.Ln
open Go.RowKit Go.Law
abbrev PaT := Int × Int × Int × Int × Int × Bool × Unit
abbrev RPart : Rd PaT := RPair (RInt .i64) (RPair (RInt .i64) (RPair (RInt .i64) (RPair (RInt .i64) (RPair (RInt .i64) (RPair RBool RNil)))))
def paE0 : PaT := (0, 0, 0, 0, 0, false, ())
def paOf (x : PaT) : Part := ⟨x.1, x.2.1, x.2.2.1, x.2.2.2.1, x.2.2.2.2.1, x.2.2.2.2.2.1⟩
theorem rpart_cells {w : World} {cs : List Value} {x : PaT} (h : RPart w cs x) : ∀ j, j < 6 → cs[j]? = some ((paOf x).V j) := by
  obtain ⟨_, _, rfl, ⟨rfl, _⟩, _, _, rfl, ⟨rfl, _⟩, _, _, rfl, ⟨rfl, _⟩, _, _, rfl, ⟨rfl, _⟩, _, _, rfl, ⟨rfl, _⟩, _, _, rfl, rfl, rfl⟩ := h
  intro j hj
  obtain rfl | rfl | rfl | rfl | rfl | rfl : j = 0 ∨ j = 1 ∨ j = 2 ∨ j = 3 ∨ j = 4 ∨ j = 5 := by omega
  all_goals rfl
theorem paF_of {w : World} {a : Option Addr} {xs : List PaT} (h : Elems RPart 6 w a xs) : CellsF w a xs.length 6 (fun i => (paOf (xs.getD i paE0)).V) :=
  CellsF.of_elems (g := fun x j => (paOf x).V j) h paE0 (fun _ _ hr => rpart_cells hr)
end Go.Law.Ln
namespace Go.Proofs.Ytnigebnibikolaa.LnT
open Go.RowKit Go.Law Go.Law.Ln
theorem reader_part {H : Type} {enc : TypeId × Value → H} {w : World} {fuel : Nat} : ReaderAt enc Try.prog w fuel 108 RPart :=
  reader_struct Try.underlying108 rfl (by kernel_rfl) (fun m _ => fields_cons (c := 1) rfl (by kernel_rfl) (reader_int Try.underlying3) (fields_cons (c := 1) rfl (by kernel_rfl) (reader_int Try.underlying3) (fields_cons (c := 1) rfl (by kernel_rfl) (reader_int Try.underlying3)
    (fields_cons (c := 1) rfl (by kernel_rfl) (reader_int Try.underlying3) (fields_cons (c := 1) rfl (by kernel_rfl) (reader_int Try.underlying3) (fields_cons (c := 1) rfl (by kernel_rfl) (reader_bool Try.underlying4) fields_nil))))))
theorem reader_parts {H : Type} {enc : TypeId × Value → H} {w : World} {fuel : Nat} : ReaderAt enc Try.prog w fuel 58 (RSlice RPart 6 48) :=
  reader_slice Try.underlying58 (s := 6) (bytes := 48) (by kernel_rfl) (by omega) (by kernel_rfl) (fun _ _ => reader_part)
end Go.Proofs.Ytnigebnibikolaa.LnT
