/-
  Shapes as arguments.
-/
import Derived.Test.YtabnohphgegflaaDoorReads
import Derived.Test.YtabnohphgegflaaDoorShFind
namespace Go.Law.Sh
open Go.RowKit Go.Law
abbrev ShT := Int × Int × Int × Int × Int × Int × Int × Int × Int × Int × ByteArray × ByteArray × Unit
abbrev RShape : Rd ShT := RPair (RInt .i64) (RPair (RInt .i64) (RPair (RInt .i64) (RPair (RInt .i64) (RPair (RInt .i64) (RPair (RInt .i64) (RPair (RInt .i64) (RPair (RInt .i64) (RPair (RInt .i64) (RPair (RInt .i64) (RPair RStr (RPair RStr RNil)))))))))))
def shE0 : ShT := (0, 0, 0, 0, 0, 0, 0, 0, 0, 0, ⟨#[]⟩, ⟨#[]⟩, ())
def eOf (x : ShT) : Nat → Int
  | 0 => x.1
  | 1 => x.2.1
  | 2 => x.2.2.1
  | 3 => x.2.2.2.1
  | 4 => x.2.2.2.2.1
  | 5 => x.2.2.2.2.2.1
  | 6 => x.2.2.2.2.2.2.1
  | 7 => x.2.2.2.2.2.2.2.1
  | 8 => x.2.2.2.2.2.2.2.2.1
  | _ => x.2.2.2.2.2.2.2.2.2.1
def nOf (x : ShT) : Nat → ByteArray
  | 0 => x.2.2.2.2.2.2.2.2.2.2.1
  | _ => x.2.2.2.2.2.2.2.2.2.2.2.1
theorem rshape_cells {w : World} {cs : List Value} {x : ShT} (h : RShape w cs x) :
    cs = [.int .i64 (eOf x 0), .int .i64 (eOf x 1), .int .i64 (eOf x 2), .int .i64 (eOf x 3), .int .i64 (eOf x 4), .int .i64 (eOf x 5), .int .i64 (eOf x 6), .int .i64 (eOf x 7), .int .i64 (eOf x 8), .int .i64 (eOf x 9), .string (nOf x 0), .string (nOf x 1)] := by
  obtain ⟨_, _, rfl, ⟨rfl, _⟩, _, _, rfl, ⟨rfl, _⟩, _, _, rfl, ⟨rfl, _⟩, _, _, rfl, ⟨rfl, _⟩, _, _, rfl, ⟨rfl, _⟩, _, _, rfl, ⟨rfl, _⟩, _, _, rfl, ⟨rfl, _⟩, _, _, rfl, ⟨rfl, _⟩, _, _, rfl, ⟨rfl, _⟩, _, _, rfl, ⟨rfl, _⟩, _, _, rfl, ⟨rfl, _⟩, _, _, rfl, ⟨rfl, _⟩, rfl⟩ := h
  rfl
theorem rshape_size {w : World} {cs : List Value} {x : ShT} (h : RShape w cs x) (j : Nat) : (nOf x j).size ≤ reachBytes := by
  obtain ⟨_, _, rfl, ⟨rfl, _⟩, _, _, rfl, ⟨rfl, _⟩, _, _, rfl, ⟨rfl, _⟩, _, _, rfl, ⟨rfl, _⟩, _, _, rfl, ⟨rfl, _⟩, _, _, rfl, ⟨rfl, _⟩, _, _, rfl, ⟨rfl, _⟩, _, _, rfl, ⟨rfl, _⟩, _, _, rfl, ⟨rfl, _⟩, _, _, rfl, ⟨rfl, _⟩, _, _, rfl, ⟨rfl, h1⟩, _, _, rfl, ⟨rfl, h2⟩, rfl⟩ := h
  match j with
  | 0 => exact h1
  | _ + 1 => exact h2
theorem shF_of {w : World} {a : Option Addr} {xs : List ShT} (h : Elems RShape 12 w a xs) : ShF w a xs.length (fun i => eOf (xs.getD i shE0)) (fun i => nOf (xs.getD i shE0)) := by
  intro hn
  obtain ⟨b, off, rfl, hh⟩ := h (by rintro rfl; simp at hn)
  refine ⟨b, off, rfl, fun i hi => ?_⟩
  have hx := List.getElem?_eq_getElem hi
  obtain ⟨cs, hl, hc, hr⟩ := hh i _ hx
  have e : xs.getD i shE0 = xs[i] := by simp [List.getD, hx]
  simp only [e]
  have hcs := rshape_cells hr
  subst hcs
  refine ⟨fun j hj => ?_, hc 10 _ rfl, hc 11 _ rfl⟩
  obtain rfl | rfl | rfl | rfl | rfl | rfl | rfl | rfl | rfl | rfl : j = 0 ∨ j = 1 ∨ j = 2 ∨ j = 3 ∨ j = 4 ∨ j = 5 ∨ j = 6 ∨ j = 7 ∨ j = 8 ∨ j = 9 := by omega
  all_goals exact hc _ _ rfl
end Go.Law.Sh
namespace Go.Proofs.YtabnohphgegflaaDoor.ShT
open Go.RowKit Go.Law Go.Law.Sh
theorem reader_shape {H : Type} {enc : TypeId × Value → H} {w : World} {fuel : Nat} : ReaderAt enc Tryd.prog w fuel 30 RShape :=
  reader_struct Tryd.underlying30 rfl (by kernel_rfl) (fun m _ => fields_cons (c := 1) rfl (by kernel_rfl) (reader_int Tryd.underlying3) (fields_cons (c := 1) rfl (by kernel_rfl) (reader_int Tryd.underlying3) (fields_cons (c := 1) rfl (by kernel_rfl) (reader_int Tryd.underlying3)
    (fields_cons (c := 1) rfl (by kernel_rfl) (reader_int Tryd.underlying3) (fields_cons (c := 1) rfl (by kernel_rfl) (reader_int Tryd.underlying3) (fields_cons (c := 1) rfl (by kernel_rfl) (reader_int Tryd.underlying3) (fields_cons (c := 1) rfl (by kernel_rfl) (reader_int Tryd.underlying3)
    (fields_cons (c := 1) rfl (by kernel_rfl) (reader_int Tryd.underlying3) (fields_cons (c := 1) rfl (by kernel_rfl) (reader_int Tryd.underlying3) (fields_cons (c := 1) rfl (by kernel_rfl) (reader_int Tryd.underlying3)
    (fields_cons (c := 1) rfl (by kernel_rfl) (reader_string Tryd.underlying9) (fields_cons (c := 1) rfl (by kernel_rfl) (reader_string Tryd.underlying9) fields_nil))))))))))))
theorem reader_shapes {H : Type} {enc : TypeId × Value → H} {w : World} {fuel : Nat} : ReaderAt enc Tryd.prog w fuel 28 (RSlice RShape 12 112) :=
  reader_slice Tryd.underlying28 (s := 12) (bytes := 112) (by kernel_rfl) (by omega) (by kernel_rfl) (fun _ _ => reader_shape)
end Go.Proofs.YtabnohphgegflaaDoor.ShT
