/-
  A pattern as an argument.
-/
import Derived.Test.YtghbicajcffjhaaDoorReads
import Derived.Test.YtghbicajcffjhaaDoorPcSet
namespace Go.Law.Pn
open Go.RowKit Go.Law
set_option linter.unusedVariables false
abbrev RR : Rd (Int × Int × Unit) := RPair (RInt .i64) (RPair (RInt .i64) RNil)
def RNode : Rd PT := fun w cs t => t.Ok w ∧ cs = t.hd.cells
theorem cells_V (h : PH) (j : Nat) (hj : j < 7) : h.cells[j]? = some (h.V j) := by
  obtain rfl | rfl | rfl | rfl | rfl | rfl | rfl : j = 0 ∨ j = 1 ∨ j = 2 ∨ j = 3 ∨ j = 4 ∨ j = 5 ∨ j = 6 := by omega
  all_goals rfl
theorem set_of_elems {w : World} {a : Option Addr} {xs : List (Int × Int × Unit)} (h : Elems RR 2 w a xs) : SetOk w a xs.length (fun i => ((xs.getD i (0, 0, ())).1, (xs.getD i (0, 0, ())).2.1)) :=
  show CellsF w a xs.length 2 (fun i j => (fun (x : Int × Int × Unit) j => prV (x.1, x.2.1) j) (xs.getD i (0, 0, ())) j) from CellsF.of_elems (R := RR) (g := fun (x : Int × Int × Unit) j => prV (x.1, x.2.1) j) h (0, 0, ()) (fun cs x hr j hj => by
    obtain ⟨_, _, rfl, ⟨rfl, _⟩, _, _, rfl, ⟨rfl, _⟩, rfl⟩ := hr
    match j, hj with
    | 0, _ => rfl
    | 1, _ => rfl)
end Go.Law.Pn
namespace Go.Proofs.YtghbicajcffjhaaDoor.PC
open Go.RowKit Go.Law Go.Law.Pn Go.ChangeShapes Go.WideShapes Go.ChangeAt
set_option linter.unusedVariables false
theorem reader_node {H : Type} {enc : TypeId × Value → H} {w : World} : ∀ fuel, ReaderAt enc Tryd.prog w fuel 25 RNode := by
  intro fuel
  induction fuel using Nat.strongRecOn with
  | _ fuel ih =>
    intro cs y hy hw
    have hr : ReaderAt enc Tryd.prog w fuel 25 (RPair (RInt .i64) (RPair RBool (RPair RBool (RPair (RInt .i64) (RPair (RInt .i64) (RPair (RSlice RR 2 16) (RPair (RSlice RNode 7 80) RNil))))))) :=
      reader_struct Tryd.underlying25 rfl (n := 7) (by kernel_rfl) (fun m hm =>
        fields_cons (c := 1) rfl (by kernel_rfl) (reader_int Tryd.underlying3)
          (fields_cons (c := 1) rfl (by kernel_rfl) (reader_bool Tryd.underlying4)
            (fields_cons (c := 1) rfl (by kernel_rfl) (reader_bool Tryd.underlying4)
              (fields_cons (c := 1) rfl (by kernel_rfl) (reader_int Tryd.underlying3)
                (fields_cons (c := 1) rfl (by kernel_rfl) (reader_int Tryd.underlying3)
                  (fields_cons (c := 1) rfl (by kernel_rfl) (reader_slice Tryd.underlying22 (s := 2) (bytes := 16) (by kernel_rfl) (by omega) (by kernel_rfl) (fun m2 hm2 => reader_struct Tryd.underlying119 rfl (n := 2) (by kernel_rfl) (fun m3 hm3 => fields_cons (c := 1) rfl (by kernel_rfl) (reader_int Tryd.underlying3) (fields_cons (c := 1) rfl (by kernel_rfl) (reader_int Tryd.underlying3) fields_nil))))
                    (fields_cons (c := 1) rfl (by kernel_rfl) (reader_slice Tryd.underlying23 (s := 7) (bytes := 80) (by kernel_rfl) (by omega) (by kernel_rfl) (fun m2 hm2 => ih m2 (by omega)))
                      fields_nil)))))))
    obtain ⟨x, hx⟩ := hr cs y hy hw
    obtain ⟨_, _, rfl, ⟨rfl, _⟩, _, _, rfl, rfl, _, _, rfl, rfl, _, _, rfl, ⟨rfl, _⟩, _, _, rfl, ⟨rfl, _⟩, _, _, rfl, ⟨sa, sc, rfl, sl, sm, st, sn, se⟩, _, _, rfl, ⟨ka, kc, rfl, kl, km, kt, kn, ke⟩, rfl⟩ := hx
    obtain ⟨kind, nt, lz, lo, hi, xs, ks, _⟩ := x
    simp only at sl sm st sn se kl km kt kn ke
    refine ⟨.mk ⟨kind, nt, lz, lo, hi, xs.length, sa, sc, fun i => ((xs.getD i (0, 0, ())).1, (xs.getD i (0, 0, ())).2.1), ks.length, ka, kc⟩ (fun i => ks.getD i .nil), ⟨⟨set_of_elems se, by simp only; omega⟩, CellsF.of_elems (g := fun (t : PT) j => t.hd.V j) ke .nil (fun cs t h j hj => by rw [h.2]; exact cells_V _ j hj), fun i hi => ?_⟩, rfl⟩
    simp only at hi
    obtain ⟨b, off, _, hh⟩ := ke (by rintro rfl; simp at hi)
    obtain ⟨cs, _, _, h⟩ := hh i _ (List.getElem?_eq_getElem hi)
    have e : ks.getD i PT.nil = ks[i] := by rw [List.getD_eq_getElem?_getD, List.getElem?_eq_getElem hi]; rfl
    simp only [e]
    exact h.1
end Go.Proofs.YtghbicajcffjhaaDoor.PC
