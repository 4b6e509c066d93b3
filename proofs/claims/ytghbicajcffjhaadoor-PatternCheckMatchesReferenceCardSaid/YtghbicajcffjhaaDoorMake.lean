/-
  make of a row of ints.
-/
import Derived.Test.YtghbicajcffjhaaDoorProg
import Derived.Test.YtghbicajcffjhaaDoorOwn
import Derived.Test.YtghbicajcffjhaaDoorCommon
import Derived.WalkLawsBesides
import Derived.Lib.Hide
import Derived.Deep.QuietTactic
import Derived.BigQuiet
import Derived.BigRegion
namespace Go.Proofs.YtghbicajcffjhaaDoor.Ref
open Go.RowKit Go.Law
theorem make_ints (n : Nat) (hn : n ≤ 1000000000000) (w : World) : (Instr.makeSlice 35 (.int .i64 (n : Int)) (.int .i64 (n : Int))).run Tryd.prog w = .ok (.slice (some ⟨w.heap.size, 0, none⟩) n n) (w.alloc (.cells (madeCells #[.int .i64 0] n) 3)) := by
  obtain ⟨i0, hi, hz0, hz1, hz2⟩ := info_parts (show (Tryd.prog.info? 3).map (fun i => (i.zero, i.size, i.bytes)) = some (some (.int .i64 0), 1, 8) by kernel_rfl)
  have := run_make (P := Tryd.prog) w 35 3 i0 (.int .i64 0) Tryd.underlying35 hi hz0 .i64 .i64 (n : Int) (n : Int) (by omega) (by omega) (by rw [hz2]; omega) (by omega)
  rw [hz1] at this
  simpa [Value.cells] using this
end Go.Proofs.YtghbicajcffjhaaDoor.Ref
