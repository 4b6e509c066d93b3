/-
  slices.Sort, slices.Index, slices.Contains at ints: laid by the kit's lay-plain (door seat of d1).
-/
import Derived.Shelf.Sort.Plain
import Derived.Shelf.Slices.Turned
import Derived.Ground.NamesProg
import Derived.Test.YtabnohphgegflaaDoorProg
namespace Go.Proofs
open Go.Shelf
def Tryd.lays189_ren : Go.Shelf.Ren := ⟨fun | 189 => 37 | 125 => 53 | 257 => 52 | 128 => 74 | 129 => 75 | 294 => 65 | 295 => 66 | 296 => 67 | 297 => 68 | 298 => 69 | 299 => 70 | 216 => 71 | 300 => 72 | 301 => 73 | 328 => 91 | 329 => 92 | 330 => 93 | 331 => 94 | 332 => 95 | 215 => 96 | 343 => 108 | n => n, fun | 28 => 22 | 3 => 3 | 46 => 79 | 0 => 0 | 51 => 102 | 53 => 104 | 4 => 4 | 183 => 95 | 182 => 94 | 131 => 58 | 5 => 5 | 9 => 9 | 218 => 115 | 222 => 119 | 228 => 139 | 229 => 45 | n => n, fun | n => n⟩
theorem Tryd.lays189 : Go.Proofs.Lays.n189 Tryd.prog Tryd.lays189_ren := {
  mixed := by kernel_rfl
  f125 := Tryd.func53.trans (congrArg some (by kernel_rfl))
  f128 := Tryd.func74.trans (congrArg some (by kernel_rfl))
  f129 := Tryd.func75.trans (congrArg some (by kernel_rfl))
  f189 := Tryd.func37.trans (congrArg some (by kernel_rfl))
  f215 := Tryd.func96.trans (congrArg some (by kernel_rfl))
  f216 := Tryd.func71.trans (congrArg some (by kernel_rfl))
  f257 := Tryd.func52.trans (congrArg some (by kernel_rfl))
  f294 := Tryd.func65.trans (congrArg some (by kernel_rfl))
  f295 := Tryd.func66.trans (congrArg some (by kernel_rfl))
  f296 := Tryd.func67.trans (congrArg some (by kernel_rfl))
  f297 := Tryd.func68.trans (congrArg some (by kernel_rfl))
  f298 := Tryd.func69.trans (congrArg some (by kernel_rfl))
  f299 := Tryd.func70.trans (congrArg some (by kernel_rfl))
  f300 := Tryd.func72.trans (congrArg some (by kernel_rfl))
  f301 := Tryd.func73.trans (congrArg some (by kernel_rfl))
  f328 := Tryd.func91.trans (congrArg some (by kernel_rfl))
  f329 := Tryd.func92.trans (congrArg some (by kernel_rfl))
  f330 := Tryd.func93.trans (congrArg some (by kernel_rfl))
  f331 := Tryd.func94.trans (congrArg some (by kernel_rfl))
  f332 := Tryd.func95.trans (congrArg some (by kernel_rfl))
  f343 := Tryd.func108.trans (congrArg some (by kernel_rfl))
  t0 := Tryd.underlying0
  a0 := Tryd.isAgg0
  z0 := Tryd.sizeOf0
  v0 := Tryd.zeroValue0
  t3 := Tryd.underlying3
  a3 := Tryd.isAgg3
  z3 := Tryd.sizeOf3
  v3 := Tryd.zeroValue3
  t4 := Tryd.underlying4
  a4 := Tryd.isAgg4
  z4 := Tryd.sizeOf4
  v4 := Tryd.zeroValue4
  t5 := Tryd.underlying5
  a5 := Tryd.isAgg5
  z5 := Tryd.sizeOf5
  v5 := Tryd.zeroValue5
  t9 := Tryd.underlying9
  a9 := Tryd.isAgg9
  z9 := Tryd.sizeOf9
  v9 := Tryd.zeroValue9
  t28 := Tryd.underlying22
  a28 := Tryd.isAgg22
  z28 := Tryd.sizeOf22
  v28 := Tryd.zeroValue22
  t46 := Tryd.underlying79
  a46 := Tryd.isAgg79
  z46 := Tryd.sizeOf79
  v46 := Tryd.zeroValue79
  t51 := Tryd.underlying102
  a51 := Tryd.isAgg102
  z51 := Tryd.sizeOf102
  v51 := Tryd.zeroValue102
  t53 := Tryd.underlying104
  a53 := Tryd.isAgg104
  z53 := Tryd.sizeOf104
  v53 := Tryd.zeroValue104
  t131 := Tryd.underlying58
  a131 := Tryd.isAgg58
  z131 := Tryd.sizeOf58
  v131 := Tryd.zeroValue58
  t182 := Tryd.underlying94
  a182 := Tryd.isAgg94
  z182 := Tryd.sizeOf94
  v182 := Tryd.zeroValue94
  t183 := Tryd.underlying95
  a183 := Tryd.isAgg95
  z183 := Tryd.sizeOf95
  v183 := Tryd.zeroValue95
  t218 := Tryd.underlying115
  a218 := Tryd.isAgg115
  z218 := Tryd.sizeOf115
  v218 := Tryd.zeroValue115
  t222 := Tryd.underlying119
  a222 := Tryd.isAgg119
  z222 := Tryd.sizeOf119
  v222 := Tryd.zeroValue119
  t228 := Tryd.underlying139
  a228 := Tryd.isAgg139
  z228 := Tryd.sizeOf139
  v228 := Tryd.zeroValue139
  t229 := Tryd.underlying45
  a229 := Tryd.isAgg45
  z229 := Tryd.sizeOf45
  v229 := Tryd.zeroValue45 }
open Go.Sort Go.RowKit in
theorem Tryd.slices_Sort_int (blk off cap : Nat) (zs : List Int) (w : World) (hH : Holds (Value.int .i64) w blk off zs.toArray) (hblk : blk < w.heap.size) (hsz : zs.length < 4611686018427387904) :
    Calls Tryd.prog 37 #[.slice (some ⟨blk, off, none⟩) zs.length cap] w fun e w' =>
      e = .returned (.tuple #[]) ∧ ∃ n os, w' = grow (putRow (Value.int .i64) (Sort.ahead w n) blk off (zs.mergeSort fun x y => decide (x ≤ y)).toArray) os := Any.slices_Sort_int Tryd.lays189 blk off cap zs w hH hblk hsz
def Tryd.lays108_ren : Go.Shelf.Ren := ⟨fun | 108 => 51 | n => n, fun | 28 => 22 | 3 => 3 | 0 => 0 | 4 => 4 | n => n, fun | n => n⟩
theorem Tryd.lays108 : Go.Proofs.Lays.n108 Tryd.prog Tryd.lays108_ren := {
  mixed := by kernel_rfl
  f108 := Tryd.func51.trans (congrArg some (by kernel_rfl))
  t0 := Tryd.underlying0
  a0 := Tryd.isAgg0
  z0 := Tryd.sizeOf0
  v0 := Tryd.zeroValue0
  t3 := Tryd.underlying3
  a3 := Tryd.isAgg3
  z3 := Tryd.sizeOf3
  v3 := Tryd.zeroValue3
  t4 := Tryd.underlying4
  a4 := Tryd.isAgg4
  z4 := Tryd.sizeOf4
  v4 := Tryd.zeroValue4
  t28 := Tryd.underlying22
  a28 := Tryd.isAgg22
  z28 := Tryd.sizeOf22
  v28 := Tryd.zeroValue22 }
open Go.Lib in
theorem Tryd.slices_Index_int (b off n c : Nat) (zs : List Int) (x : Int) (w : World) (hz : n ≤ zs.length) (hbig : n ≤ 9223372036854775807) (hc : ∀ j, j < zs.length → w.cell? ⟨b, off + j, none⟩ = some (.int .i64 (zs.getD j 0))) :
    Calls Tryd.prog 51 #[.slice (some ⟨b, off, none⟩) n c, .int .i64 x] w fun e w' => e = .returned (.int .i64 (Lib.idxOf (zs.take n) x)) ∧ w' = w := Any.slices_Index_int Tryd.lays108 b off n c zs x w hz hbig hc
open Go.Lib in
theorem Tryd.slices_Index_int_empty (a : Option Addr) (c : Nat) (x : Int) (w : World) :
    Calls Tryd.prog 51 #[.slice a 0 c, .int .i64 x] w fun e w' => e = .returned (.int .i64 (Lib.idxOf [] x)) ∧ w' = w := Any.slices_Index_int_empty Tryd.lays108 a c x w
def Tryd.lays107_ren : Go.Shelf.Ren := ⟨fun | 107 => 36 | 108 => 51 | n => n, fun | 28 => 22 | 3 => 3 | 4 => 4 | 0 => 0 | n => n, fun | n => n⟩
theorem Tryd.lays107 : Go.Proofs.Lays.n107 Tryd.prog Tryd.lays107_ren := {
  mixed := by kernel_rfl
  f107 := Tryd.func36.trans (congrArg some (by kernel_rfl))
  f108 := Tryd.func51.trans (congrArg some (by kernel_rfl))
  t0 := Tryd.underlying0
  a0 := Tryd.isAgg0
  z0 := Tryd.sizeOf0
  v0 := Tryd.zeroValue0
  t3 := Tryd.underlying3
  a3 := Tryd.isAgg3
  z3 := Tryd.sizeOf3
  v3 := Tryd.zeroValue3
  t4 := Tryd.underlying4
  a4 := Tryd.isAgg4
  z4 := Tryd.sizeOf4
  v4 := Tryd.zeroValue4
  t28 := Tryd.underlying22
  a28 := Tryd.isAgg22
  z28 := Tryd.sizeOf22
  v28 := Tryd.zeroValue22 }
open Go.Lib in
theorem Tryd.slices_Contains_int (b off n c : Nat) (zs : List Int) (x : Int) (w : World) (hz : n ≤ zs.length) (hbig : n ≤ 9223372036854775807) (hc : ∀ j, j < zs.length → w.cell? ⟨b, off + j, none⟩ = some (.int .i64 (zs.getD j 0))) :
    Calls Tryd.prog 36 #[.slice (some ⟨b, off, none⟩) n c, .int .i64 x] w fun e w' => e = .returned (.bool ((zs.take n).contains x)) ∧ w' = w := Any.slices_Contains_int Tryd.lays107 b off n c zs x w hz hbig hc
open Go.Lib in
theorem Tryd.slices_Contains_int_empty (a : Option Addr) (c : Nat) (x : Int) (w : World) :
    Calls Tryd.prog 36 #[.slice a 0 c, .int .i64 x] w fun e w' => e = .returned (.bool false) ∧ w' = w := Any.slices_Contains_int_empty Tryd.lays107 a c x w
end Go.Proofs
