/-
  The library contract of stringslite.Index at a text of one byte, laid by the kit's lay-shelf and lay-plain.
-/
import Derived.Shelf.Strings.Search1
import Derived.Shelf.Strings.Search2
import Derived.Test.YtnigebnibikolabProg
namespace Go.Proofs
open Go.Shelf
def Try.lays219_ren : Go.Shelf.Ren := ⟨fun | 219 => 9 | 217 => 10 | 225 => 11 | 224 => 12 | 267 => 13 | 266 => 14 | 314 => 15 | n => n, fun | 9 => 9 | 3 => 3 | 4 => 4 | 5 => 5 | 46 => 38 | 146 => 40 | 51 => 39 | n => n, fun | 1 => 0 | n => n⟩
theorem Try.lays219 : Go.Proofs.Lays.n219 Try.prog Try.lays219_ren := {
  mixed := by kernel_rfl
  f217 := Try.func10.trans (congrArg some (by kernel_rfl))
  f219 := Try.func9.trans (congrArg some (by kernel_rfl))
  f224 := Try.func12.trans (congrArg some (by kernel_rfl))
  f225 := Try.func11.trans (congrArg some (by kernel_rfl))
  f266 := Try.func14.trans (congrArg some (by kernel_rfl))
  f267 := Try.func13.trans (congrArg some (by kernel_rfl))
  f314 := Try.func15.trans (congrArg some (by kernel_rfl))
  t3 := Try.underlying3
  a3 := Try.isAgg3
  z3 := Try.sizeOf3
  v3 := Try.zeroValue3
  t4 := Try.underlying4
  a4 := Try.isAgg4
  z4 := Try.sizeOf4
  v4 := Try.zeroValue4
  t5 := Try.underlying5
  a5 := Try.isAgg5
  z5 := Try.sizeOf5
  v5 := Try.zeroValue5
  t9 := Try.underlying9
  a9 := Try.isAgg9
  z9 := Try.sizeOf9
  v9 := Try.zeroValue9
  t46 := Try.underlying38
  a46 := Try.isAgg38
  z46 := Try.sizeOf38
  v46 := Try.zeroValue38
  t51 := Try.underlying39
  a51 := Try.isAgg39
  z51 := Try.sizeOf39
  v51 := Try.zeroValue39
  t146 := Try.underlying40
  a146 := Try.isAgg40
  z146 := Try.sizeOf40
  v146 := Try.zeroValue40
  g1 := by kernel_rfl }
open Go.RowKit Go.Lib in
theorem Try.stringslite_Index_one (s : ByteArray) (c : UInt8) (w : World) :
    Calls Try.prog 9 #[.string s, .string ⟨#[c]⟩] w fun e w' => e = .returned (.int .i64 (Lib.indexByte s.data.toList c)) ∧ w' = w := Any.stringslite_Index_one Try.lays219 s c w
end Go.Proofs
