/-
  The library contracts that patterns rest on, laid by the kit's lay-plain.
-/
import Derived.Shelf.Small.Strs
import Derived.Shelf.LaysM
import Derived.Shelf.Strconv.Itoa3
import Derived.Test.YtghbicajcffjhaaDoorProg
namespace Go.Proofs
open Go.Shelf
def Tryd.lays137_ren : Go.Shelf.Ren := ⟨fun | 137 => 120 | 217 => 147 | 266 => 164 | n => n, fun | 9 => 9 | 5 => 5 | 3 => 3 | n => n, fun | n => n⟩
theorem Tryd.lays137 : Go.Proofs.Lays.n137 Tryd.prog Tryd.lays137_ren := {
  mixed := by kernel_rfl
  f137 := Tryd.func120.trans (congrArg some (by kernel_rfl))
  f217 := Tryd.func147.trans (congrArg some (by kernel_rfl))
  f266 := Tryd.func164.trans (congrArg some (by kernel_rfl))
  t3 := Tryd.underlying3
  a3 := Tryd.isAgg3
  z3 := Tryd.sizeOf3
  v3 := Tryd.zeroValue3
  t5 := Tryd.underlying5
  a5 := Tryd.isAgg5
  z5 := Tryd.sizeOf5
  v5 := Tryd.zeroValue5
  t9 := Tryd.underlying9
  a9 := Tryd.isAgg9
  z9 := Tryd.sizeOf9
  v9 := Tryd.zeroValue9 }
open Go.RowKit in
/-- strings.IndexByte: "IndexByte returns the index of the first instance of c in s, or -1 if c is not present in s.": IT RETURNS 'Lib.indexByte s c'; the world is as it was. (LAID: no walk: one application.) -/
theorem Tryd.strings_IndexByte (s : ByteArray) (c : Int) (w : World) :
    Calls Tryd.prog 120 #[.string s, .int .u8 c] w fun e w' => e = .returned (.int .i64 (Lib.indexByte s.data.toList c.toNat.toUInt8)) ∧ w' = w := Any.strings_IndexByte Tryd.lays137 s c w
def Tryd.laysM171_ren : Go.Shelf.Ren := ⟨fun | 171 => 86 | 243 => 122 | 246 => 148 | 283 => 165 | 284 => 166 | 285 => 167 | 286 => 168 | 129 => 105 | 317 => 174 | 318 => 175 | 319 => 176 | 320 => 177 | 337 => 180 | 338 => 181 | n => n, fun | 3 => 3 | 9 => 9 | 2 => 2 | 4 => 4 | 171 => 233 | 0 => 0 | 53 => 193 | 37 => 94 | 5 => 5 | 173 => 235 | 212 => 247 | 51 => 182 | 20 => 20 | 213 => 248 | 46 => 136 | 232 => 253 | 233 => 254 | n => n, fun | 17 => 10 | 18 => 11 | 19 => 12 | n => n⟩
theorem Tryd.laysM171 : Go.Proofs.LaysM.n171 Tryd.prog Tryd.laysM171_ren := {
  mixed := by kernel_rfl
  f129 := Tryd.func105.trans (congrArg some (by kernel_rfl))
  f171 := Tryd.func86.trans (congrArg some (by kernel_rfl))
  f243 := Tryd.func122.trans (congrArg some (by kernel_rfl))
  f246 := Tryd.func148.trans (congrArg some (by kernel_rfl))
  f283 := Tryd.func165.trans (congrArg some (by kernel_rfl))
  f284 := Tryd.func166.trans (congrArg some (by kernel_rfl))
  f285 := Tryd.func167.trans (congrArg some (by kernel_rfl))
  f286 := Tryd.func168.trans (congrArg some (by kernel_rfl))
  f317 := Tryd.func174.trans (congrArg some (by kernel_rfl))
  f318 := Tryd.func175.trans (congrArg some (by kernel_rfl))
  f319 := Tryd.func176.trans (congrArg some (by kernel_rfl))
  f320 := Tryd.func177.trans (congrArg some (by kernel_rfl))
  f337 := Tryd.func180.trans (congrArg some (by kernel_rfl))
  f338 := Tryd.func181.trans (congrArg some (by kernel_rfl))
  t0 := Tryd.underlying0
  a0 := Tryd.isAgg0
  z0 := Tryd.sizeOf0
  v0 := Tryd.zeroValue0
  t2 := Tryd.underlying2
  a2 := Tryd.isAgg2
  z2 := Tryd.sizeOf2
  v2 := Tryd.zeroValue2
  t3 := Tryd.underlying3
  a3 := Tryd.isAgg3
  z3 := Tryd.sizeOf3
  v3 := Tryd.zeroValue3
  t4 := Tryd.underlying4
  a4 := Tryd.isAgg4
  z4 := Tryd.sizeOf4
  v4 := Tryd.zeroValue4
  t5 := Tryd.underlying5
  a5 := Tryd.isAgg5
  z5 := Tryd.sizeOf5
  v5 := Tryd.zeroValue5
  t9 := Tryd.underlying9
  a9 := Tryd.isAgg9
  z9 := Tryd.sizeOf9
  v9 := Tryd.zeroValue9
  t20 := Tryd.underlying20
  a20 := Tryd.isAgg20
  z20 := Tryd.sizeOf20
  v20 := Tryd.zeroValue20
  t37 := Tryd.underlying94
  a37 := Tryd.isAgg94
  z37 := Tryd.sizeOf94
  v37 := Tryd.zeroValue94
  t46 := Tryd.underlying136
  a46 := Tryd.isAgg136
  z46 := Tryd.sizeOf136
  v46 := Tryd.zeroValue136
  t51 := Tryd.underlying182
  a51 := Tryd.isAgg182
  z51 := Tryd.sizeOf182
  v51 := Tryd.zeroValue182
  t53 := Tryd.underlying193
  a53 := Tryd.isAgg193
  z53 := Tryd.sizeOf193
  v53 := Tryd.zeroValue193
  t171 := Tryd.underlying233
  a171 := Tryd.isAgg233
  z171 := Tryd.sizeOf233
  v171 := Tryd.zeroValue233
  t173 := Tryd.underlying235
  a173 := Tryd.isAgg235
  z173 := Tryd.sizeOf235
  v173 := Tryd.zeroValue235
  t212 := Tryd.underlying247
  a212 := Tryd.isAgg247
  z212 := Tryd.sizeOf247
  v212 := Tryd.zeroValue247
  t213 := Tryd.underlying248
  a213 := Tryd.isAgg248
  z213 := Tryd.sizeOf248
  t232 := Tryd.underlying253
  a232 := Tryd.isAgg253
  z232 := Tryd.sizeOf253
  v232 := Tryd.zeroValue253
  t233 := Tryd.underlying254
  a233 := Tryd.isAgg254
  z233 := Tryd.sizeOf254
  v233 := Tryd.zeroValue254
  g17 := by kernel_rfl
  g18 := by kernel_rfl
  g19 := by kernel_rfl
  i0 := by kernel_rfl
  i2 := by kernel_rfl
  i3 := by kernel_rfl
  i4 := by kernel_rfl
  i5 := by kernel_rfl
  i9 := by kernel_rfl
  i20 := by kernel_rfl
  i37 := by kernel_rfl
  i46 := by kernel_rfl
  i51 := by kernel_rfl
  i53 := by kernel_rfl
  i171 := by kernel_rfl
  i173 := by kernel_rfl
  i212 := by kernel_rfl
  i232 := by kernel_rfl
  i233 := by kernel_rfl
  m17 := by kernel_rfl
  m18 := by kernel_rfl
  m19 := by kernel_rfl }
open Go.RowKit Go.Sort Go.Lib in
/-- strconv.Itoa: "Itoa is equivalent to FormatInt(int64(i), 10).": i's DECIMAL NUMERAL ('Lib.itoa': a '-' where i is negative, then the digits), FOR EVERY int. The world behind the call: the world before it, new blocks behind the heap (the library's 'var a [24]byte'), draws. (LAID: no walk: one application.) -/
theorem Tryd.strconv_Itoa (n : Int) (h0 : -9223372036854775808 ≤ n) (h1 : n ≤ 9223372036854775807) (w : World) (htab : Lib.TabIs Tryd.prog w "internal/strconv.uint64pow10" .u64 Lib.pow10Tab) :
    Calls Tryd.prog 86 #[.int .i64 n] w fun e w' => e = .returned (.string ⟨(Lib.itoa n).toArray⟩) ∧ ∃ k os, w' = grow (w.drewN k) os := Any.strconv_Itoa Tryd.laysM171 n h0 h1 w htab
def Tryd.lays171_ren : Go.Shelf.Ren := ⟨fun | 171 => 86 | 243 => 122 | 246 => 148 | 283 => 165 | 284 => 166 | 285 => 167 | 286 => 168 | 129 => 105 | 317 => 174 | 318 => 175 | 319 => 176 | 320 => 177 | 337 => 180 | 338 => 181 | n => n, fun | 3 => 3 | 9 => 9 | 2 => 2 | 4 => 4 | 171 => 233 | 0 => 0 | 53 => 193 | 37 => 94 | 5 => 5 | 173 => 235 | 212 => 247 | 51 => 182 | 20 => 20 | 213 => 248 | 46 => 136 | 232 => 253 | 233 => 254 | n => n, fun | 17 => 10 | 18 => 11 | 19 => 12 | n => n⟩
theorem Tryd.lays171 : Go.Proofs.Lays.n171 Tryd.prog Tryd.lays171_ren := {
  mixed := by kernel_rfl
  f129 := Tryd.func105.trans (congrArg some (by kernel_rfl))
  f171 := Tryd.func86.trans (congrArg some (by kernel_rfl))
  f243 := Tryd.func122.trans (congrArg some (by kernel_rfl))
  f246 := Tryd.func148.trans (congrArg some (by kernel_rfl))
  f283 := Tryd.func165.trans (congrArg some (by kernel_rfl))
  f284 := Tryd.func166.trans (congrArg some (by kernel_rfl))
  f285 := Tryd.func167.trans (congrArg some (by kernel_rfl))
  f286 := Tryd.func168.trans (congrArg some (by kernel_rfl))
  f317 := Tryd.func174.trans (congrArg some (by kernel_rfl))
  f318 := Tryd.func175.trans (congrArg some (by kernel_rfl))
  f319 := Tryd.func176.trans (congrArg some (by kernel_rfl))
  f320 := Tryd.func177.trans (congrArg some (by kernel_rfl))
  f337 := Tryd.func180.trans (congrArg some (by kernel_rfl))
  f338 := Tryd.func181.trans (congrArg some (by kernel_rfl))
  t0 := Tryd.underlying0
  a0 := Tryd.isAgg0
  z0 := Tryd.sizeOf0
  v0 := Tryd.zeroValue0
  t2 := Tryd.underlying2
  a2 := Tryd.isAgg2
  z2 := Tryd.sizeOf2
  v2 := Tryd.zeroValue2
  t3 := Tryd.underlying3
  a3 := Tryd.isAgg3
  z3 := Tryd.sizeOf3
  v3 := Tryd.zeroValue3
  t4 := Tryd.underlying4
  a4 := Tryd.isAgg4
  z4 := Tryd.sizeOf4
  v4 := Tryd.zeroValue4
  t5 := Tryd.underlying5
  a5 := Tryd.isAgg5
  z5 := Tryd.sizeOf5
  v5 := Tryd.zeroValue5
  t9 := Tryd.underlying9
  a9 := Tryd.isAgg9
  z9 := Tryd.sizeOf9
  v9 := Tryd.zeroValue9
  t20 := Tryd.underlying20
  a20 := Tryd.isAgg20
  z20 := Tryd.sizeOf20
  v20 := Tryd.zeroValue20
  t37 := Tryd.underlying94
  a37 := Tryd.isAgg94
  z37 := Tryd.sizeOf94
  v37 := Tryd.zeroValue94
  t46 := Tryd.underlying136
  a46 := Tryd.isAgg136
  z46 := Tryd.sizeOf136
  v46 := Tryd.zeroValue136
  t51 := Tryd.underlying182
  a51 := Tryd.isAgg182
  z51 := Tryd.sizeOf182
  v51 := Tryd.zeroValue182
  t53 := Tryd.underlying193
  a53 := Tryd.isAgg193
  z53 := Tryd.sizeOf193
  v53 := Tryd.zeroValue193
  t171 := Tryd.underlying233
  a171 := Tryd.isAgg233
  z171 := Tryd.sizeOf233
  v171 := Tryd.zeroValue233
  t173 := Tryd.underlying235
  a173 := Tryd.isAgg235
  z173 := Tryd.sizeOf235
  v173 := Tryd.zeroValue235
  t212 := Tryd.underlying247
  a212 := Tryd.isAgg247
  z212 := Tryd.sizeOf247
  v212 := Tryd.zeroValue247
  t213 := Tryd.underlying248
  a213 := Tryd.isAgg248
  z213 := Tryd.sizeOf248
  t232 := Tryd.underlying253
  a232 := Tryd.isAgg253
  z232 := Tryd.sizeOf253
  v232 := Tryd.zeroValue253
  t233 := Tryd.underlying254
  a233 := Tryd.isAgg254
  z233 := Tryd.sizeOf254
  v233 := Tryd.zeroValue254
  g17 := by kernel_rfl
  g18 := by kernel_rfl
  g19 := by kernel_rfl }
open Go.RowKit Go.Sort Go.Lib in
/-- THE ROAD WITHOUT THE TABLE: 0 <= i < 100: NO PREMISE ON THE WORLD, AND THE WORLD IS AS IT WAS: a row that keeps its argument in that range need list no table ('laid = []'). (LAID: no walk: one application.) -/
theorem Tryd.strconv_Itoa_small (i : Nat) (hi : i < 100) (w : World) :
    Calls Tryd.prog 86 #[.int .i64 i] w fun e w' => e = .returned (.string ⟨(Lib.decDigits i).toArray⟩) ∧ w' = w := Any.strconv_Itoa_small Tryd.lays171 i hi w
end Go.Proofs
