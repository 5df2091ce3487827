/-
  DERIVED: THE SHELF's CONTRACTS AT THIS DUMP, IN PLAIN WORDS (tools/lay-plain.mjs out of 'TryzShelf2.lean', which tools/lay-shelf.mjs wrote): THE SAME DECLARATIONS UNDER THE SAME NAMES: 'import', 'namespace', 'open', 'def', 'theorem' AND NOTHING ELSE: no command of the shelf's: FOR A HAND-IN. Each laying: the table of numbers ('.._ren') and one theorem, a field a fact of the dump's own or the kernel's comparison; each contract: ONE APPLICATION.
-/
import Derived.Shelf.Small.Strs
import Derived.Ground.MpProg
import Derived.Shelf.Pu.ParseUintPublic10
import Derived.Shelf.Strings.Search1
import Derived.Shelf.Strings.Search2
import Derived.Shelf.Strings.Search3
import Derived.Shelf.Strings.Prefix
import Derived.Test.YtklofgfkaaoipaaGreatDoorProg
namespace Go.Proofs
open Go.Shelf
def Tryz.lays137_ren : Go.Shelf.Ren := ⟨fun | 137 => 143 | 217 => 192 | 266 => 216 | n => n, fun | 9 => 9 | 5 => 5 | 3 => 3 | n => n, fun | n => n⟩
theorem Tryz.lays137 : Go.Proofs.Lays.n137 Tryz.prog Tryz.lays137_ren := {
  mixed := by kernel_rfl
  f137 := Tryz.func143.trans (congrArg some (by kernel_rfl))
  f217 := Tryz.func192.trans (congrArg some (by kernel_rfl))
  f266 := Tryz.func216.trans (congrArg some (by kernel_rfl))
  t3 := Tryz.underlying3
  a3 := Tryz.isAgg3
  z3 := Tryz.sizeOf3
  v3 := Tryz.zeroValue3
  t5 := Tryz.underlying5
  a5 := Tryz.isAgg5
  z5 := Tryz.sizeOf5
  v5 := Tryz.zeroValue5
  t9 := Tryz.underlying9
  a9 := Tryz.isAgg9
  z9 := Tryz.sizeOf9
  v9 := Tryz.zeroValue9 }
open Go.RowKit in
/-- strings.IndexByte: "IndexByte returns the index of the first instance of c in s, or -1 if c is not present in s.": IT RETURNS 'Lib.indexByte s c'; the world is as it was. (LAID: no walk: one application.) -/
theorem Tryz.strings_IndexByte (s : ByteArray) (c : Int) (w : World) :
    Calls Tryz.prog 143 #[.string s, .int .u8 c] w fun e w' => e = .returned (.int .i64 (Lib.indexByte s.data.toList c.toNat.toUInt8)) ∧ w' = w := Any.strings_IndexByte Tryz.lays137 s c w
def Tryz.laysPu14_ren : Go.Shelf.Ren := ⟨fun | 14 => 146 | 16 => 193 | 17 => 194 | 19 => 217 | 20 => 218 | 21 => 219 | 22 => 220 | 23 => 221 | 24 => 222 | 25 => 232 | 27 => 234 | 26 => 233 | 28 => 244 | 29 => 258 | 30 => 270 | 31 => 271 | 32 => 272 | 33 => 273 | 35 => 138 | 34 => 275 | 36 => 276 | 37 => 277 | 38 => 278 | 39 => 279 | 40 => 280 | n => n, fun | 9 => 9 | 3 => 3 | 22 => 59 | 24 => 34 | 25 => 278 | 4 => 4 | 34 => 339 | 5 => 5 | 36 => 173 | 37 => 341 | 0 => 0 | 39 => 342 | 21 => 21 | 44 => 357 | 47 => 363 | 50 => 366 | 48 => 364 | 2 => 2 | 52 => 378 | 55 => 380 | 59 => 385 | 60 => 265 | 20 => 20 | 61 => 386 | 65 => 387 | 66 => 388 | 67 => 283 | n => n, fun | 0 => 2 | 1 => 3 | 2 => 4 | 3 => 5 | 4 => 6 | n => n⟩
theorem Tryz.laysPu14 : Go.Proofs.LaysPu.n14 Tryz.prog Tryz.laysPu14_ren := {
  mixed := by kernel_rfl
  f14 := Tryz.func146.trans (congrArg some (by kernel_rfl))
  f16 := Tryz.func193.trans (congrArg some (by kernel_rfl))
  f17 := Tryz.func194.trans (congrArg some (by kernel_rfl))
  f19 := Tryz.func217.trans (congrArg some (by kernel_rfl))
  f20 := Tryz.func218.trans (congrArg some (by kernel_rfl))
  f21 := Tryz.func219.trans (congrArg some (by kernel_rfl))
  f22 := Tryz.func220.trans (congrArg some (by kernel_rfl))
  f23 := Tryz.func221.trans (congrArg some (by kernel_rfl))
  f24 := Tryz.func222.trans (congrArg some (by kernel_rfl))
  f25 := Tryz.func232.trans (congrArg some (by kernel_rfl))
  f26 := Tryz.func233.trans (congrArg some (by kernel_rfl))
  f27 := Tryz.func234.trans (congrArg some (by kernel_rfl))
  f28 := Tryz.func244.trans (congrArg some (by kernel_rfl))
  f29 := Tryz.func258.trans (congrArg some (by kernel_rfl))
  f30 := Tryz.func270.trans (congrArg some (by kernel_rfl))
  f31 := Tryz.func271.trans (congrArg some (by kernel_rfl))
  f32 := Tryz.func272.trans (congrArg some (by kernel_rfl))
  f33 := Tryz.func273.trans (congrArg some (by kernel_rfl))
  f34 := Tryz.func275.trans (congrArg some (by kernel_rfl))
  f35 := Tryz.func138.trans (congrArg some (by kernel_rfl))
  f36 := Tryz.func276.trans (congrArg some (by kernel_rfl))
  f37 := Tryz.func277.trans (congrArg some (by kernel_rfl))
  f38 := Tryz.func278.trans (congrArg some (by kernel_rfl))
  f39 := Tryz.func279.trans (congrArg some (by kernel_rfl))
  f40 := Tryz.func280.trans (congrArg some (by kernel_rfl))
  t0 := Tryz.underlying0
  a0 := Tryz.isAgg0
  z0 := Tryz.sizeOf0
  v0 := Tryz.zeroValue0
  i0 := by kernel_rfl
  t2 := Tryz.underlying2
  a2 := Tryz.isAgg2
  z2 := Tryz.sizeOf2
  v2 := Tryz.zeroValue2
  i2 := by kernel_rfl
  t3 := Tryz.underlying3
  a3 := Tryz.isAgg3
  z3 := Tryz.sizeOf3
  v3 := Tryz.zeroValue3
  i3 := by kernel_rfl
  t4 := Tryz.underlying4
  a4 := Tryz.isAgg4
  z4 := Tryz.sizeOf4
  v4 := Tryz.zeroValue4
  i4 := by kernel_rfl
  t5 := Tryz.underlying5
  a5 := Tryz.isAgg5
  z5 := Tryz.sizeOf5
  v5 := Tryz.zeroValue5
  i5 := by kernel_rfl
  t9 := Tryz.underlying9
  a9 := Tryz.isAgg9
  z9 := Tryz.sizeOf9
  v9 := Tryz.zeroValue9
  i9 := by kernel_rfl
  t20 := Tryz.underlying20
  a20 := Tryz.isAgg20
  z20 := Tryz.sizeOf20
  v20 := Tryz.zeroValue20
  i20 := by kernel_rfl
  t21 := Tryz.underlying21
  a21 := Tryz.isAgg21
  z21 := Tryz.sizeOf21
  v21 := Tryz.zeroValue21
  i21 := by kernel_rfl
  t22 := Tryz.underlying59
  a22 := Tryz.isAgg59
  z22 := Tryz.sizeOf59
  v22 := Tryz.zeroValue59
  i22 := by kernel_rfl
  t24 := Tryz.underlying34
  a24 := Tryz.isAgg34
  z24 := Tryz.sizeOf34
  v24 := Tryz.zeroValue34
  i24 := by kernel_rfl
  t25 := Tryz.underlying278
  a25 := Tryz.isAgg278
  z25 := Tryz.sizeOf278
  v25 := Tryz.zeroValue278
  i25 := by kernel_rfl
  t34 := Tryz.underlying339
  a34 := Tryz.isAgg339
  z34 := Tryz.sizeOf339
  v34 := Tryz.zeroValue339
  i34 := by kernel_rfl
  c34 := by kernel_rfl
  t36 := Tryz.underlying173
  a36 := Tryz.isAgg173
  z36 := Tryz.sizeOf173
  v36 := Tryz.zeroValue173
  i36 := by kernel_rfl
  t37 := Tryz.underlying341
  a37 := Tryz.isAgg341
  z37 := Tryz.sizeOf341
  v37 := Tryz.zeroValue341
  i37 := by kernel_rfl
  t39 := Tryz.underlying342
  a39 := Tryz.isAgg342
  z39 := Tryz.sizeOf342
  v39 := Tryz.zeroValue342
  i39 := by kernel_rfl
  t44 := Tryz.underlying357
  a44 := Tryz.isAgg357
  z44 := Tryz.sizeOf357
  v44 := Tryz.zeroValue357
  i44 := by kernel_rfl
  t47 := Tryz.underlying363
  a47 := Tryz.isAgg363
  z47 := Tryz.sizeOf363
  v47 := Tryz.zeroValue363
  i47 := by kernel_rfl
  t48 := Tryz.underlying364
  a48 := Tryz.isAgg364
  z48 := Tryz.sizeOf364
  v48 := Tryz.zeroValue364
  i48 := by kernel_rfl
  t50 := Tryz.underlying366
  a50 := Tryz.isAgg366
  z50 := Tryz.sizeOf366
  v50 := Tryz.zeroValue366
  i50 := by kernel_rfl
  t52 := Tryz.underlying378
  a52 := Tryz.isAgg378
  z52 := Tryz.sizeOf378
  v52 := Tryz.zeroValue378
  i52 := by kernel_rfl
  t55 := Tryz.underlying380
  a55 := Tryz.isAgg380
  z55 := Tryz.sizeOf380
  v55 := Tryz.zeroValue380
  i55 := by kernel_rfl
  t59 := Tryz.underlying385
  a59 := Tryz.isAgg385
  z59 := Tryz.sizeOf385
  v59 := Tryz.zeroValue385
  i59 := by kernel_rfl
  t60 := Tryz.underlying265
  a60 := Tryz.isAgg265
  z60 := Tryz.sizeOf265
  v60 := Tryz.zeroValue265
  i60 := by kernel_rfl
  t61 := Tryz.underlying386
  a61 := Tryz.isAgg386
  z61 := Tryz.sizeOf386
  t65 := Tryz.underlying387
  a65 := Tryz.isAgg387
  z65 := Tryz.sizeOf387
  v65 := Tryz.zeroValue387
  i65 := by kernel_rfl
  t66 := Tryz.underlying388
  a66 := Tryz.isAgg388
  z66 := Tryz.sizeOf388
  v66 := Tryz.zeroValue388
  i66 := by kernel_rfl
  t67 := Tryz.underlying283
  a67 := Tryz.isAgg283
  z67 := Tryz.sizeOf283
  v67 := Tryz.zeroValue283
  i67 := by kernel_rfl
  g0 := by kernel_rfl
  m0 := by kernel_rfl
  g1 := by kernel_rfl
  m1 := by kernel_rfl
  g2 := by kernel_rfl
  m2 := by kernel_rfl
  g3 := by kernel_rfl
  m3 := by kernel_rfl
  g4 := by kernel_rfl
  m4 := by kernel_rfl }
open Go.RowKit in
/-- strconv.ParseUint(s, 10, 64), AT EVERY STRING THAT SPELLS A uint64 ('Lib.parseUintB 64 s.data.toList = .ok u'): u, AND NO ERROR. (LAID: no walk: one application.) -/
theorem Tryz.strconv_ParseUint_10_at64_ok (s : ByteArray) (hmax : s.size ≤ 9223372036854775806) (u : Nat) (h : Lib.parseUintB 64 s.data.toList = .ok u) (w : World) :
    Calls Tryz.prog 146 #[.string s, .int .i64 10, .int .i64 64] w fun e w' => e = .returned (.tuple #[.int .u64 u, .nilIface]) ∧ (w' = w ∨ w' = Lib.bytesWorld w 5 s) := Any.strconv_ParseUint_10_at64_ok Tryz.laysPu14 s hmax u h w
open Go.RowKit in
/-- strconv.ParseUint(s, 10, 64), AT EVERY NUMERAL THAT NO uint64 HOLDS: THE GREATEST uint64, AND AN ERROR THAT IS NOT nil: a *NumError in a new block N: {Func: "ParseUint", Num: s's bytes, Err: what the variable ErrRange holds}. Of what was there nothing has turned. (LAID: no walk: one application.) -/
theorem Tryz.strconv_ParseUint_10_at64_range (s : ByteArray) (hlim : s.size ≤ 281474976710656) (h : Lib.parseUintB 64 s.data.toList = .range) (ev : Value) (w : World) (hv : w.cell? ⟨3, 0, none⟩ = some ev) (hev : ev = .nilIface ∨ ∃ te pe, ev = .iface te pe) :
    Calls Tryz.prog 146 #[.string s, .int .i64 10, .int .i64 64] w fun e w' => ∃ N, e = .returned (.tuple #[.int .u64 18446744073709551615, .iface 342 (.pointer (some ⟨N, 0, none⟩))]) ∧ w.heap.size ≤ N ∧ w'.heap[N]? = some (.cells #[.string ⟨#[80, 97, 114, 115, 101, 85, 105, 110, 116]⟩, .string s, ev] 357 (0, 0)) ∧ Below w.heap.size w w' := Any.strconv_ParseUint_10_at64_range Tryz.laysPu14 s hlim h ev w hv hev
def Tryz.lays144_ren : Go.Shelf.Ren := ⟨fun | 144 => 151 | 143 => 196 | 219 => 223 | 217 => 192 | 225 => 235 | 224 => 236 | 267 => 237 | 266 => 216 | 314 => 245 | n => n, fun | 9 => 9 | 4 => 4 | 3 => 3 | 5 => 5 | 46 => 173 | 146 => 299 | 51 => 265 | n => n, fun | 1 => 1 | n => n⟩
theorem Tryz.lays144 : Go.Proofs.Lays.n144 Tryz.prog Tryz.lays144_ren := {
  mixed := by kernel_rfl
  f143 := Tryz.func196.trans (congrArg some (by kernel_rfl))
  f144 := Tryz.func151.trans (congrArg some (by kernel_rfl))
  f217 := Tryz.func192.trans (congrArg some (by kernel_rfl))
  f219 := Tryz.func223.trans (congrArg some (by kernel_rfl))
  f224 := Tryz.func236.trans (congrArg some (by kernel_rfl))
  f225 := Tryz.func235.trans (congrArg some (by kernel_rfl))
  f266 := Tryz.func216.trans (congrArg some (by kernel_rfl))
  f267 := Tryz.func237.trans (congrArg some (by kernel_rfl))
  f314 := Tryz.func245.trans (congrArg some (by kernel_rfl))
  t3 := Tryz.underlying3
  a3 := Tryz.isAgg3
  z3 := Tryz.sizeOf3
  v3 := Tryz.zeroValue3
  t4 := Tryz.underlying4
  a4 := Tryz.isAgg4
  z4 := Tryz.sizeOf4
  v4 := Tryz.zeroValue4
  t5 := Tryz.underlying5
  a5 := Tryz.isAgg5
  z5 := Tryz.sizeOf5
  v5 := Tryz.zeroValue5
  t9 := Tryz.underlying9
  a9 := Tryz.isAgg9
  z9 := Tryz.sizeOf9
  v9 := Tryz.zeroValue9
  t46 := Tryz.underlying173
  a46 := Tryz.isAgg173
  z46 := Tryz.sizeOf173
  v46 := Tryz.zeroValue173
  t51 := Tryz.underlying265
  a51 := Tryz.isAgg265
  z51 := Tryz.sizeOf265
  v51 := Tryz.zeroValue265
  t146 := Tryz.underlying299
  a146 := Tryz.isAgg299
  z146 := Tryz.sizeOf299
  v146 := Tryz.zeroValue299
  g1 := by kernel_rfl }
open Go.RowKit Go.Lib in
/-- strings.Contains: "Contains reports whether substr is within s.": AT A substr OF ONE BYTE c: IT RETURNS 'decide (0 ≤ Lib.indexByte s c)'; the world is as it was. (LAID: no walk: one application.) -/
theorem Tryz.strings_Contains_one (s : ByteArray) (c : UInt8) (w : World) :
    Calls Tryz.prog 151 #[.string s, .string ⟨#[c]⟩] w fun e w' => e = .returned (.bool (decide (0 ≤ Lib.indexByte s.data.toList c))) ∧ w' = w := Any.strings_Contains_one Tryz.lays144 s c w
def Tryz.lays99_ren : Go.Shelf.Ren := ⟨fun | 99 => 150 | 206 => 195 | n => n, fun | 9 => 9 | 4 => 4 | 3 => 3 | n => n, fun | n => n⟩
theorem Tryz.lays99 : Go.Proofs.Lays.n99 Tryz.prog Tryz.lays99_ren := {
  mixed := by kernel_rfl
  f99 := Tryz.func150.trans (congrArg some (by kernel_rfl))
  f206 := Tryz.func195.trans (congrArg some (by kernel_rfl))
  t3 := Tryz.underlying3
  a3 := Tryz.isAgg3
  z3 := Tryz.sizeOf3
  v3 := Tryz.zeroValue3
  t4 := Tryz.underlying4
  a4 := Tryz.isAgg4
  z4 := Tryz.sizeOf4
  v4 := Tryz.zeroValue4
  t9 := Tryz.underlying9
  a9 := Tryz.isAgg9
  z9 := Tryz.sizeOf9
  v9 := Tryz.zeroValue9 }
open Go.RowKit Go.Lib in
/-- strings.HasPrefix: "HasPrefix reports whether the string s begins with prefix.": IT RETURNS 'Lib.hasPrefix s prefix'; the world is as it was. (LAID: no walk: one application.) -/
theorem Tryz.strings_HasPrefix (s p : ByteArray) (w : World) :
    Calls Tryz.prog 150 #[.string s, .string p] w fun e w' => e = .returned (.bool (Lib.hasPrefix s.data.toList p.data.toList)) ∧ w' = w := Any.strings_HasPrefix Tryz.lays99 s p w
end Go.Proofs
