/-
  Parts of the proof of runnerSkips_holds: Shelf, Runes, Format, Numbers.
-/
import Derived.Shelf.Utf8.RuneCount
import Derived.Shelf.Strconv.Itoa0
import Derived.Shelf.Strconv.Itoa1
import Derived.Shelf.LaysM
import Derived.Shelf.Strconv.Itoa2
import Derived.Shelf.Strconv.Itoa3
import Derived.Shelf.Strconv.Clone
import Derived.Shelf.Strconv.SyntaxError
import Derived.Shelf.LaysC
import Derived.Shelf.Strconv.ToError
import Derived.Shelf.Strconv.Lower
import Derived.Shelf.Strconv.ParseUint10
import Derived.Shelf.Strconv.ParseUint10Empty
import Derived.Shelf.Strconv.ParseUint10Any
import Derived.Shelf.Strconv.RangeError
import Derived.Shelf.Strconv.ToErrorRange
import Derived.Shelf.Strconv.ParseUintEmpty
import Derived.Shelf.Strconv.ParseUint10b64
import Derived.Shelf.Strconv.ParseUint10b32
import Derived.Shelf.Strconv.ParseUint10b16
import Derived.Shelf.Strconv.ParseUint10b8
import Derived.Shelf.Strconv.ParseUint10At
import Derived.Ground.MpProg
import Derived.Shelf.Pu.ParseUintPublic10
import Derived.Shelf.Pu.ErrVarParseUint
import Derived.Shelf.Strings.Search1
import Derived.Shelf.Strings.Search2
import Derived.Shelf.Strings.Search3
import Derived.Shelf.Strings.Count
import Derived.Shelf.Strings.Shaped
import Derived.Shelf.Strings.Split
import Derived.Shelf.Strings.SplitShaped
import Derived.Shelf.Unicode.Decode
import Derived.Shelf.Strings.RuneCount
import Derived.Shelf.Strings.Explode
import Derived.Shelf.Bits.Mul64
import Derived.Shelf.Unicode.DecodeSlow
import Derived.Shelf.Unicode.DecodeAny
import Derived.Test.YtgdoeoackhfikaaGreatDoorProg
import Derived.Lib.OthersKept
import Derived.WalkKit
import Derived.BigCall
import Derived.Lib.Hide
import Derived.Test.YtgdoeoackhfikaaGreatDoorQA2
import Derived.Lib.Walk
import Derived.Lib.ItoaMem
import Derived.BigGuard
import Derived.Test.YtgdoeoackhfikaaGreatDoorQA1
import Derived.Lib.SplitLaws
import Derived.Lib.ParseIntBCases
import Derived.Lib.ParseIntBMem
import Derived.OwnWalk
namespace Go.Proofs
set_option linter.unusedVariables false
set_option linter.unusedSimpArgs false
open Go.Shelf
def Tryz.lays283_ren : Go.Shelf.Ren := ⟨fun | 283 => 125 | n => n, fun | 3 => 3 | 9 => 9 | 4 => 4 | n => n, fun | n => n⟩
theorem Tryz.lays283 : Go.Proofs.Lays.n283 Tryz.prog Tryz.lays283_ren := {
  mixed := by kernel_rfl
  f283 := Tryz.func125.trans (congrArg some (by kernel_rfl))
  t3 := Tryz.underlying3
  a3 := Tryz.isAgg3
  z3 := Tryz.sizeOf3
  v3 := Tryz.zeroValue3
  t4 := Tryz.underlying4
  a4 := Tryz.isAgg4
  z4 := Tryz.sizeOf4
  v4 := Tryz.zeroValue4
  t9 := Tryz.underlying9
  a9 := Tryz.isAgg9
  z9 := Tryz.sizeOf9
  v9 := Tryz.zeroValue9 }
open Go.Lib in
theorem Tryz.internal_strconv_small (i : Nat) (h : i < 100) (w : World) :
    Calls Tryz.prog 125 #[.int .i64 i] w fun e w' => e = .returned (.string ⟨(Lib.decDigits i).toArray⟩) ∧ w' = w := Any.internal_strconv_small Tryz.lays283 i h w
def Tryz.laysM284_ren : Go.Shelf.Ren := ⟨fun | 284 => 126 | 129 => 140 | 317 => 139 | 318 => 141 | n => n, fun | 53 => 33 | 3 => 3 | 212 => 263 | 0 => 0 | 4 => 4 | 46 => 215 | 5 => 5 | 9 => 9 | n => n, fun | 17 => 2 | n => n⟩
theorem Tryz.laysM284 : Go.Proofs.LaysM.n284 Tryz.prog Tryz.laysM284_ren := {
  mixed := by kernel_rfl
  f129 := Tryz.func140.trans (congrArg some (by kernel_rfl))
  f284 := Tryz.func126.trans (congrArg some (by kernel_rfl))
  f317 := Tryz.func139.trans (congrArg some (by kernel_rfl))
  f318 := Tryz.func141.trans (congrArg some (by kernel_rfl))
  t0 := Tryz.underlying0
  a0 := Tryz.isAgg0
  z0 := Tryz.sizeOf0
  v0 := Tryz.zeroValue0
  t3 := Tryz.underlying3
  a3 := Tryz.isAgg3
  z3 := Tryz.sizeOf3
  v3 := Tryz.zeroValue3
  t4 := Tryz.underlying4
  a4 := Tryz.isAgg4
  z4 := Tryz.sizeOf4
  v4 := Tryz.zeroValue4
  t5 := Tryz.underlying5
  a5 := Tryz.isAgg5
  z5 := Tryz.sizeOf5
  v5 := Tryz.zeroValue5
  t9 := Tryz.underlying9
  a9 := Tryz.isAgg9
  z9 := Tryz.sizeOf9
  v9 := Tryz.zeroValue9
  t46 := Tryz.underlying215
  a46 := Tryz.isAgg215
  z46 := Tryz.sizeOf215
  v46 := Tryz.zeroValue215
  t53 := Tryz.underlying33
  a53 := Tryz.isAgg33
  z53 := Tryz.sizeOf33
  v53 := Tryz.zeroValue33
  t212 := Tryz.underlying263
  a212 := Tryz.isAgg263
  z212 := Tryz.sizeOf263
  v212 := Tryz.zeroValue263
  g17 := by kernel_rfl
  i0 := by kernel_rfl
  i3 := by kernel_rfl
  i4 := by kernel_rfl
  i5 := by kernel_rfl
  i9 := by kernel_rfl
  i46 := by kernel_rfl
  i53 := by kernel_rfl
  i212 := by kernel_rfl
  m17 := by kernel_rfl }
open Go.Lib in
theorem Tryz.internal_strconv_numDigits (u : Nat) (h1 : 1 ≤ u) (h2 : u < 18446744073709551616) (w : World) (htab : Lib.TabIs Tryz.prog w "internal/strconv.uint64pow10" .u64 Lib.pow10Tab) :
    Calls Tryz.prog 126 #[.int .u64 u] w fun e w' => e = .returned (.int .i64 (Lib.nDigits u)) ∧ w' = w := Any.internal_strconv_numDigits Tryz.laysM284 u h1 h2 w htab
def Tryz.lays285_ren : Go.Shelf.Ren := ⟨fun | 285 => 127 | n => n, fun | 37 => 242 | 53 => 33 | 3 => 3 | 4 => 4 | 51 => 30 | 9 => 9 | 5 => 5 | 0 => 0 | n => n, fun | n => n⟩
theorem Tryz.lays285 : Go.Proofs.Lays.n285 Tryz.prog Tryz.lays285_ren := {
  mixed := by kernel_rfl
  f285 := Tryz.func127.trans (congrArg some (by kernel_rfl))
  t0 := Tryz.underlying0
  a0 := Tryz.isAgg0
  z0 := Tryz.sizeOf0
  v0 := Tryz.zeroValue0
  t3 := Tryz.underlying3
  a3 := Tryz.isAgg3
  z3 := Tryz.sizeOf3
  v3 := Tryz.zeroValue3
  t4 := Tryz.underlying4
  a4 := Tryz.isAgg4
  z4 := Tryz.sizeOf4
  v4 := Tryz.zeroValue4
  t5 := Tryz.underlying5
  a5 := Tryz.isAgg5
  z5 := Tryz.sizeOf5
  v5 := Tryz.zeroValue5
  t9 := Tryz.underlying9
  a9 := Tryz.isAgg9
  z9 := Tryz.sizeOf9
  v9 := Tryz.zeroValue9
  t37 := Tryz.underlying242
  a37 := Tryz.isAgg242
  z37 := Tryz.sizeOf242
  v37 := Tryz.zeroValue242
  t51 := Tryz.underlying30
  a51 := Tryz.isAgg30
  z51 := Tryz.sizeOf30
  v51 := Tryz.zeroValue30
  t53 := Tryz.underlying33
  a53 := Tryz.isAgg33
  z53 := Tryz.sizeOf33
  v53 := Tryz.zeroValue33 }
open Go.RowKit Go.Sort Go.Lib in
theorem Tryz.internal_strconv_formatBase10 (blk off cap : Nat) (u : Nat) (d : Array UInt8) (w : World) (hH : Holds (fun (b : UInt8) => Value.int .u8 (b.toNat : Int)) w blk off d) (hu : u < 10 ^ d.size) (hu64 : u < 18446744073709551616) (hsz : d.size < 4611686018427387904) :
    Calls Tryz.prog 127 #[.slice (some ⟨blk, off, none⟩) d.size cap, .int .u64 u] w fun e w' =>
      e = .returned (.tuple #[]) ∧ ∃ (n v' : Nat) (dk : Array UInt8), w' = (putRow (fun (b : UInt8) => Value.int .u8 (b.toNat : Int)) w blk off dk).drewN n ∧ FmtInv d.size u 0 v' dk := Any.internal_strconv_formatBase10 Tryz.lays285 blk off cap u d w hH hu hu64 hsz
def Tryz.laysPu14_ren : Go.Shelf.Ren := ⟨fun | 14 => 89 | 16 => 109 | 17 => 110 | 19 => 119 | 20 => 120 | 21 => 121 | 22 => 122 | 23 => 123 | 24 => 124 | 25 => 136 | 27 => 138 | 26 => 137 | 28 => 159 | 29 => 176 | 30 => 125 | 31 => 126 | 32 => 127 | 33 => 128 | 35 => 140 | 34 => 139 | 36 => 141 | 37 => 142 | 38 => 143 | 39 => 160 | 40 => 161 | n => n, fun | 9 => 9 | 3 => 3 | 22 => 33 | 24 => 189 | 25 => 190 | 4 => 4 | 34 => 240 | 5 => 5 | 36 => 215 | 37 => 242 | 0 => 0 | 39 => 244 | 21 => 21 | 44 => 260 | 47 => 274 | 50 => 277 | 48 => 275 | 2 => 2 | 52 => 248 | 55 => 251 | 59 => 263 | 60 => 30 | 20 => 20 | 61 => 264 | 65 => 298 | 66 => 299 | 67 => 306 | n => n, fun | 0 => 0 | 1 => 1 | 2 => 2 | 3 => 6 | 4 => 7 | n => n⟩
theorem Tryz.laysPu14 : Go.Proofs.LaysPu.n14 Tryz.prog Tryz.laysPu14_ren := {
  mixed := by kernel_rfl
  f14 := Tryz.func89.trans (congrArg some (by kernel_rfl))
  f16 := Tryz.func109.trans (congrArg some (by kernel_rfl))
  f17 := Tryz.func110.trans (congrArg some (by kernel_rfl))
  f19 := Tryz.func119.trans (congrArg some (by kernel_rfl))
  f20 := Tryz.func120.trans (congrArg some (by kernel_rfl))
  f21 := Tryz.func121.trans (congrArg some (by kernel_rfl))
  f22 := Tryz.func122.trans (congrArg some (by kernel_rfl))
  f23 := Tryz.func123.trans (congrArg some (by kernel_rfl))
  f24 := Tryz.func124.trans (congrArg some (by kernel_rfl))
  f25 := Tryz.func136.trans (congrArg some (by kernel_rfl))
  f26 := Tryz.func137.trans (congrArg some (by kernel_rfl))
  f27 := Tryz.func138.trans (congrArg some (by kernel_rfl))
  f28 := Tryz.func159.trans (congrArg some (by kernel_rfl))
  f29 := Tryz.func176.trans (congrArg some (by kernel_rfl))
  f30 := Tryz.func125.trans (congrArg some (by kernel_rfl))
  f31 := Tryz.func126.trans (congrArg some (by kernel_rfl))
  f32 := Tryz.func127.trans (congrArg some (by kernel_rfl))
  f33 := Tryz.func128.trans (congrArg some (by kernel_rfl))
  f34 := Tryz.func139.trans (congrArg some (by kernel_rfl))
  f35 := Tryz.func140.trans (congrArg some (by kernel_rfl))
  f36 := Tryz.func141.trans (congrArg some (by kernel_rfl))
  f37 := Tryz.func142.trans (congrArg some (by kernel_rfl))
  f38 := Tryz.func143.trans (congrArg some (by kernel_rfl))
  f39 := Tryz.func160.trans (congrArg some (by kernel_rfl))
  f40 := Tryz.func161.trans (congrArg some (by kernel_rfl))
  t0 := Tryz.underlying0
  a0 := Tryz.isAgg0
  z0 := Tryz.sizeOf0
  v0 := Tryz.zeroValue0
  i0 := by kernel_rfl
  t2 := Tryz.underlying2
  a2 := Tryz.isAgg2
  z2 := Tryz.sizeOf2
  v2 := Tryz.zeroValue2
  i2 := by kernel_rfl
  t3 := Tryz.underlying3
  a3 := Tryz.isAgg3
  z3 := Tryz.sizeOf3
  v3 := Tryz.zeroValue3
  i3 := by kernel_rfl
  t4 := Tryz.underlying4
  a4 := Tryz.isAgg4
  z4 := Tryz.sizeOf4
  v4 := Tryz.zeroValue4
  i4 := by kernel_rfl
  t5 := Tryz.underlying5
  a5 := Tryz.isAgg5
  z5 := Tryz.sizeOf5
  v5 := Tryz.zeroValue5
  i5 := by kernel_rfl
  t9 := Tryz.underlying9
  a9 := Tryz.isAgg9
  z9 := Tryz.sizeOf9
  v9 := Tryz.zeroValue9
  i9 := by kernel_rfl
  t20 := Tryz.underlying20
  a20 := Tryz.isAgg20
  z20 := Tryz.sizeOf20
  v20 := Tryz.zeroValue20
  i20 := by kernel_rfl
  t21 := Tryz.underlying21
  a21 := Tryz.isAgg21
  z21 := Tryz.sizeOf21
  v21 := Tryz.zeroValue21
  i21 := by kernel_rfl
  t22 := Tryz.underlying33
  a22 := Tryz.isAgg33
  z22 := Tryz.sizeOf33
  v22 := Tryz.zeroValue33
  i22 := by kernel_rfl
  t24 := Tryz.underlying189
  a24 := Tryz.isAgg189
  z24 := Tryz.sizeOf189
  v24 := Tryz.zeroValue189
  i24 := by kernel_rfl
  t25 := Tryz.underlying190
  a25 := Tryz.isAgg190
  z25 := Tryz.sizeOf190
  v25 := Tryz.zeroValue190
  i25 := by kernel_rfl
  t34 := Tryz.underlying240
  a34 := Tryz.isAgg240
  z34 := Tryz.sizeOf240
  v34 := Tryz.zeroValue240
  i34 := by kernel_rfl
  c34 := by kernel_rfl
  t36 := Tryz.underlying215
  a36 := Tryz.isAgg215
  z36 := Tryz.sizeOf215
  v36 := Tryz.zeroValue215
  i36 := by kernel_rfl
  t37 := Tryz.underlying242
  a37 := Tryz.isAgg242
  z37 := Tryz.sizeOf242
  v37 := Tryz.zeroValue242
  i37 := by kernel_rfl
  t39 := Tryz.underlying244
  a39 := Tryz.isAgg244
  z39 := Tryz.sizeOf244
  v39 := Tryz.zeroValue244
  i39 := by kernel_rfl
  t44 := Tryz.underlying260
  a44 := Tryz.isAgg260
  z44 := Tryz.sizeOf260
  v44 := Tryz.zeroValue260
  i44 := by kernel_rfl
  t47 := Tryz.underlying274
  a47 := Tryz.isAgg274
  z47 := Tryz.sizeOf274
  v47 := Tryz.zeroValue274
  i47 := by kernel_rfl
  t48 := Tryz.underlying275
  a48 := Tryz.isAgg275
  z48 := Tryz.sizeOf275
  v48 := Tryz.zeroValue275
  i48 := by kernel_rfl
  t50 := Tryz.underlying277
  a50 := Tryz.isAgg277
  z50 := Tryz.sizeOf277
  v50 := Tryz.zeroValue277
  i50 := by kernel_rfl
  t52 := Tryz.underlying248
  a52 := Tryz.isAgg248
  z52 := Tryz.sizeOf248
  v52 := Tryz.zeroValue248
  i52 := by kernel_rfl
  t55 := Tryz.underlying251
  a55 := Tryz.isAgg251
  z55 := Tryz.sizeOf251
  v55 := Tryz.zeroValue251
  i55 := by kernel_rfl
  t59 := Tryz.underlying263
  a59 := Tryz.isAgg263
  z59 := Tryz.sizeOf263
  v59 := Tryz.zeroValue263
  i59 := by kernel_rfl
  t60 := Tryz.underlying30
  a60 := Tryz.isAgg30
  z60 := Tryz.sizeOf30
  v60 := Tryz.zeroValue30
  i60 := by kernel_rfl
  t61 := Tryz.underlying264
  a61 := Tryz.isAgg264
  z61 := Tryz.sizeOf264
  t65 := Tryz.underlying298
  a65 := Tryz.isAgg298
  z65 := Tryz.sizeOf298
  v65 := Tryz.zeroValue298
  i65 := by kernel_rfl
  t66 := Tryz.underlying299
  a66 := Tryz.isAgg299
  z66 := Tryz.sizeOf299
  v66 := Tryz.zeroValue299
  i66 := by kernel_rfl
  t67 := Tryz.underlying306
  a67 := Tryz.isAgg306
  z67 := Tryz.sizeOf306
  v67 := Tryz.zeroValue306
  i67 := by kernel_rfl
  g0 := by kernel_rfl
  m0 := by kernel_rfl
  g1 := by kernel_rfl
  m1 := by kernel_rfl
  g2 := by kernel_rfl
  m2 := by kernel_rfl
  g3 := by kernel_rfl
  m3 := by kernel_rfl
  g4 := by kernel_rfl
  m4 := by kernel_rfl }
open Go.RowKit in
theorem Tryz.strconv_ParseUint_10_at64_ok (s : ByteArray) (hmax : s.size ≤ 9223372036854775806) (u : Nat) (h : Lib.parseUintB 64 s.data.toList = .ok u) (w : World) :
    Calls Tryz.prog 89 #[.string s, .int .i64 10, .int .i64 64] w fun e w' => e = .returned (.tuple #[.int .u64 u, .nilIface]) ∧ (w' = w ∨ w' = Lib.bytesWorld w 5 s) := Any.strconv_ParseUint_10_at64_ok Tryz.laysPu14 s hmax u h w
open Go.RowKit in
theorem Tryz.strconv_ParseUint_10_at64_syntax (s : ByteArray) (hlim : s.size ≤ 281474976710656) (h : Lib.parseUintB 64 s.data.toList = Lib.parseUintB 64 []) (ev : Value) (w : World) (hv : w.cell? ⟨0, 0, none⟩ = some ev) (hev : ev = .nilIface ∨ ∃ te pe, ev = .iface te pe) :
    Calls Tryz.prog 89 #[.string s, .int .i64 10, .int .i64 64] w fun e w' => ∃ N, e = .returned (.tuple #[.int .u64 0, .iface 244 (.pointer (some ⟨N, 0, none⟩))]) ∧ w.heap.size ≤ N ∧ w'.heap[N]? = some (.cells #[.string ⟨#[80, 97, 114, 115, 101, 85, 105, 110, 116]⟩, .string s, ev] 260 (0, 0)) ∧ Below w.heap.size w w' := Any.strconv_ParseUint_10_at64_syntax Tryz.laysPu14 s hlim h ev w hv hev
open Go.RowKit in
theorem Tryz.strconv_ParseUint_10_at64_range (s : ByteArray) (hlim : s.size ≤ 281474976710656) (h : Lib.parseUintB 64 s.data.toList = .range) (ev : Value) (w : World) (hv : w.cell? ⟨1, 0, none⟩ = some ev) (hev : ev = .nilIface ∨ ∃ te pe, ev = .iface te pe) :
    Calls Tryz.prog 89 #[.string s, .int .i64 10, .int .i64 64] w fun e w' => ∃ N, e = .returned (.tuple #[.int .u64 18446744073709551615, .iface 244 (.pointer (some ⟨N, 0, none⟩))]) ∧ w.heap.size ≤ N ∧ w'.heap[N]? = some (.cells #[.string ⟨#[80, 97, 114, 115, 101, 85, 105, 110, 116]⟩, .string s, ev] 260 (0, 0)) ∧ Below w.heap.size w w' := Any.strconv_ParseUint_10_at64_range Tryz.laysPu14 s hlim h ev w hv hev
def Tryz.lays146_ren : Go.Shelf.Ren := ⟨fun | 146 => 88 | 221 => 108 | 268 => 116 | 138 => 117 | 143 => 118 | 195 => 132 | 197 => 133 | 218 => 134 | 219 => 135 | 260 => 154 | 217 => 155 | 225 => 156 | 224 => 157 | 267 => 158 | 266 => 174 | 314 => 175 | n => n, fun | 9 => 9 | 31 => 186 | 3 => 3 | 4 => 4 | 0 => 0 | 105 => 255 | 21 => 21 | 5 => 5 | 46 => 215 | 119 => 292 | 139 => 295 | 138 => 294 | 146 => 234 | 51 => 30 | n => n, fun | 1 => 3 | 3 => 4 | 4 => 5 | n => n⟩
theorem Tryz.lays146 : Go.Proofs.Lays.n146 Tryz.prog Tryz.lays146_ren := {
  mixed := by kernel_rfl
  f138 := Tryz.func117.trans (congrArg some (by kernel_rfl))
  f143 := Tryz.func118.trans (congrArg some (by kernel_rfl))
  f146 := Tryz.func88.trans (congrArg some (by kernel_rfl))
  f195 := Tryz.func132.trans (congrArg some (by kernel_rfl))
  f197 := Tryz.func133.trans (congrArg some (by kernel_rfl))
  f217 := Tryz.func155.trans (congrArg some (by kernel_rfl))
  f218 := Tryz.func134.trans (congrArg some (by kernel_rfl))
  f219 := Tryz.func135.trans (congrArg some (by kernel_rfl))
  f221 := Tryz.func108.trans (congrArg some (by kernel_rfl))
  f224 := Tryz.func157.trans (congrArg some (by kernel_rfl))
  f225 := Tryz.func156.trans (congrArg some (by kernel_rfl))
  f260 := Tryz.func154.trans (congrArg some (by kernel_rfl))
  f266 := Tryz.func174.trans (congrArg some (by kernel_rfl))
  f267 := Tryz.func158.trans (congrArg some (by kernel_rfl))
  f268 := Tryz.func116.trans (congrArg some (by kernel_rfl))
  f314 := Tryz.func175.trans (congrArg some (by kernel_rfl))
  t0 := Tryz.underlying0
  a0 := Tryz.isAgg0
  z0 := Tryz.sizeOf0
  v0 := Tryz.zeroValue0
  t3 := Tryz.underlying3
  a3 := Tryz.isAgg3
  z3 := Tryz.sizeOf3
  v3 := Tryz.zeroValue3
  t4 := Tryz.underlying4
  a4 := Tryz.isAgg4
  z4 := Tryz.sizeOf4
  v4 := Tryz.zeroValue4
  t5 := Tryz.underlying5
  a5 := Tryz.isAgg5
  z5 := Tryz.sizeOf5
  v5 := Tryz.zeroValue5
  t9 := Tryz.underlying9
  a9 := Tryz.isAgg9
  z9 := Tryz.sizeOf9
  v9 := Tryz.zeroValue9
  t21 := Tryz.underlying21
  a21 := Tryz.isAgg21
  z21 := Tryz.sizeOf21
  v21 := Tryz.zeroValue21
  t31 := Tryz.underlying186
  a31 := Tryz.isAgg186
  z31 := Tryz.sizeOf186
  v31 := Tryz.zeroValue186
  t46 := Tryz.underlying215
  a46 := Tryz.isAgg215
  z46 := Tryz.sizeOf215
  v46 := Tryz.zeroValue215
  t51 := Tryz.underlying30
  a51 := Tryz.isAgg30
  z51 := Tryz.sizeOf30
  v51 := Tryz.zeroValue30
  t105 := Tryz.underlying255
  a105 := Tryz.isAgg255
  z105 := Tryz.sizeOf255
  v105 := Tryz.zeroValue255
  t119 := Tryz.underlying292
  a119 := Tryz.isAgg292
  z119 := Tryz.sizeOf292
  t138 := Tryz.underlying294
  a138 := Tryz.isAgg294
  z138 := Tryz.sizeOf294
  v138 := Tryz.zeroValue294
  t139 := Tryz.underlying295
  a139 := Tryz.isAgg295
  z139 := Tryz.sizeOf295
  v139 := Tryz.zeroValue295
  t146 := Tryz.underlying234
  a146 := Tryz.isAgg234
  z146 := Tryz.sizeOf234
  v146 := Tryz.zeroValue234
  g1 := by kernel_rfl
  g3 := by kernel_rfl
  g4 := by kernel_rfl }
open Go.RowKit Go.Lib in
theorem Tryz.strings_Split (s sep : ByteArray) (m : Int) (w : World) (hs : s.size < 4294967281) (hm : w.cell? ⟨3, 0, none⟩ = some (.int .i64 m)) (h1 : 1 ≤ sep.size) :
    Calls Tryz.prog 88 #[.string s, .string sep] w fun e w' =>
      e = .returned (.slice (some ⟨w.heap.size, 0, none⟩) (Lib.countB s sep + 1) (Lib.countB s sep + 1)) ∧ w' = w.alloc (.cells ((Lib.splitB sep 0 (Lib.countB s sep) s).map Value.string).toArray 9) := Any.strings_Split Tryz.lays146 (by kernel_rfl) s sep m w hs hm h1
def Tryz.lays212_ren : Go.Shelf.Ren := ⟨fun | 212 => 104 | 263 => 114 | 264 => 115 | n => n, fun | 46 => 215 | 51 => 30 | 146 => 234 | 53 => 33 | 148 => 236 | n => n, fun | n => n⟩
theorem Tryz.lays212 : Go.Proofs.Lays.n212 Tryz.prog Tryz.lays212_ren := {
  mixed := by kernel_rfl
  f212 := Tryz.func104.trans (congrArg some (by kernel_rfl))
  f263 := Tryz.func114.trans (congrArg some (by kernel_rfl))
  f264 := Tryz.func115.trans (congrArg some (by kernel_rfl))
  t46 := Tryz.underlying215
  a46 := Tryz.isAgg215
  z46 := Tryz.sizeOf215
  v46 := Tryz.zeroValue215
  t51 := Tryz.underlying30
  a51 := Tryz.isAgg30
  z51 := Tryz.sizeOf30
  v51 := Tryz.zeroValue30
  t53 := Tryz.underlying33
  a53 := Tryz.isAgg33
  z53 := Tryz.sizeOf33
  v53 := Tryz.zeroValue33
  t146 := Tryz.underlying234
  a146 := Tryz.isAgg234
  z146 := Tryz.sizeOf234
  v146 := Tryz.zeroValue234
  t148 := Tryz.underlying236
  a148 := Tryz.isAgg236
  z148 := Tryz.sizeOf236
  v148 := Tryz.zeroValue236 }
open Go.RowKit Go.Lib in
theorem Tryz.bits_Mul (x y : Nat) (hx : x < 18446744073709551616) (hy : y < 18446744073709551616) (w : World) :
    Calls Tryz.prog 104 #[.int .u64 x, .int .u64 y] w fun e w' => e = .returned (.tuple #[.int .u64 ((x * y / 18446744073709551616 : Nat) : Int), .int .u64 ((x * y % 18446744073709551616 : Nat) : Int)]) ∧ w' = w := Any.bits_Mul Tryz.lays212 x y hx hy w
end Go.Proofs

namespace Go.Proofs.YtgdoeoackhfikaaGreatDoor
set_option linter.unusedVariables false
set_option linter.unusedSimpArgs false
open Go.RowKit
def runesFrom (s : ByteArray) : Nat → Nat → List (Nat × Int)
 | 0, _ => []
 | fuel + 1, pos => if pos < s.size then (pos, ((Utf8.decode s pos).1 : Int)) :: runesFrom s fuel (pos + (Utf8.decode s pos).2) else []
def runesOf (s : ByteArray) : List (Nat × Int) := runesFrom s s.size 0
theorem width_pos (s : ByteArray) (pos : Nat) (h : pos < s.size) : 1 ≤ (Utf8.decode s pos).2 := by
 by_cases ha : (s[pos]'h).toNat < 128
 ·rw [decode_ascii s pos h ha]
  exact Nat.le_refl _
 ·exact (decode_high s pos h (by omega)).2
theorem runesFrom_end (s : ByteArray) (fuel pos : Nat) (h : ¬ pos < s.size) : runesFrom s fuel pos = [] := by
 cases fuel with
 | zero => rfl
 | succ f => simp [runesFrom, h]
theorem runesFrom_step (s : ByteArray) (fuel pos : Nat) (h : pos < s.size) :
  runesFrom s (fuel + 1) pos = (pos, ((Utf8.decode s pos).1 : Int)) :: runesFrom s fuel (pos + (Utf8.decode s pos).2) := by
 simp [runesFrom, h]
def hasB (l : List (Nat × Int)) (r : Int) : Bool := l.any (fun p => p.2 == r)
theorem hasB_cons (p : Nat × Int) (l : List (Nat × Int)) (r : Int) : hasB (p :: l) r = (p.2 == r || hasB l r) := rfl
def ofB (s : ByteArray) (r : Int) : Bool := hasB (runesOf s) r && (r != 65533)
set_option maxHeartbeats 4000000 in
set_option maxRecDepth 100000 in
theorem hasRune_walk (s : ByteArray) (r : Int) (w : World) (hs : s.size ≤ 9223372036854775807) :
  Calls Tryz.prog 91 #[.string s, .int .i32 r] w fun e w' => e = .returned (.bool (hasB (runesOf s) r)) ∧ Below w.heap.size w w' := by
 go_enter Tryz.func91, Tryz.ntmps91
 go_wp2
 go_loopw [] (fun wr => ∃ (pos fuel : Nat), wr.heap[w.heap.size]? = some (.stringIter s pos) ∧ Below w.heap.size w wr ∧ Hid (hasB (runesFrom s fuel pos) r = hasB (runesOf s) r) ∧ s.size ≤ pos + fuel) (fun wr => s.size - wr.iterPos w.heap.size)
 case atStart =>
  refine ⟨0, s.size, ?_, ((Below.refl _ w).alloc (Nat.le_refl _) _), Lib.hid rfl, by omega⟩
  have := World.iter_heap w s 0
  simpa using this
 case round =>
  obtain ⟨pos, fuel, hit, hbw, H, hfu⟩ := hrel
  by_cases hp : pos < s.size
  ·have hnx : ∀ ty, (Instr.next (.pointer (some ⟨w.heap.size, 0, none⟩)) true ty).run Tryz.prog wr = _ := fun ty => Lib.run_next_any_at wr (w.heap.size) s pos ty hit hp
   have hwd := width_pos s pos hp
   have hd1 := decode_le s pos
   have hit2 := Lib.iterAt_heap wr (w.heap.size) s pos (pos + (Utf8.decode s pos).2) hit
   have hbw2 := Lib.below_iterAt hbw (k := w.heap.size) (by omega) s (pos + (Utf8.decode s pos).2)
   obtain ⟨f, rfl⟩ : ∃ f, fuel = f + 1 := ⟨fuel - 1, by omega⟩
   by_cases h32 : ((Utf8.decode s pos).1 : Int) = r
   ·have hb : (((Utf8.decode s pos).1 : Int) == r) = true := beq_iff_eq.2 h32
    have HF : Hid (hasB (runesOf s) r = true) := Lib.hid (by rw [← H.out, runesFrom_step _ _ _ hp, hasB_cons, hb]; rfl)
    clear h32
    go_wp2
    go_ret
    exact ⟨by rw [HF.out]; rfl, hbw2⟩
   ·have hb : (((Utf8.decode s pos).1 : Int) == r) = false := beq_eq_false_iff_ne.2 h32
    clear h32
    go_wp2
    go_roundw
    case rel =>
     exact ⟨pos + (Utf8.decode s pos).2, f, hit2, hbw2, Lib.hid (by rw [← H.out, runesFrom_step _ _ _ hp, hasB_cons, hb]; rfl), by omega⟩
    case measure =>
     simp only [World.iterPos, hit2, hit]
     omega
  ·have hnx : ∀ ty, (Instr.next (.pointer (some ⟨w.heap.size, 0, none⟩)) true ty).run Tryz.prog wr = _ := fun ty => Lib.run_next_end_at wr (w.heap.size) s pos ty hit hp
   have HF : Hid (hasB (runesOf s) r = false) := Lib.hid (by rw [← H.out, runesFrom_end _ _ _ hp]; rfl)
   go_wp2
   go_ret
   exact ⟨by rw [HF.out]; rfl, hbw⟩
set_option maxHeartbeats 4000000 in
set_option maxRecDepth 100000 in
theorem of_walk (s : ByteArray) (r : Int) (w : World) (hs : s.size ≤ 9223372036854775807) :
  Calls Tryz.prog 53 #[.int .i32 r, .string s] w fun e w' => e = .returned (.bool (ofB s r)) ∧ Below w.heap.size w w' := by
 by_cases hb : hasB (runesOf s) r = true
 ·have HF : Hid (ofB s r = (r != 65533)) := Lib.hid (by unfold ofB; rw [hb]; rfl)
  have hbH := Lib.hid hb
  clear hb
  go_enter Tryz.func53, Tryz.ntmps53
  go_wp2_with fail
  refine (hasRune_walk _ _ _ hs).mono ?_
  rintro e w1 ⟨rfl, hb1⟩
  rw [hbH.out]
  go_wp2_with fail
  go_ret
  exact ⟨by rw [HF.out]; rfl, hb1⟩
 ·have hb' : hasB (runesOf s) r = false := by simpa using hb
  clear hb
  have HF : Hid (ofB s r = false) := Lib.hid (by unfold ofB; rw [hb']; rfl)
  have hbH := Lib.hid hb'
  clear hb'
  go_enter Tryz.func53, Tryz.ntmps53
  go_wp2_with fail
  refine (hasRune_walk _ _ _ hs).mono ?_
  rintro e w1 ⟨rfl, hb1⟩
  rw [hbH.out]
  go_wp2_with fail
  go_ret
  exact ⟨by rw [HF.out]; rfl, hb1⟩
end Go.Proofs.YtgdoeoackhfikaaGreatDoor

namespace Go.Proofs.YtgdoeoackhfikaaGreatDoor
set_option linter.unusedSimpArgs false
open Go.RowKit Go.Sort Go.Lib
set_option linter.unusedVariables false
theorem holds_zero0 (w : World) (T : TypeId) (nd : Nat) (hs : nd ≤ 24) : Holds (fun (b : UInt8) => Value.int .u8 (b.toNat : Int)) (w.alloc (.cells zeros24 T)) w.heap.size 0 (Array.replicate nd (0 : UInt8)) := fun j hj => by
 have hj' : j < nd := by simpa using hj
 refine ⟨?_, World.frozen?_alloc_new _ _ _ _⟩
 rw [World.cell?_alloc_new, zeros24_at _ (by omega), getElem!_pos _ j hj]
 simp
theorem fin_zero (w : World) (o : Obj) (dk : Array UInt8) (k : Nat) : ∃ os, (putRow (fun (b : UInt8) => Value.int .u8 (b.toNat : Int)) (w.alloc o) w.heap.size 0 dk).drewN k = grow (w.drewN k) os := by
 rw [alloc_eq_grow]
 obtain ⟨os', _, e⟩ := putRow_grow_new (fun (b : UInt8) => Value.int .u8 (b.toNat : Int)) w #[o] w.heap.size 0 dk (Nat.le_refl _)
 exact ⟨os', by rw [e]; rfl⟩
theorem below_grow (w : World) (k : Nat) (os : Array Obj) : Below w.heap.size w (grow (w.drewN k) os) :=
 ⟨rfl, rfl, rfl, by simp [grow, World.drewN], fun i hi => by simp only [grow, World.drewN]; rw [Array.getElem?_append_left hi]⟩
set_option maxHeartbeats 6400000 in
set_option maxRecDepth 100000 in
theorem FormatUint_in (u : Nat) (hu64 : u < 18446744073709551616) (w : World) (hG : GG w) :
  Calls Tryz.prog 111 #[.int .u64 u, .int .i64 10] w fun e w' => e = .returned (.string ⟨(decDigits u).toArray⟩) ∧ Below w.heap.size w w' := by
 have htab := hG.tab
 clear hG
 by_cases hs : u < 100
 ·go_enter Tryz.func111, Tryz.ntmps111
  go_wp2_with (go_at_call 125; refine (Tryz.internal_strconv_small u hs _).mono ?_; rintro e w' ⟨rfl, rfl⟩)
  go_ret
  exact ⟨rfl, Below.refl _ _⟩
 ·have hu1 : 1 ≤ u := by omega
  have hnd20 : nDigits u ≤ 20 := by have := numDigits_eq u hu1 hu64; split at this <;> omega
  have hb3 : nDigits u ≤ 24 := by omega
  have hal : Tryz.prog.arrayLen 248 = 24 := by simp [Program.arrayLen, Tryz.underlying248]
  have hsl1 : ∀ W, (Instr.sliceAt 248 (.pointer (some ⟨w.heap.size, 0, none⟩)) none (some (.int .i64 (nDigits u : Int))) none).run Tryz.prog W = .ok (.slice (some ⟨w.heap.size, 0, none⟩) (nDigits u) 24) W := fun W => by
   rw [run_sliceAt_array_h W 248 ⟨w.heap.size, 0, none⟩ (by simp [Program.arrayLen, Program.elem, Tryz.underlying248]) .i64 (nDigits u : Int) (by omega) (by rw [hal]; omega)]
   go_simp
   try omega
  have hH0 := holds_zero0 w 248 (nDigits u) (by omega)
  have hfmt := Tryz.internal_strconv_formatBase10 w.heap.size 0 24 u (Array.replicate (nDigits u) 0) (w.alloc (.cells zeros24 248)) hH0 (by rw [Array.size_replicate]; exact lt_pow_nDigits u) hu64 (by rw [Array.size_replicate]; omega)
  rw [Array.size_replicate] at hfmt
  have HH0 := Lib.hid hH0
  clear hH0 hal
  go_enter Tryz.func111, Tryz.ntmps111
  go_wp2_with (first
   | (go_at_call 126; refine (Tryz.internal_strconv_numDigits u hu1 hu64 _ (Lib.tabIs_alloc htab _)).mono ?_; rintro e w' ⟨rfl, rfl⟩))
  go_at_call 127
  refine hfmt.mono ?_
  rintro e w' ⟨rfl, k, v', dk, rfl, hF⟩
  have hcv : (convert 242 9 (.slice (some ⟨w.heap.size, 0, none⟩) (nDigits u) 24)).run Tryz.prog ((putRow (fun (b : UInt8) => Value.int .u8 (b.toNat : Int)) (w.alloc (.cells zeros24 248)) w.heap.size 0 dk).drewN k) = .ok (.string ⟨(decDigits u).toArray⟩) ((putRow (fun (b : UInt8) => Value.int .u8 (b.toNat : Int)) (w.alloc (.cells zeros24 248)) w.heap.size 0 dk).drewN k) := by
   have h := run_convert_bytes_back (P := Tryz.prog) ((putRow (fun (b : UInt8) => Value.int .u8 (b.toNat : Int)) (w.alloc (.cells zeros24 248)) w.heap.size 0 dk).drewN k) 242 9 5 ⟨w.heap.size, 0, none⟩ 24 (decDigits u) Tryz.underlying242 Tryz.underlying5 Tryz.underlying9 (fun j hj => by
    rw [row_is_numeral hF j hj, Lib.add_plain, World.cell?_drewN]
    exact cell?_putRow (fun (b : UInt8) => Value.int .u8 (b.toNat : Int)) _ w.heap.size 0 _ dk HH0.out (by rw [hF.size, Array.size_replicate]) j (by rw [hF.size]; rw [decDigits_length] at hj; exact hj))
   rw [decDigits_length] at h
   exact h
  go_wp2
  go_ret
  obtain ⟨os, eo⟩ := fin_zero w (.cells zeros24 248) dk k
  refine ⟨rfl, ?_⟩
  rw [eo]
  exact below_grow w k os
set_option maxHeartbeats 1000000 in
set_option maxRecDepth 100000 in
theorem FormatUint_any (u : Nat) (hu64 : u < 18446744073709551616) (w : World) (hG : GG w) :
  Calls Tryz.prog 90 #[.int .u64 u, .int .i64 10] w fun e w' => e = .returned (.string ⟨(decDigits u).toArray⟩) ∧ Below w.heap.size w w' := by
 go_enter Tryz.func90, Tryz.ntmps90
 go_wp2_with fail
 refine (FormatUint_in u hu64 _ hG).mono ?_
 rintro e w' ⟨rfl, hb⟩
 go_wp2
 go_ret
 exact ⟨rfl, hb⟩
end Go.Proofs.YtgdoeoackhfikaaGreatDoor

namespace Go.Proofs.YtgdoeoackhfikaaGreatDoor
set_option linter.unusedSimpArgs false
open Go.RowKit Go.Lib Go.Proofs.YtgdoeoackhfikaaGreatDoorW.PrintWords
set_option linter.unusedVariables false
def decStr (u : Nat) : ByteArray := ⟨(decDigits u).toArray⟩
theorem FormatUint_str (u : Nat) (hu64 : u < 18446744073709551616) (w : World) (hG : GG w) :
  Calls Tryz.prog 90 #[.int .u64 u, .int .i64 10] w fun e w' => e = .returned (.string (decStr u)) ∧ Below w.heap.size w w' := FormatUint_any u hu64 w hG
def numOf (x : ByteArray) : Option Nat :=
 match parseUintB 64 x.data.toList with
 | .ok u => if (decStr u).toList = x.toList then some u else none
 | _ => none
def numsFrom : List ByteArray → Option (List Int)
 | [] => some []
 | x :: r => match numOf x with
  | none => none
  | some u => (numsFrom r).map (fun l => (u : Int) :: l)
def comma_ : ByteArray := ⟨#[44]⟩
def piecesOf (s : ByteArray) : List ByteArray := splitB comma_ 0 (countB s comma_) s
def numsOf (s : ByteArray) : List Int × Bool :=
 if s.toList = [] then ([], true) else match numsFrom (piecesOf s) with
 | some l => (l, true)
 | none => ([], false)
theorem numOf_lt {x : ByteArray} {u : Nat} (h : numOf x = some u) : u < 18446744073709551616 := by
 unfold numOf at h
 split at h
 ·rename_i v hv
  have := parseUintB_le hv
  split at h
  ·injection h with h; omega
  ·cases h
 ·cases h
theorem pieces_length (s : ByteArray) : (piecesOf s).length = countB s comma_ + 1 := splitB_all comma_ (by decide) 0 _ s rfl
theorem pieces_le (s : ByteArray) : (piecesOf s).length ≤ s.size + 1 := by
 rw [pieces_length]
 have := countB_le comma_ (by decide) s.size s (Nat.le_refl _)
 omega
def ParsePost (x : ByteArray) (w : World) (e : Ending) (w' : World) : Prop :=
 (∃ u : Nat, parseUintB 64 x.data.toList = .ok u ∧ e = .returned (.tuple #[.int .u64 u, .nilIface]) ∧ Below w.heap.size w w') ∨
 ((∀ u, parseUintB 64 x.data.toList ≠ .ok u) ∧ (∃ (n : Int) (N : Nat), e = .returned (.tuple #[.int .u64 n, .iface 244 (.pointer (some ⟨N, 0, none⟩))])) ∧ Below w.heap.size w w')
theorem ParseUint_any (x : ByteArray) (hs : x.size ≤ 281474976710656) (w : World) (hG : GG w) :
  Calls Tryz.prog 89 #[.string x, .int .i64 10, .int .i64 64] w (ParsePost x w) := by
 rcases h : parseUintB 64 x.data.toList with u | _ | _
 ·refine (Tryz.strconv_ParseUint_10_at64_ok x (by omega) u h w).mono ?_
  rintro e w' ⟨rfl, hw⟩
  refine .inl ⟨u, h, rfl, ?_⟩
  rcases hw with rfl | rfl
  ·exact Below.refl _ _
  ·exact bytesWorld_below _ _ _
 ·obtain ⟨ev, h1, h2⟩ := hG.syn
  refine (Tryz.strconv_ParseUint_10_at64_syntax x hs h ev w h1 h2).mono ?_
  rintro e w' ⟨N, rfl, _, _, hb⟩
  exact .inr ⟨(fun u hu => by rw [h] at hu; cases hu), ⟨_, _, rfl⟩, hb⟩
 ·obtain ⟨ev, h1, h2⟩ := hG.ran
  refine (Tryz.strconv_ParseUint_10_at64_range x hs h ev w h1 h2).mono ?_
  rintro e w' ⟨N, rfl, _, _, hb⟩
  exact .inr ⟨(fun u hu => by rw [h] at hu; cases hu), ⟨_, _, rfl⟩, hb⟩
theorem infoU64_ : (Tryz.prog.info? 33).map (fun i => (i.zero, i.size, i.bytes)) = some (some (.int .u64 0), 1, 8) := by kernel_rfl
def NumsPost (s : ByteArray) (w : World) (e : Ending) (w' : World) : Prop :=
 ∃ v, e = .returned (.tuple #[v, .bool (numsOf s).2]) ∧ w'.ownsRow w.heap.size 33 1 v (numsOf s).1.length ((numsOf s).1.map (Value.int .u64)) ∧ Below w.heap.size w w'
theorem extract_size_le (s : ByteArray) (a b : Nat) : (s.extract a b).size ≤ s.size := by
 rw [ByteArray.size_extract]; omega
theorem piece_size (sep : ByteArray) (save : Nat) : ∀ (k : Nat) (s x : ByteArray), x ∈ splitB sep save k s → x.size ≤ s.size
 | 0, s, x, h => by rw [splitB_zero] at h; simp at h; rw [h]; exact Nat.le_refl _
 | k + 1, s, x, h => by
  unfold splitB at h
  split at h
  ·simp at h; rw [h]; exact Nat.le_refl _
  ·rcases List.mem_cons.1 h with rfl | h
   ·exact extract_size_le _ _ _
   ·exact Nat.le_trans (piece_size sep save k _ x h) (extract_size_le _ _ _)
set_option maxHeartbeats 4000000 in
set_option maxRecDepth 100000 in
theorem numbers_walk (s : ByteArray) (w : World) (hs : s.size < 4294967281) (hG : GG w) :
  Calls Tryz.prog 52 #[.string s] w (NumsPost s w) := by
 by_cases hse : s.toList = []
 ·have HF : Hid (numsOf s = ([], true)) := Lib.hid (by unfold numsOf; rw [if_pos hse])
  go_enter Tryz.func52, Tryz.ntmps52
  go_wp2_with fail
  go_ret2
  refine ⟨.slice none 0 0, ?_, ?_, Below.refl _ _⟩
  ·rw [HF.out]; rfl
  ·rw [HF.out]; exact World.ownsRow_nil _ _ _ _
 ·have HE := Lib.hid hse
  have hne : (!s.toList.isEmpty) = true := by simp [hse]
  have hne2 : s.toList.isEmpty = false := by simp [hse]
  clear hse
  obtain ⟨i0, hi, hz0, hz1, hz2⟩ := info_parts infoU64_
  obtain ⟨m, hm⟩ := hG.maxLen
  obtain ⟨ps, hps⟩ : ∃ ps, ps = piecesOf s := ⟨_, rfl⟩
  have hpl : countB s comma_ + 1 = ps.length := by rw [hps]; exact (pieces_length s).symm
  have hple : ps.length ≤ s.size + 1 := by rw [hps]; exact pieces_le s
  have hsp := Tryz.strings_Split s comma_ m w hs hm (by decide)
  rw [hpl, show splitB comma_ 0 (countB s comma_) s = ps from hps.symm] at hsp
  have hpz : ∀ x, x ∈ ps → x.size ≤ s.size := fun x hx => piece_size comma_ 0 _ s x (by rw [hps] at hx; exact hx)
  have HPS := Lib.hid hps
  have HPZ := Lib.hid hpz
  clear hps hpl hpz hm
  have hb0 : Below w.heap.size w (w.alloc (.cells (ps.map Value.string).toArray 9)) := (Below.refl _ w).alloc (Nat.le_refl _) _
  have hc0 : (w.alloc (.cells (ps.map Value.string).toArray 9)).heap[w.heap.size]? = some (.cells (ps.map Value.string).toArray 9) := heap_alloc_new w _
  have HSP := Lib.hid hsp
  have HC0 := Lib.hid hc0
  have HB0 := Lib.hid hb0
  clear hsp hc0 hb0
  go_enter Tryz.func52, Tryz.ntmps52
  go_wp2_with fail
  refine HSP.out.mono ?_
  rintro e wp ⟨rfl, hwp⟩
  have hsz1 : wp.heap.size = w.heap.size + 1 := by rw [hwp]; simp
  have HSZ := Lib.hid hsz1
  have hszle : w.heap.size + 1 ≤ wp.heap.size := by omega
  have HC1 : Hid (wp.heap[w.heap.size]? = some (.cells (ps.map Value.string).toArray 9)) := Lib.hid (by rw [hwp]; exact HC0.out)
  have HB1 : Hid (Below w.heap.size w wp) := Lib.hid (by rw [hwp]; exact HB0.out)
  clear hwp hsz1 HC0 HB0 HSP
  go_wp2_with fail
  go_loopw [4, 14] (fun v i wr => ∃ (k : Nat) (acc : List Int), i = .int .i64 k ∧ k ≤ ps.length ∧ acc.length = k ∧ Hid (numsFrom ps = (numsFrom (ps.drop k)).map (fun l => acc ++ l)) ∧ wr.ownsRow (w.heap.size + 1) 33 1 v acc.length (acc.map (Value.int .u64)) ∧ Below (w.heap.size + 1) wp wr) (fun _ i _ => ps.length - (RowKit.intOf i).toNat)
  case atStart =>
   refine ⟨0, [], rfl, Nat.zero_le _, rfl, Lib.hid ?_, World.ownsRow_nil _ _ _ _, Below.refl _ _⟩
   simp
  case round =>
   obtain ⟨k, acc, rfl, hk, hacc, H, hown, hbw⟩ := hrel
   have hGr : GG wr := GG_same (GG_at hG HB1.out) (fun i hi => hbw.block i (by have := HSZ.out; omega))
   have hsr := hbw.size
   by_cases hlt : k < ps.length
   ·obtain ⟨x, hx⟩ : ∃ x, ps[k]? = some x := ⟨ps[k], List.getElem?_eq_getElem hlt⟩
    have hxs : x.size ≤ s.size := HPZ.out x (List.mem_of_getElem? hx)
    have hdr : ps.drop k = x :: ps.drop (k + 1) := by
     rw [List.drop_eq_getElem_cons hlt]
     rw [List.getElem?_eq_getElem hlt] at hx
     injection hx with hx
     rw [hx]
    have hcell : wr.cell? ⟨w.heap.size, k, none⟩ = some (.string x) := by
     have h1 : wr.heap[w.heap.size]? = some (.cells (ps.map Value.string).toArray 9) := (hbw.block _ (by omega)).trans HC1.out
     rw [Lib.cell_of_heap h1]
     simp [hx]
    have HX := Lib.hid hx
    have HD := Lib.hid hdr
    have HA := Lib.hid hacc
    have HGr := Lib.hid hGr
    clear hx hdr hacc hGr
    go_wp2_with fail
    refine (ParseUint_any x (by omega) _ HGr.out).mono ?_
    rintro e w2 (⟨u, hu, rfl, hb2⟩ | ⟨hno, ⟨n, N, rfl⟩, hb2⟩)
    ·have hu64 : u < 18446744073709551616 := by have := parseUintB_le hu; omega
     have HU := Lib.hid hu
     clear hu
     by_cases heq : (decStr u).toList = x.toList
     ·have HNUM : Hid (numOf x = some u) := Lib.hid (by unfold numOf; rw [HU.out]; exact if_pos heq)
      have heb : ((decStr u).toList == x.toList) = true := by rw [heq]; exact beq_self_eq_true _
      have HEQ := Lib.hid heq
      clear heq
      have hG2 := GG_at HGr.out hb2
      have HG2 := Lib.hid hG2
      clear hG2
      go_wp2_with fail
      refine (FormatUint_str u hu64 _ HG2.out).mono ?_
      rintro e w3 ⟨rfl, hb3⟩
      have hb23 : Below wr.heap.size wr w3 := hb2.trans (hb3.mono hb2.size)
      have hs3 := hb23.size
      have hown3 := hown.kept (w' := w3) (row := none) ⟨hb23.os, hb23.tape, hb23.output, hb23.size, fun i hi _ => hb23.block i hi⟩ (by cases v : Value.ownBlock _ <;> simp)
      have HEB := Lib.hid heb
      have hacl : acc.length = k := HA.out
      have HACL := Lib.hid hacl
      have hacle : acc.length ≤ s.size + 1 := by omega
      clear hacl hb2 hb3 hown
      go_wp2_with (at_builtin; refine wpList_append_own _ rfl _ _ 22 rfl (w.heap.size + 1) 33 i0 (.int .u64 0) 1 8 Tryz.underlying22 hi hz0 hz1 hz2 rfl (by decide) _ _ _ rfl (hown3.alloc _) ⟨w3.heap.size, 0, none⟩ 1 1 [.int .u64 u] rfl rfl ?c1 ?c2 ?c3 ?c4 ?c5 ?_)
      case c1 =>
       intro j y hj
       match j, hj with
       | 0, hj => simp at hj; subst hj; exact (World.cell?_alloc_new _ _ _ _).trans (by simp)
       | j + 1, hj => simp at hj
      case c2 => intro y hy; simp at hy; subst hy; rfl
      case c3 => unfold maxLen; omega
      case c4 => omega
      case c5 => simp; omega
      intro v' w4 hown4 hgrow _
      go_wp2_with fail
      go_roundw
      case rel =>
       refine ⟨k + 1, acc ++ [(u : Int)], by go_num, by omega, by simp; exact HACL.out, Lib.hid ?_, ?_, ?_⟩
       ·rw [H.out, HD.out]
        simp only [numsFrom, HNUM.out]
        cases numsFrom (ps.drop (k + 1)) <;> simp
       ·simpa using hown4
       ·exact ((hbw.trans (hb23.mono (by omega))).alloc (by omega) _).grown hgrow (by simp; omega) (fun k hk => (hown3.lt k hk).1)
      case measure => simp [RowKit.intOf]; omega
     ·have HNUM : Hid (numOf x = none) := Lib.hid (by unfold numOf; rw [HU.out]; exact if_neg heq)
      have heb : ((decStr u).toList == x.toList) = false := beq_eq_false_iff_ne.2 heq
      clear heq
      have hG2 := GG_at HGr.out hb2
      have HG2 := Lib.hid hG2
      clear hG2
      go_wp2_with fail
      refine (FormatUint_str u hu64 _ HG2.out).mono ?_
      rintro e w3 ⟨rfl, hb3⟩
      have hb23 : Below wr.heap.size wr w3 := hb2.trans (hb3.mono hb2.size)
      have HF : Hid (numsOf s = ([], false)) := Lib.hid (by
       unfold numsOf; rw [if_neg HE.out, ← HPS.out, H.out, HD.out]
       simp only [numsFrom, HNUM.out, Option.map_none])
      go_wp2_with fail
      go_ret2
      refine ⟨.slice none 0 0, by rw [HF.out]; rfl, by rw [HF.out]; exact World.ownsRow_nil _ _ _ _, ?_⟩
      exact HB1.out.trans ((hbw.mono (by omega)).trans (hb23.mono (by omega)))
    ·have HNUM : Hid (numOf x = none) := Lib.hid (by
      unfold numOf
      split
      ·rename_i u hu; exact absurd hu (hno u)
      ·rfl)
     clear hno
     have HF : Hid (numsOf s = ([], false)) := Lib.hid (by
      unfold numsOf; rw [if_neg HE.out, ← HPS.out, H.out, HD.out]
      simp only [numsFrom, HNUM.out, Option.map_none])
     go_wp2_with fail
     go_ret2
     refine ⟨.slice none 0 0, by rw [HF.out]; rfl, by rw [HF.out]; exact World.ownsRow_nil _ _ _ _, ?_⟩
     exact HB1.out.trans ((hbw.mono (by omega)).trans (hb2.mono (by omega)))
   ·have hkl : k = ps.length := by omega
    have HF : Hid (numsOf s = (acc, true)) := Lib.hid (by
     unfold numsOf; rw [if_neg HE.out, ← HPS.out, H.out, hkl]
     simp [numsFrom])
    clear hkl
    have HA := Lib.hid hacc
    clear hacc
    go_wp2_with fail
    go_ret2
    refine ⟨_, by rw [HF.out]; rfl, by rw [HF.out]; exact own_weaken hown (by omega), HB1.out.trans (hbw.mono (by omega))⟩
end Go.Proofs.YtgdoeoackhfikaaGreatDoor
