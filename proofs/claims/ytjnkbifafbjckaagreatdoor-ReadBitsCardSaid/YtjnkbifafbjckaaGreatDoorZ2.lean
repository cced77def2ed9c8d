/-
  DERIVED: THE SHELF's CONTRACTS AT THIS DUMP, IN PLAIN WORDS (tools/lay-plain.mjs out of 'TryzShelf.lean', which tools/lay-shelf.mjs wrote): THE SAME DECLARATIONS UNDER THE SAME NAMES: 'import', 'namespace', 'open', 'def', 'theorem' AND NOTHING ELSE: no command of the shelf's: FOR A HAND-IN. Each laying: the table of numbers ('.._ren') and one theorem, a field a fact of the dump's own or the kernel's comparison; each contract: ONE APPLICATION.
-/
import Derived.Shelf.Strings.Builder1
import Derived.Shelf.Strings.Builder2
import Derived.Shelf.Strings.Trim
import Derived.Shelf.Small.Utf8
import Derived.Shelf.Small.Bits
import Derived.Shelf.Small.Strs
import Derived.Shelf.Small.Wraps
import Derived.Shelf.Strings.BuilderF
import Derived.Shelf.Strconv.Atoi
import Derived.Shelf.Strconv.Itoa0
import Derived.Shelf.Strconv.Itoa1
import Derived.Shelf.LaysM
import Derived.Shelf.Strconv.Itoa2
import Derived.Shelf.Strconv.Itoa3
import Derived.Shelf.Strconv.AtoiErrFast
import Derived.Shelf.Strconv.ParseIntEmpty
import Derived.Shelf.Strconv.AtoiFail
import Derived.Shelf.Strconv.Clone
import Derived.Shelf.Strconv.SyntaxError
import Derived.Shelf.LaysC
import Derived.Shelf.Strconv.ToError
import Derived.Shelf.Strconv.Lower
import Derived.Shelf.Strconv.ParseUint10
import Derived.Shelf.Strconv.ParseUint10Empty
import Derived.Shelf.Strconv.ParseUint10Any
import Derived.Shelf.Strconv.ParseInt10
import Derived.Shelf.Strconv.AtoiLong
import Derived.Shelf.Strconv.AtoiInnerAll
import Derived.Shelf.Strconv.RangeError
import Derived.Shelf.Strconv.ToErrorRange
import Derived.Shelf.Strconv.AtoiAll
import Derived.Ground.MpProg
import Derived.Shelf.Pu.ParseUintPublic10
import Derived.Shelf.Strings.Search1
import Derived.Shelf.Strings.Prefix
import Derived.Shelf.Strings.Runes
import Derived.Shelf.Strings.AsciiSet
import Derived.Shelf.Bits.Mul64
import Derived.Shelf.Strings.Repeat
import Derived.Shelf.Unicode.DecodeSlow
import Derived.Test.YtjnkbifafbjckaaGreatDoorProg
import Derived.Test.YtjnkbifafbjckaaGreatDoorZ1
namespace Go.Proofs
set_option linter.all false
open Go.Shelf
def Tryz.lays161_ren : Go.Shelf.Ren := ⟨fun | 161 => 174 | 231 => 204 | 227 => 205 | 233 => 206 | 235 => 207 | 228 => 233 | 197 => 234 | 151 => 235 | 260 => 252 | 152 => 253 | 137 => 267 | 119 => 268 | 224 => 269 | 225 => 270 | 217 => 280 | 266 => 281 | n => n, fun | 9 => 9 | 4 => 4 | 3 => 3 | 5 => 5 | 117 => 218 | 116 => 217 | 0 => 0 | 124 => 221 | 105 => 243 | 21 => 21 | 119 => 277 | 46 => 46 | 139 => 280 | 138 => 279 | n => n, fun | 3 => 4 | 4 => 5 | n => n⟩
theorem Tryz.lays161 : Go.Proofs.Lays.n161 Tryz.prog Tryz.lays161_ren := {
  mixed := by kernel_rfl
  f119 := Tryz.func268.trans (congrArg some (by kernel_rfl))
  f137 := Tryz.func267.trans (congrArg some (by kernel_rfl))
  f151 := Tryz.func235.trans (congrArg some (by kernel_rfl))
  f152 := Tryz.func253.trans (congrArg some (by kernel_rfl))
  f161 := Tryz.func174.trans (congrArg some (by kernel_rfl))
  f197 := Tryz.func234.trans (congrArg some (by kernel_rfl))
  f217 := Tryz.func280.trans (congrArg some (by kernel_rfl))
  f224 := Tryz.func269.trans (congrArg some (by kernel_rfl))
  f225 := Tryz.func270.trans (congrArg some (by kernel_rfl))
  f227 := Tryz.func205.trans (congrArg some (by kernel_rfl))
  f228 := Tryz.func233.trans (congrArg some (by kernel_rfl))
  f231 := Tryz.func204.trans (congrArg some (by kernel_rfl))
  f233 := Tryz.func206.trans (congrArg some (by kernel_rfl))
  f235 := Tryz.func207.trans (congrArg some (by kernel_rfl))
  f260 := Tryz.func252.trans (congrArg some (by kernel_rfl))
  f266 := Tryz.func281.trans (congrArg some (by kernel_rfl))
  t0 := Tryz.underlying0
  a0 := Tryz.isAgg0
  z0 := Tryz.sizeOf0
  v0 := Tryz.zeroValue0
  t3 := Tryz.underlying3
  a3 := Tryz.isAgg3
  z3 := Tryz.sizeOf3
  v3 := Tryz.zeroValue3
  t4 := Tryz.underlying4
  a4 := Tryz.isAgg4
  z4 := Tryz.sizeOf4
  v4 := Tryz.zeroValue4
  t5 := Tryz.underlying5
  a5 := Tryz.isAgg5
  z5 := Tryz.sizeOf5
  v5 := Tryz.zeroValue5
  t9 := Tryz.underlying9
  a9 := Tryz.isAgg9
  z9 := Tryz.sizeOf9
  v9 := Tryz.zeroValue9
  t21 := Tryz.underlying21
  a21 := Tryz.isAgg21
  z21 := Tryz.sizeOf21
  v21 := Tryz.zeroValue21
  t46 := Tryz.underlying46
  a46 := Tryz.isAgg46
  z46 := Tryz.sizeOf46
  v46 := Tryz.zeroValue46
  t105 := Tryz.underlying243
  a105 := Tryz.isAgg243
  z105 := Tryz.sizeOf243
  v105 := Tryz.zeroValue243
  t116 := Tryz.underlying217
  a116 := Tryz.isAgg217
  z116 := Tryz.sizeOf217
  t117 := Tryz.underlying218
  a117 := Tryz.isAgg218
  z117 := Tryz.sizeOf218
  v117 := Tryz.zeroValue218
  t119 := Tryz.underlying277
  a119 := Tryz.isAgg277
  z119 := Tryz.sizeOf277
  t124 := Tryz.underlying221
  a124 := Tryz.isAgg221
  z124 := Tryz.sizeOf221
  v124 := Tryz.zeroValue221
  t138 := Tryz.underlying279
  a138 := Tryz.isAgg279
  z138 := Tryz.sizeOf279
  v138 := Tryz.zeroValue279
  t139 := Tryz.underlying280
  a139 := Tryz.isAgg280
  z139 := Tryz.sizeOf280
  v139 := Tryz.zeroValue280
  g3 := by kernel_rfl
  g4 := by kernel_rfl }
open Go.RowKit in
/-- strings.TrimLeft: "TrimLeft returns a slice of the string s with all leading Unicode code points contained in cutset removed.": AT A cutset OF ONE ASCII BYTE. The world is as it was. (LAID: no walk: one application.) -/
theorem Tryz.strings_TrimLeft_one (s : ByteArray) (c : UInt8) (hc : c.toNat < 128) (w : World) :
    Calls Tryz.prog 174 #[.string s, .string ⟨#[c]⟩] w fun e w' => e = .returned (.string ⟨(Lib.trimLeftB s.data.toList c).toArray⟩) ∧ w' = w := Any.strings_TrimLeft_one Tryz.lays161 s c hc w
def Tryz.lays162_ren : Go.Shelf.Ren := ⟨fun | 162 => 175 | 232 => 208 | 227 => 205 | 234 => 209 | 236 => 210 | 228 => 233 | 271 => 236 | 151 => 235 | 120 => 254 | 197 => 234 | 152 => 253 | 260 => 252 | 137 => 267 | 119 => 268 | 224 => 269 | 225 => 270 | 217 => 280 | 266 => 281 | n => n, fun | 9 => 9 | 4 => 4 | 3 => 3 | 5 => 5 | 117 => 218 | 116 => 217 | 0 => 0 | 124 => 221 | 21 => 21 | 105 => 243 | 46 => 46 | 119 => 277 | 139 => 280 | 138 => 279 | n => n, fun | 3 => 4 | 4 => 5 | n => n⟩
theorem Tryz.lays162 : Go.Proofs.Lays.n162 Tryz.prog Tryz.lays162_ren := {
  mixed := by kernel_rfl
  f119 := Tryz.func268.trans (congrArg some (by kernel_rfl))
  f120 := Tryz.func254.trans (congrArg some (by kernel_rfl))
  f137 := Tryz.func267.trans (congrArg some (by kernel_rfl))
  f151 := Tryz.func235.trans (congrArg some (by kernel_rfl))
  f152 := Tryz.func253.trans (congrArg some (by kernel_rfl))
  f162 := Tryz.func175.trans (congrArg some (by kernel_rfl))
  f197 := Tryz.func234.trans (congrArg some (by kernel_rfl))
  f217 := Tryz.func280.trans (congrArg some (by kernel_rfl))
  f224 := Tryz.func269.trans (congrArg some (by kernel_rfl))
  f225 := Tryz.func270.trans (congrArg some (by kernel_rfl))
  f227 := Tryz.func205.trans (congrArg some (by kernel_rfl))
  f228 := Tryz.func233.trans (congrArg some (by kernel_rfl))
  f232 := Tryz.func208.trans (congrArg some (by kernel_rfl))
  f234 := Tryz.func209.trans (congrArg some (by kernel_rfl))
  f236 := Tryz.func210.trans (congrArg some (by kernel_rfl))
  f260 := Tryz.func252.trans (congrArg some (by kernel_rfl))
  f266 := Tryz.func281.trans (congrArg some (by kernel_rfl))
  f271 := Tryz.func236.trans (congrArg some (by kernel_rfl))
  t0 := Tryz.underlying0
  a0 := Tryz.isAgg0
  z0 := Tryz.sizeOf0
  v0 := Tryz.zeroValue0
  t3 := Tryz.underlying3
  a3 := Tryz.isAgg3
  z3 := Tryz.sizeOf3
  v3 := Tryz.zeroValue3
  t4 := Tryz.underlying4
  a4 := Tryz.isAgg4
  z4 := Tryz.sizeOf4
  v4 := Tryz.zeroValue4
  t5 := Tryz.underlying5
  a5 := Tryz.isAgg5
  z5 := Tryz.sizeOf5
  v5 := Tryz.zeroValue5
  t9 := Tryz.underlying9
  a9 := Tryz.isAgg9
  z9 := Tryz.sizeOf9
  v9 := Tryz.zeroValue9
  t21 := Tryz.underlying21
  a21 := Tryz.isAgg21
  z21 := Tryz.sizeOf21
  v21 := Tryz.zeroValue21
  t46 := Tryz.underlying46
  a46 := Tryz.isAgg46
  z46 := Tryz.sizeOf46
  v46 := Tryz.zeroValue46
  t105 := Tryz.underlying243
  a105 := Tryz.isAgg243
  z105 := Tryz.sizeOf243
  v105 := Tryz.zeroValue243
  t116 := Tryz.underlying217
  a116 := Tryz.isAgg217
  z116 := Tryz.sizeOf217
  t117 := Tryz.underlying218
  a117 := Tryz.isAgg218
  z117 := Tryz.sizeOf218
  v117 := Tryz.zeroValue218
  t119 := Tryz.underlying277
  a119 := Tryz.isAgg277
  z119 := Tryz.sizeOf277
  t124 := Tryz.underlying221
  a124 := Tryz.isAgg221
  z124 := Tryz.sizeOf221
  v124 := Tryz.zeroValue221
  t138 := Tryz.underlying279
  a138 := Tryz.isAgg279
  z138 := Tryz.sizeOf279
  v138 := Tryz.zeroValue279
  t139 := Tryz.underlying280
  a139 := Tryz.isAgg280
  z139 := Tryz.sizeOf280
  v139 := Tryz.zeroValue280
  g3 := by kernel_rfl
  g4 := by kernel_rfl }
open Go.RowKit in
/-- strings.TrimRight: "TrimRight returns a slice of the string s, with all trailing Unicode code points contained in cutset removed.": AT A cutset OF ONE ASCII BYTE. The world is as it was. (LAID: no walk: one application.) -/
theorem Tryz.strings_TrimRight_one (s : ByteArray) (c : UInt8) (hc : c.toNat < 128) (w : World) (hs : s.size ≤ 9223372036854775807) :
    Calls Tryz.prog 175 #[.string s, .string ⟨#[c]⟩] w fun e w' => e = .returned (.string ⟨(Lib.trimRightB s.data.toList c).toArray⟩) ∧ w' = w := Any.strings_TrimRight_one Tryz.lays162 s c hc w hs
def Tryz.lays160_ren : Go.Shelf.Ren := ⟨fun | 160 => 221 | 232 => 208 | 231 => 204 | 227 => 205 | 234 => 209 | 233 => 206 | 236 => 210 | 235 => 207 | 228 => 233 | 271 => 236 | 151 => 235 | 197 => 234 | 120 => 254 | 152 => 253 | 260 => 252 | 137 => 267 | 119 => 268 | 224 => 269 | 225 => 270 | 217 => 280 | 266 => 281 | n => n, fun | 9 => 9 | 4 => 4 | 3 => 3 | 5 => 5 | 117 => 218 | 116 => 217 | 0 => 0 | 124 => 221 | 21 => 21 | 105 => 243 | 46 => 46 | 119 => 277 | 139 => 280 | 138 => 279 | n => n, fun | 3 => 4 | 4 => 5 | n => n⟩
theorem Tryz.lays160 : Go.Proofs.Lays.n160 Tryz.prog Tryz.lays160_ren := {
  mixed := by kernel_rfl
  f119 := Tryz.func268.trans (congrArg some (by kernel_rfl))
  f120 := Tryz.func254.trans (congrArg some (by kernel_rfl))
  f137 := Tryz.func267.trans (congrArg some (by kernel_rfl))
  f151 := Tryz.func235.trans (congrArg some (by kernel_rfl))
  f152 := Tryz.func253.trans (congrArg some (by kernel_rfl))
  f160 := Tryz.func221.trans (congrArg some (by kernel_rfl))
  f197 := Tryz.func234.trans (congrArg some (by kernel_rfl))
  f217 := Tryz.func280.trans (congrArg some (by kernel_rfl))
  f224 := Tryz.func269.trans (congrArg some (by kernel_rfl))
  f225 := Tryz.func270.trans (congrArg some (by kernel_rfl))
  f227 := Tryz.func205.trans (congrArg some (by kernel_rfl))
  f228 := Tryz.func233.trans (congrArg some (by kernel_rfl))
  f231 := Tryz.func204.trans (congrArg some (by kernel_rfl))
  f232 := Tryz.func208.trans (congrArg some (by kernel_rfl))
  f233 := Tryz.func206.trans (congrArg some (by kernel_rfl))
  f234 := Tryz.func209.trans (congrArg some (by kernel_rfl))
  f235 := Tryz.func207.trans (congrArg some (by kernel_rfl))
  f236 := Tryz.func210.trans (congrArg some (by kernel_rfl))
  f260 := Tryz.func252.trans (congrArg some (by kernel_rfl))
  f266 := Tryz.func281.trans (congrArg some (by kernel_rfl))
  f271 := Tryz.func236.trans (congrArg some (by kernel_rfl))
  t0 := Tryz.underlying0
  a0 := Tryz.isAgg0
  z0 := Tryz.sizeOf0
  v0 := Tryz.zeroValue0
  t3 := Tryz.underlying3
  a3 := Tryz.isAgg3
  z3 := Tryz.sizeOf3
  v3 := Tryz.zeroValue3
  t4 := Tryz.underlying4
  a4 := Tryz.isAgg4
  z4 := Tryz.sizeOf4
  v4 := Tryz.zeroValue4
  t5 := Tryz.underlying5
  a5 := Tryz.isAgg5
  z5 := Tryz.sizeOf5
  v5 := Tryz.zeroValue5
  t9 := Tryz.underlying9
  a9 := Tryz.isAgg9
  z9 := Tryz.sizeOf9
  v9 := Tryz.zeroValue9
  t21 := Tryz.underlying21
  a21 := Tryz.isAgg21
  z21 := Tryz.sizeOf21
  v21 := Tryz.zeroValue21
  t46 := Tryz.underlying46
  a46 := Tryz.isAgg46
  z46 := Tryz.sizeOf46
  v46 := Tryz.zeroValue46
  t105 := Tryz.underlying243
  a105 := Tryz.isAgg243
  z105 := Tryz.sizeOf243
  v105 := Tryz.zeroValue243
  t116 := Tryz.underlying217
  a116 := Tryz.isAgg217
  z116 := Tryz.sizeOf217
  t117 := Tryz.underlying218
  a117 := Tryz.isAgg218
  z117 := Tryz.sizeOf218
  v117 := Tryz.zeroValue218
  t119 := Tryz.underlying277
  a119 := Tryz.isAgg277
  z119 := Tryz.sizeOf277
  t124 := Tryz.underlying221
  a124 := Tryz.isAgg221
  z124 := Tryz.sizeOf221
  v124 := Tryz.zeroValue221
  t138 := Tryz.underlying279
  a138 := Tryz.isAgg279
  z138 := Tryz.sizeOf279
  v138 := Tryz.zeroValue279
  t139 := Tryz.underlying280
  a139 := Tryz.isAgg280
  z139 := Tryz.sizeOf280
  v139 := Tryz.zeroValue280
  g3 := by kernel_rfl
  g4 := by kernel_rfl }
open Go.RowKit in
/-- strings.Trim: "Trim returns a slice of the string s with all leading and trailing Unicode code points contained in cutset removed.": AT A cutset OF ONE ASCII BYTE. THE WORLD BEHIND IT: as it was, or (where s is not empty) with ONE DRAW MORE off the tape: the statement 'return trimLeftByte(trimRightByte(s, c), c)' draws its order of evaluation. (LAID: no walk: one application.) -/
theorem Tryz.strings_Trim_one (s : ByteArray) (c : UInt8) (hc : c.toNat < 128) (w : World) (hs : s.size ≤ 9223372036854775807) :
    Calls Tryz.prog 221 #[.string s, .string ⟨#[c]⟩] w fun e w' => e = .returned (.string ⟨(Lib.trimB s.data.toList c).toArray⟩) ∧ (w' = w ∨ w' = w.drew) := Any.strings_Trim_one Tryz.lays160 s c hc w hs
def Tryz.lays128_ren : Go.Shelf.Ren := ⟨fun | 128 => 177 | n => n, fun | 51 => 72 | 3 => 3 | 4 => 4 | 46 => 46 | 5 => 5 | 9 => 9 | n => n, fun | n => n⟩
theorem Tryz.lays128 : Go.Proofs.Lays.n128 Tryz.prog Tryz.lays128_ren := {
  mixed := by kernel_rfl
  f128 := Tryz.func177.trans (congrArg some (by kernel_rfl))
  t3 := Tryz.underlying3
  a3 := Tryz.isAgg3
  z3 := Tryz.sizeOf3
  v3 := Tryz.zeroValue3
  t4 := Tryz.underlying4
  a4 := Tryz.isAgg4
  z4 := Tryz.sizeOf4
  v4 := Tryz.zeroValue4
  t5 := Tryz.underlying5
  a5 := Tryz.isAgg5
  z5 := Tryz.sizeOf5
  v5 := Tryz.zeroValue5
  t9 := Tryz.underlying9
  a9 := Tryz.isAgg9
  z9 := Tryz.sizeOf9
  v9 := Tryz.zeroValue9
  t46 := Tryz.underlying46
  a46 := Tryz.isAgg46
  z46 := Tryz.sizeOf46
  v46 := Tryz.zeroValue46
  t51 := Tryz.underlying72
  a51 := Tryz.isAgg72
  z51 := Tryz.sizeOf72
  v51 := Tryz.zeroValue72 }
/-- bits.Len32: "Len32 returns the minimum number of bits required to represent x; the result is 0 for x == 0.": IT RETURNS 'Lib.bitLen x'; the world is as it was. ('h0', 'h1': x is a uint32.) (LAID: no walk: one application.) -/
theorem Tryz.bits_Len32 (x : Int) (w : World) (h0 : 0 ≤ x) (h1 : x ≤ 4294967295) :
    Calls Tryz.prog 177 #[.int .u32 x] w fun e w' => e = .returned (.int .i64 (Lib.bitLen x.toNat)) ∧ w' = w := Any.bits_Len32 Tryz.lays128 x w h0 h1
def Tryz.lays133_ren : Go.Shelf.Ren := ⟨fun | 133 => 239 | 128 => 177 | n => n, fun | 51 => 72 | 3 => 3 | 4 => 4 | 46 => 46 | 5 => 5 | 9 => 9 | n => n, fun | n => n⟩
theorem Tryz.lays133 : Go.Proofs.Lays.n133 Tryz.prog Tryz.lays133_ren := {
  mixed := by kernel_rfl
  f128 := Tryz.func177.trans (congrArg some (by kernel_rfl))
  f133 := Tryz.func239.trans (congrArg some (by kernel_rfl))
  t3 := Tryz.underlying3
  a3 := Tryz.isAgg3
  z3 := Tryz.sizeOf3
  v3 := Tryz.zeroValue3
  t4 := Tryz.underlying4
  a4 := Tryz.isAgg4
  z4 := Tryz.sizeOf4
  v4 := Tryz.zeroValue4
  t5 := Tryz.underlying5
  a5 := Tryz.isAgg5
  z5 := Tryz.sizeOf5
  v5 := Tryz.zeroValue5
  t9 := Tryz.underlying9
  a9 := Tryz.isAgg9
  z9 := Tryz.sizeOf9
  v9 := Tryz.zeroValue9
  t46 := Tryz.underlying46
  a46 := Tryz.isAgg46
  z46 := Tryz.sizeOf46
  v46 := Tryz.zeroValue46
  t51 := Tryz.underlying72
  a51 := Tryz.isAgg72
  z51 := Tryz.sizeOf72
  v51 := Tryz.zeroValue72 }
/-- bits.LeadingZeros32: "LeadingZeros32 returns the number of leading zero bits in x; the result is 32 for x == 0.": IT RETURNS '32 - Lib.bitLen x'; the world is as it was. ITS CALLEE bits.Len32 IS MET BY ITS OWN CONTRACT OFF THE SHELF (lay that first): entered in place it sends the kernel out of memory. (LAID: no walk: one application.) -/
theorem Tryz.bits_LeadingZeros32 (x : Int) (w : World) (h0 : 0 ≤ x) (h1 : x ≤ 4294967295) :
    Calls Tryz.prog 239 #[.int .u32 x] w fun e w' => e = .returned (.int .i64 (32 - (Lib.bitLen x.toNat : Int))) ∧ w' = w := Any.bits_LeadingZeros32 Tryz.lays133 x w h0 h1
def Tryz.lays106_ren : Go.Shelf.Ren := ⟨fun | 106 => 149 | 213 => 180 | 265 => 211 | n => n, fun | 9 => 9 | 3 => 3 | n => n, fun | n => n⟩
theorem Tryz.lays106 : Go.Proofs.Lays.n106 Tryz.prog Tryz.lays106_ren := {
  mixed := by kernel_rfl
  f106 := Tryz.func149.trans (congrArg some (by kernel_rfl))
  f213 := Tryz.func180.trans (congrArg some (by kernel_rfl))
  f265 := Tryz.func211.trans (congrArg some (by kernel_rfl))
  t3 := Tryz.underlying3
  a3 := Tryz.isAgg3
  z3 := Tryz.sizeOf3
  v3 := Tryz.zeroValue3
  t9 := Tryz.underlying9
  a9 := Tryz.isAgg9
  z9 := Tryz.sizeOf9
  v9 := Tryz.zeroValue9 }
open Go.RowKit in
/-- strings.Compare: "Compare returns an integer comparing two strings lexicographically. The result will be 0 if a == b, -1 if a < b, and +1 if a > b.": IT RETURNS 'Lib.compareBytes a b'; the world is as it was. (LAID: no walk: one application.) -/
theorem Tryz.strings_Compare (a b : ByteArray) (w : World) :
    Calls Tryz.prog 149 #[.string a, .string b] w fun e w' => e = .returned (.int .i64 (Lib.compareBytes a.data.toList b.data.toList)) ∧ w' = w := Any.strings_Compare Tryz.lays106 a b w
def Tryz.lays103_ren : Go.Shelf.Ren := ⟨fun | 103 => 155 | 210 => 192 | 206 => 223 | n => n, fun | 9 => 9 | 4 => 4 | 24 => 170 | 3 => 3 | n => n, fun | n => n⟩
theorem Tryz.lays103 : Go.Proofs.Lays.n103 Tryz.prog Tryz.lays103_ren := {
  mixed := by kernel_rfl
  f103 := Tryz.func155.trans (congrArg some (by kernel_rfl))
  f206 := Tryz.func223.trans (congrArg some (by kernel_rfl))
  f210 := Tryz.func192.trans (congrArg some (by kernel_rfl))
  t3 := Tryz.underlying3
  a3 := Tryz.isAgg3
  z3 := Tryz.sizeOf3
  v3 := Tryz.zeroValue3
  t4 := Tryz.underlying4
  a4 := Tryz.isAgg4
  z4 := Tryz.sizeOf4
  v4 := Tryz.zeroValue4
  t9 := Tryz.underlying9
  a9 := Tryz.isAgg9
  z9 := Tryz.sizeOf9
  v9 := Tryz.zeroValue9
  t24 := Tryz.underlying170
  a24 := Tryz.isAgg170
  z24 := Tryz.sizeOf170
  v24 := Tryz.zeroValue170 }
open Go.RowKit in
/-- strings.CutPrefix: "CutPrefix returns s without the provided leading prefix string and reports whether it found the prefix. If s doesn't start with prefix, CutPrefix returns s, false. If prefix is the empty string, CutPrefix returns s, true.": IT RETURNS '(Lib.trimPrefix s p, Lib.hasPrefix s p)'; the world is as it was. (LAID: no walk: one application.) -/
theorem Tryz.strings_CutPrefix (s p : ByteArray) (w : World) :
    Calls Tryz.prog 155 #[.string s, .string p] w fun e w' => e = .returned (.tuple #[.string ⟨(Lib.trimPrefix s.data.toList p.data.toList).toArray⟩, .bool (Lib.hasPrefix s.data.toList p.data.toList)]) ∧ w' = w := Any.strings_CutPrefix Tryz.lays103 s p w
def Tryz.lays122_ren : Go.Shelf.Ren := ⟨fun | 122 => 99 | 215 => 147 | n => n, fun | 3 => 3 | 4 => 4 | n => n, fun | n => n⟩
theorem Tryz.lays122 : Go.Proofs.Lays.n122 Tryz.prog Tryz.lays122_ren := {
  mixed := by kernel_rfl
  f122 := Tryz.func99.trans (congrArg some (by kernel_rfl))
  f215 := Tryz.func147.trans (congrArg some (by kernel_rfl))
  t3 := Tryz.underlying3
  a3 := Tryz.isAgg3
  z3 := Tryz.sizeOf3
  v3 := Tryz.zeroValue3
  t4 := Tryz.underlying4
  a4 := Tryz.isAgg4
  z4 := Tryz.sizeOf4
  v4 := Tryz.zeroValue4 }
open Go.RowKit in
/-- cmp.Compare at int: "Compare returns -1 if x is less than y, 0 if x equals y, +1 if x is greater than y.": IT RETURNS 'Lib.compareInt x y'; the world is as it was. (LAID: no walk: one application.) -/
theorem Tryz.cmp_Compare_int (x y : Int) (w : World) :
    Calls Tryz.prog 99 #[.int .i64 x, .int .i64 y] w fun e w' => e = .returned (.int .i64 (Lib.compareInt x y)) ∧ w' = w := Any.cmp_Compare_int Tryz.lays122 x y w
def Tryz.lays129_ren : Go.Shelf.Ren := ⟨fun | 129 => 164 | n => n, fun | 53 => 22 | 3 => 3 | 4 => 4 | 46 => 46 | 5 => 5 | 9 => 9 | n => n, fun | n => n⟩
theorem Tryz.lays129 : Go.Proofs.Lays.n129 Tryz.prog Tryz.lays129_ren := {
  mixed := by kernel_rfl
  f129 := Tryz.func164.trans (congrArg some (by kernel_rfl))
  t3 := Tryz.underlying3
  a3 := Tryz.isAgg3
  z3 := Tryz.sizeOf3
  v3 := Tryz.zeroValue3
  t4 := Tryz.underlying4
  a4 := Tryz.isAgg4
  z4 := Tryz.sizeOf4
  v4 := Tryz.zeroValue4
  t5 := Tryz.underlying5
  a5 := Tryz.isAgg5
  z5 := Tryz.sizeOf5
  v5 := Tryz.zeroValue5
  t9 := Tryz.underlying9
  a9 := Tryz.isAgg9
  z9 := Tryz.sizeOf9
  v9 := Tryz.zeroValue9
  t46 := Tryz.underlying46
  a46 := Tryz.isAgg46
  z46 := Tryz.sizeOf46
  v46 := Tryz.zeroValue46
  t53 := Tryz.underlying22
  a53 := Tryz.isAgg22
  z53 := Tryz.sizeOf22
  v53 := Tryz.zeroValue22 }
/-- bits.Len64: "Len64 returns the minimum number of bits required to represent x; the result is 0 for x == 0.": IT RETURNS 'Lib.bitLen x'; the world is as it was. ('h0', 'h1': x is a uint64.) (LAID: no walk: one application.) -/
theorem Tryz.bits_Len64 (x : Int) (w : World) (h0 : 0 ≤ x) (h1 : x ≤ 18446744073709551615) :
    Calls Tryz.prog 164 #[.int .u64 x] w fun e w' => e = .returned (.int .i64 (Lib.bitLen x.toNat)) ∧ w' = w := Any.bits_Len64 Tryz.lays129 x w h0 h1
def Tryz.laysM171_ren : Go.Shelf.Ren := ⟨fun | 171 => 172 | 243 => 203 | 246 => 232 | 283 => 248 | 284 => 249 | 285 => 250 | 286 => 251 | 129 => 164 | 317 => 263 | 318 => 264 | 319 => 265 | 320 => 266 | 337 => 278 | 338 => 279 | n => n, fun | 3 => 3 | 9 => 9 | 2 => 2 | 4 => 4 | 171 => 258 | 0 => 0 | 53 => 22 | 37 => 106 | 5 => 5 | 173 => 260 | 212 => 274 | 51 => 72 | 20 => 20 | 213 => 275 | 46 => 46 | 232 => 286 | 233 => 287 | n => n, fun | 17 => 3 | 18 => 6 | 19 => 7 | n => n⟩
theorem Tryz.laysM171 : Go.Proofs.LaysM.n171 Tryz.prog Tryz.laysM171_ren := {
  mixed := by kernel_rfl
  f129 := Tryz.func164.trans (congrArg some (by kernel_rfl))
  f171 := Tryz.func172.trans (congrArg some (by kernel_rfl))
  f243 := Tryz.func203.trans (congrArg some (by kernel_rfl))
  f246 := Tryz.func232.trans (congrArg some (by kernel_rfl))
  f283 := Tryz.func248.trans (congrArg some (by kernel_rfl))
  f284 := Tryz.func249.trans (congrArg some (by kernel_rfl))
  f285 := Tryz.func250.trans (congrArg some (by kernel_rfl))
  f286 := Tryz.func251.trans (congrArg some (by kernel_rfl))
  f317 := Tryz.func263.trans (congrArg some (by kernel_rfl))
  f318 := Tryz.func264.trans (congrArg some (by kernel_rfl))
  f319 := Tryz.func265.trans (congrArg some (by kernel_rfl))
  f320 := Tryz.func266.trans (congrArg some (by kernel_rfl))
  f337 := Tryz.func278.trans (congrArg some (by kernel_rfl))
  f338 := Tryz.func279.trans (congrArg some (by kernel_rfl))
  t0 := Tryz.underlying0
  a0 := Tryz.isAgg0
  z0 := Tryz.sizeOf0
  v0 := Tryz.zeroValue0
  t2 := Tryz.underlying2
  a2 := Tryz.isAgg2
  z2 := Tryz.sizeOf2
  v2 := Tryz.zeroValue2
  t3 := Tryz.underlying3
  a3 := Tryz.isAgg3
  z3 := Tryz.sizeOf3
  v3 := Tryz.zeroValue3
  t4 := Tryz.underlying4
  a4 := Tryz.isAgg4
  z4 := Tryz.sizeOf4
  v4 := Tryz.zeroValue4
  t5 := Tryz.underlying5
  a5 := Tryz.isAgg5
  z5 := Tryz.sizeOf5
  v5 := Tryz.zeroValue5
  t9 := Tryz.underlying9
  a9 := Tryz.isAgg9
  z9 := Tryz.sizeOf9
  v9 := Tryz.zeroValue9
  t20 := Tryz.underlying20
  a20 := Tryz.isAgg20
  z20 := Tryz.sizeOf20
  v20 := Tryz.zeroValue20
  t37 := Tryz.underlying106
  a37 := Tryz.isAgg106
  z37 := Tryz.sizeOf106
  v37 := Tryz.zeroValue106
  t46 := Tryz.underlying46
  a46 := Tryz.isAgg46
  z46 := Tryz.sizeOf46
  v46 := Tryz.zeroValue46
  t51 := Tryz.underlying72
  a51 := Tryz.isAgg72
  z51 := Tryz.sizeOf72
  v51 := Tryz.zeroValue72
  t53 := Tryz.underlying22
  a53 := Tryz.isAgg22
  z53 := Tryz.sizeOf22
  v53 := Tryz.zeroValue22
  t171 := Tryz.underlying258
  a171 := Tryz.isAgg258
  z171 := Tryz.sizeOf258
  v171 := Tryz.zeroValue258
  t173 := Tryz.underlying260
  a173 := Tryz.isAgg260
  z173 := Tryz.sizeOf260
  v173 := Tryz.zeroValue260
  t212 := Tryz.underlying274
  a212 := Tryz.isAgg274
  z212 := Tryz.sizeOf274
  v212 := Tryz.zeroValue274
  t213 := Tryz.underlying275
  a213 := Tryz.isAgg275
  z213 := Tryz.sizeOf275
  t232 := Tryz.underlying286
  a232 := Tryz.isAgg286
  z232 := Tryz.sizeOf286
  v232 := Tryz.zeroValue286
  t233 := Tryz.underlying287
  a233 := Tryz.isAgg287
  z233 := Tryz.sizeOf287
  v233 := Tryz.zeroValue287
  g17 := by kernel_rfl
  g18 := by kernel_rfl
  g19 := by kernel_rfl
  i0 := by kernel_rfl
  i2 := by kernel_rfl
  i3 := by kernel_rfl
  i4 := by kernel_rfl
  i5 := by kernel_rfl
  i9 := by kernel_rfl
  i20 := by kernel_rfl
  i37 := by kernel_rfl
  i46 := by kernel_rfl
  i51 := by kernel_rfl
  i53 := by kernel_rfl
  i171 := by kernel_rfl
  i173 := by kernel_rfl
  i212 := by kernel_rfl
  i232 := by kernel_rfl
  i233 := by kernel_rfl
  m17 := by kernel_rfl
  m18 := by kernel_rfl
  m19 := by kernel_rfl }
open Go.RowKit Go.Sort Go.Lib in
/-- strconv.Itoa: "Itoa is equivalent to FormatInt(int64(i), 10).": i's DECIMAL NUMERAL ('Lib.itoa': a '-' where i is negative, then the digits), FOR EVERY int. The world behind the call: the world before it, new blocks behind the heap (the library's 'var a [24]byte'), draws. (LAID: no walk: one application.) -/
theorem Tryz.strconv_Itoa (n : Int) (h0 : -9223372036854775808 ≤ n) (h1 : n ≤ 9223372036854775807) (w : World) (htab : Lib.TabIs Tryz.prog w "internal/strconv.uint64pow10" .u64 Lib.pow10Tab) :
    Calls Tryz.prog 172 #[.int .i64 n] w fun e w' => e = .returned (.string ⟨(Lib.itoa n).toArray⟩) ∧ ∃ k os, w' = grow (w.drewN k) os := Any.strconv_Itoa Tryz.laysM171 n h0 h1 w htab
def Tryz.laysC172_ren : Go.Shelf.Ren := ⟨fun | 172 => 157 | 244 => 193 | 245 => 182 | 247 => 224 | 279 => 214 | 280 => 215 | 281 => 216 | 282 => 217 | 287 => 181 | 316 => 237 | 171 => 172 | 205 => 238 | 321 => 212 | 322 => 213 | 243 => 203 | 246 => 232 | 283 => 248 | 284 => 249 | 285 => 250 | 286 => 251 | 129 => 164 | 317 => 263 | 318 => 264 | 319 => 265 | 320 => 266 | 337 => 278 | 338 => 279 | n => n, fun | 9 => 9 | 3 => 3 | 75 => 164 | 76 => 174 | 4 => 4 | 5 => 5 | 167 => 222 | 37 => 106 | 0 => 0 | 85 => 234 | 2 => 2 | 168 => 224 | 53 => 22 | 175 => 165 | 46 => 46 | 210 => 247 | 127 => 241 | 145 => 265 | 143 => 263 | 21 => 21 | 171 => 258 | 173 => 260 | 212 => 274 | 51 => 72 | 20 => 20 | 213 => 275 | 232 => 286 | 233 => 287 | 80 => 214 | n => n, fun | 15 => 1 | 16 => 2 | 17 => 3 | 18 => 6 | 19 => 7 | n => n⟩
theorem Tryz.laysC172 : Go.Proofs.LaysC.n172 Tryz.prog Tryz.laysC172_ren := {
  mixed := by kernel_rfl
  f129 := Tryz.func164.trans (congrArg some (by kernel_rfl))
  f171 := Tryz.func172.trans (congrArg some (by kernel_rfl))
  f172 := Tryz.func157.trans (congrArg some (by kernel_rfl))
  f205 := Tryz.func238.trans (congrArg some (by kernel_rfl))
  f243 := Tryz.func203.trans (congrArg some (by kernel_rfl))
  f244 := Tryz.func193.trans (congrArg some (by kernel_rfl))
  f245 := Tryz.func182.trans (congrArg some (by kernel_rfl))
  f246 := Tryz.func232.trans (congrArg some (by kernel_rfl))
  f247 := Tryz.func224.trans (congrArg some (by kernel_rfl))
  f279 := Tryz.func214.trans (congrArg some (by kernel_rfl))
  f280 := Tryz.func215.trans (congrArg some (by kernel_rfl))
  f281 := Tryz.func216.trans (congrArg some (by kernel_rfl))
  f282 := Tryz.func217.trans (congrArg some (by kernel_rfl))
  f283 := Tryz.func248.trans (congrArg some (by kernel_rfl))
  f284 := Tryz.func249.trans (congrArg some (by kernel_rfl))
  f285 := Tryz.func250.trans (congrArg some (by kernel_rfl))
  f286 := Tryz.func251.trans (congrArg some (by kernel_rfl))
  f287 := Tryz.func181.trans (congrArg some (by kernel_rfl))
  f316 := Tryz.func237.trans (congrArg some (by kernel_rfl))
  f317 := Tryz.func263.trans (congrArg some (by kernel_rfl))
  f318 := Tryz.func264.trans (congrArg some (by kernel_rfl))
  f319 := Tryz.func265.trans (congrArg some (by kernel_rfl))
  f320 := Tryz.func266.trans (congrArg some (by kernel_rfl))
  f321 := Tryz.func212.trans (congrArg some (by kernel_rfl))
  f322 := Tryz.func213.trans (congrArg some (by kernel_rfl))
  f337 := Tryz.func278.trans (congrArg some (by kernel_rfl))
  f338 := Tryz.func279.trans (congrArg some (by kernel_rfl))
  t0 := Tryz.underlying0
  a0 := Tryz.isAgg0
  z0 := Tryz.sizeOf0
  v0 := Tryz.zeroValue0
  t2 := Tryz.underlying2
  a2 := Tryz.isAgg2
  z2 := Tryz.sizeOf2
  v2 := Tryz.zeroValue2
  t3 := Tryz.underlying3
  a3 := Tryz.isAgg3
  z3 := Tryz.sizeOf3
  v3 := Tryz.zeroValue3
  t4 := Tryz.underlying4
  a4 := Tryz.isAgg4
  z4 := Tryz.sizeOf4
  v4 := Tryz.zeroValue4
  t5 := Tryz.underlying5
  a5 := Tryz.isAgg5
  z5 := Tryz.sizeOf5
  v5 := Tryz.zeroValue5
  t9 := Tryz.underlying9
  a9 := Tryz.isAgg9
  z9 := Tryz.sizeOf9
  v9 := Tryz.zeroValue9
  t20 := Tryz.underlying20
  a20 := Tryz.isAgg20
  z20 := Tryz.sizeOf20
  v20 := Tryz.zeroValue20
  t21 := Tryz.underlying21
  a21 := Tryz.isAgg21
  z21 := Tryz.sizeOf21
  v21 := Tryz.zeroValue21
  t37 := Tryz.underlying106
  a37 := Tryz.isAgg106
  z37 := Tryz.sizeOf106
  v37 := Tryz.zeroValue106
  t46 := Tryz.underlying46
  a46 := Tryz.isAgg46
  z46 := Tryz.sizeOf46
  v46 := Tryz.zeroValue46
  t51 := Tryz.underlying72
  a51 := Tryz.isAgg72
  z51 := Tryz.sizeOf72
  v51 := Tryz.zeroValue72
  t53 := Tryz.underlying22
  a53 := Tryz.isAgg22
  z53 := Tryz.sizeOf22
  v53 := Tryz.zeroValue22
  t75 := Tryz.underlying164
  a75 := Tryz.isAgg164
  z75 := Tryz.sizeOf164
  v75 := Tryz.zeroValue164
  t76 := Tryz.underlying174
  a76 := Tryz.isAgg174
  z76 := Tryz.sizeOf174
  v76 := Tryz.zeroValue174
  t85 := Tryz.underlying234
  a85 := Tryz.isAgg234
  z85 := Tryz.sizeOf234
  v85 := Tryz.zeroValue234
  t127 := Tryz.underlying241
  a127 := Tryz.isAgg241
  z127 := Tryz.sizeOf241
  v127 := Tryz.zeroValue241
  t143 := Tryz.underlying263
  a143 := Tryz.isAgg263
  z143 := Tryz.sizeOf263
  v143 := Tryz.zeroValue263
  t145 := Tryz.underlying265
  a145 := Tryz.isAgg265
  z145 := Tryz.sizeOf265
  v145 := Tryz.zeroValue265
  t167 := Tryz.underlying222
  a167 := Tryz.isAgg222
  z167 := Tryz.sizeOf222
  v167 := Tryz.zeroValue222
  t168 := Tryz.underlying224
  a168 := Tryz.isAgg224
  z168 := Tryz.sizeOf224
  v168 := Tryz.zeroValue224
  t171 := Tryz.underlying258
  a171 := Tryz.isAgg258
  z171 := Tryz.sizeOf258
  v171 := Tryz.zeroValue258
  t173 := Tryz.underlying260
  a173 := Tryz.isAgg260
  z173 := Tryz.sizeOf260
  v173 := Tryz.zeroValue260
  t175 := Tryz.underlying165
  a175 := Tryz.isAgg165
  z175 := Tryz.sizeOf165
  v175 := Tryz.zeroValue165
  t210 := Tryz.underlying247
  a210 := Tryz.isAgg247
  z210 := Tryz.sizeOf247
  v210 := Tryz.zeroValue247
  t212 := Tryz.underlying274
  a212 := Tryz.isAgg274
  z212 := Tryz.sizeOf274
  v212 := Tryz.zeroValue274
  t213 := Tryz.underlying275
  a213 := Tryz.isAgg275
  z213 := Tryz.sizeOf275
  t232 := Tryz.underlying286
  a232 := Tryz.isAgg286
  z232 := Tryz.sizeOf286
  v232 := Tryz.zeroValue286
  t233 := Tryz.underlying287
  a233 := Tryz.isAgg287
  z233 := Tryz.sizeOf287
  v233 := Tryz.zeroValue287
  g15 := by kernel_rfl
  g16 := by kernel_rfl
  g17 := by kernel_rfl
  g18 := by kernel_rfl
  g19 := by kernel_rfl
  t80 := Tryz.underlying214
  a80 := Tryz.isAgg214
  z80 := Tryz.sizeOf214
  v80 := Tryz.zeroValue214
  i0 := by kernel_rfl
  i2 := by kernel_rfl
  i3 := by kernel_rfl
  i4 := by kernel_rfl
  i5 := by kernel_rfl
  i9 := by kernel_rfl
  i20 := by kernel_rfl
  i21 := by kernel_rfl
  i37 := by kernel_rfl
  i46 := by kernel_rfl
  i51 := by kernel_rfl
  i53 := by kernel_rfl
  i75 := by kernel_rfl
  i76 := by kernel_rfl
  i80 := by kernel_rfl
  i85 := by kernel_rfl
  i127 := by kernel_rfl
  i143 := by kernel_rfl
  i145 := by kernel_rfl
  i167 := by kernel_rfl
  i168 := by kernel_rfl
  i171 := by kernel_rfl
  i173 := by kernel_rfl
  i175 := by kernel_rfl
  i210 := by kernel_rfl
  i212 := by kernel_rfl
  i232 := by kernel_rfl
  i233 := by kernel_rfl
  m15 := by kernel_rfl
  m16 := by kernel_rfl
  m17 := by kernel_rfl
  m18 := by kernel_rfl
  m19 := by kernel_rfl
  c0 := by kernel_rfl
  c2 := by kernel_rfl
  c3 := by kernel_rfl
  c4 := by kernel_rfl
  c5 := by kernel_rfl
  c9 := by kernel_rfl
  c20 := by kernel_rfl
  c21 := by kernel_rfl
  c37 := by kernel_rfl
  c46 := by kernel_rfl
  c51 := by kernel_rfl
  c53 := by kernel_rfl
  c75 := by kernel_rfl
  c76 := by kernel_rfl
  c80 := by kernel_rfl
  c85 := by kernel_rfl
  c127 := by kernel_rfl
  c143 := by kernel_rfl
  c145 := by kernel_rfl
  c167 := by kernel_rfl
  c168 := by kernel_rfl
  c171 := by kernel_rfl
  c173 := by kernel_rfl
  c175 := by kernel_rfl
  c210 := by kernel_rfl
  c212 := by kernel_rfl
  c213 := by kernel_rfl
  c232 := by kernel_rfl
  c233 := by kernel_rfl }
open Go.RowKit in
/-- strconv.Atoi, AT EVERY STRING THAT SPELLS AN int ('Lib.atoiAll .. = .ok v'; of whatever length: leading zeros count): v, AND NO ERROR. The world: as it was, or with the one new row that '[]byte(..)' lays. (LAID: no walk: one application.) -/
theorem Tryz.strconv_Atoi_ok (s : ByteArray) (hmax : s.size ≤ 9223372036854775806) (v : Int) (h : Lib.atoiAll s.data.toList = .ok v) (w : World) :
    Calls Tryz.prog 157 #[.string s] w fun e w' => e = .returned (.tuple #[.int .i64 v, .nilIface]) ∧ (w' = w ∨ ∃ t, w' = Lib.bytesWorld w 5 t) := Any.strconv_Atoi_ok Tryz.laysC172 s hmax v h w
def Tryz.laysPu14_ren : Go.Shelf.Ren := ⟨fun | 14 => 150 | 16 => 181 | 17 => 182 | 19 => 212 | 20 => 213 | 21 => 214 | 22 => 215 | 23 => 216 | 24 => 217 | 25 => 237 | 27 => 172 | 26 => 238 | 28 => 203 | 29 => 232 | 30 => 248 | 31 => 249 | 32 => 250 | 33 => 251 | 35 => 164 | 34 => 263 | 36 => 264 | 37 => 265 | 38 => 266 | 39 => 278 | 40 => 279 | n => n, fun | 9 => 9 | 3 => 3 | 22 => 22 | 24 => 164 | 25 => 165 | 4 => 4 | 34 => 222 | 5 => 5 | 36 => 46 | 37 => 106 | 0 => 0 | 39 => 224 | 21 => 21 | 44 => 247 | 47 => 241 | 50 => 265 | 48 => 263 | 2 => 2 | 52 => 258 | 55 => 260 | 59 => 274 | 60 => 72 | 20 => 20 | 61 => 275 | 65 => 286 | 66 => 287 | 67 => 214 | n => n, fun | 0 => 1 | 1 => 2 | 2 => 3 | 3 => 6 | 4 => 7 | n => n⟩
theorem Tryz.laysPu14 : Go.Proofs.LaysPu.n14 Tryz.prog Tryz.laysPu14_ren := {
  mixed := by kernel_rfl
  f14 := Tryz.func150.trans (congrArg some (by kernel_rfl))
  f16 := Tryz.func181.trans (congrArg some (by kernel_rfl))
  f17 := Tryz.func182.trans (congrArg some (by kernel_rfl))
  f19 := Tryz.func212.trans (congrArg some (by kernel_rfl))
  f20 := Tryz.func213.trans (congrArg some (by kernel_rfl))
  f21 := Tryz.func214.trans (congrArg some (by kernel_rfl))
  f22 := Tryz.func215.trans (congrArg some (by kernel_rfl))
  f23 := Tryz.func216.trans (congrArg some (by kernel_rfl))
  f24 := Tryz.func217.trans (congrArg some (by kernel_rfl))
  f25 := Tryz.func237.trans (congrArg some (by kernel_rfl))
  f26 := Tryz.func238.trans (congrArg some (by kernel_rfl))
  f27 := Tryz.func172.trans (congrArg some (by kernel_rfl))
  f28 := Tryz.func203.trans (congrArg some (by kernel_rfl))
  f29 := Tryz.func232.trans (congrArg some (by kernel_rfl))
  f30 := Tryz.func248.trans (congrArg some (by kernel_rfl))
  f31 := Tryz.func249.trans (congrArg some (by kernel_rfl))
  f32 := Tryz.func250.trans (congrArg some (by kernel_rfl))
  f33 := Tryz.func251.trans (congrArg some (by kernel_rfl))
  f34 := Tryz.func263.trans (congrArg some (by kernel_rfl))
  f35 := Tryz.func164.trans (congrArg some (by kernel_rfl))
  f36 := Tryz.func264.trans (congrArg some (by kernel_rfl))
  f37 := Tryz.func265.trans (congrArg some (by kernel_rfl))
  f38 := Tryz.func266.trans (congrArg some (by kernel_rfl))
  f39 := Tryz.func278.trans (congrArg some (by kernel_rfl))
  f40 := Tryz.func279.trans (congrArg some (by kernel_rfl))
  t0 := Tryz.underlying0
  a0 := Tryz.isAgg0
  z0 := Tryz.sizeOf0
  v0 := Tryz.zeroValue0
  i0 := by kernel_rfl
  t2 := Tryz.underlying2
  a2 := Tryz.isAgg2
  z2 := Tryz.sizeOf2
  v2 := Tryz.zeroValue2
  i2 := by kernel_rfl
  t3 := Tryz.underlying3
  a3 := Tryz.isAgg3
  z3 := Tryz.sizeOf3
  v3 := Tryz.zeroValue3
  i3 := by kernel_rfl
  t4 := Tryz.underlying4
  a4 := Tryz.isAgg4
  z4 := Tryz.sizeOf4
  v4 := Tryz.zeroValue4
  i4 := by kernel_rfl
  t5 := Tryz.underlying5
  a5 := Tryz.isAgg5
  z5 := Tryz.sizeOf5
  v5 := Tryz.zeroValue5
  i5 := by kernel_rfl
  t9 := Tryz.underlying9
  a9 := Tryz.isAgg9
  z9 := Tryz.sizeOf9
  v9 := Tryz.zeroValue9
  i9 := by kernel_rfl
  t20 := Tryz.underlying20
  a20 := Tryz.isAgg20
  z20 := Tryz.sizeOf20
  v20 := Tryz.zeroValue20
  i20 := by kernel_rfl
  t21 := Tryz.underlying21
  a21 := Tryz.isAgg21
  z21 := Tryz.sizeOf21
  v21 := Tryz.zeroValue21
  i21 := by kernel_rfl
  t22 := Tryz.underlying22
  a22 := Tryz.isAgg22
  z22 := Tryz.sizeOf22
  v22 := Tryz.zeroValue22
  i22 := by kernel_rfl
  t24 := Tryz.underlying164
  a24 := Tryz.isAgg164
  z24 := Tryz.sizeOf164
  v24 := Tryz.zeroValue164
  i24 := by kernel_rfl
  t25 := Tryz.underlying165
  a25 := Tryz.isAgg165
  z25 := Tryz.sizeOf165
  v25 := Tryz.zeroValue165
  i25 := by kernel_rfl
  t34 := Tryz.underlying222
  a34 := Tryz.isAgg222
  z34 := Tryz.sizeOf222
  v34 := Tryz.zeroValue222
  i34 := by kernel_rfl
  c34 := by kernel_rfl
  t36 := Tryz.underlying46
  a36 := Tryz.isAgg46
  z36 := Tryz.sizeOf46
  v36 := Tryz.zeroValue46
  i36 := by kernel_rfl
  t37 := Tryz.underlying106
  a37 := Tryz.isAgg106
  z37 := Tryz.sizeOf106
  v37 := Tryz.zeroValue106
  i37 := by kernel_rfl
  t39 := Tryz.underlying224
  a39 := Tryz.isAgg224
  z39 := Tryz.sizeOf224
  v39 := Tryz.zeroValue224
  i39 := by kernel_rfl
  t44 := Tryz.underlying247
  a44 := Tryz.isAgg247
  z44 := Tryz.sizeOf247
  v44 := Tryz.zeroValue247
  i44 := by kernel_rfl
  t47 := Tryz.underlying241
  a47 := Tryz.isAgg241
  z47 := Tryz.sizeOf241
  v47 := Tryz.zeroValue241
  i47 := by kernel_rfl
  t48 := Tryz.underlying263
  a48 := Tryz.isAgg263
  z48 := Tryz.sizeOf263
  v48 := Tryz.zeroValue263
  i48 := by kernel_rfl
  t50 := Tryz.underlying265
  a50 := Tryz.isAgg265
  z50 := Tryz.sizeOf265
  v50 := Tryz.zeroValue265
  i50 := by kernel_rfl
  t52 := Tryz.underlying258
  a52 := Tryz.isAgg258
  z52 := Tryz.sizeOf258
  v52 := Tryz.zeroValue258
  i52 := by kernel_rfl
  t55 := Tryz.underlying260
  a55 := Tryz.isAgg260
  z55 := Tryz.sizeOf260
  v55 := Tryz.zeroValue260
  i55 := by kernel_rfl
  t59 := Tryz.underlying274
  a59 := Tryz.isAgg274
  z59 := Tryz.sizeOf274
  v59 := Tryz.zeroValue274
  i59 := by kernel_rfl
  t60 := Tryz.underlying72
  a60 := Tryz.isAgg72
  z60 := Tryz.sizeOf72
  v60 := Tryz.zeroValue72
  i60 := by kernel_rfl
  t61 := Tryz.underlying275
  a61 := Tryz.isAgg275
  z61 := Tryz.sizeOf275
  t65 := Tryz.underlying286
  a65 := Tryz.isAgg286
  z65 := Tryz.sizeOf286
  v65 := Tryz.zeroValue286
  i65 := by kernel_rfl
  t66 := Tryz.underlying287
  a66 := Tryz.isAgg287
  z66 := Tryz.sizeOf287
  v66 := Tryz.zeroValue287
  i66 := by kernel_rfl
  t67 := Tryz.underlying214
  a67 := Tryz.isAgg214
  z67 := Tryz.sizeOf214
  v67 := Tryz.zeroValue214
  i67 := by kernel_rfl
  g0 := by kernel_rfl
  m0 := by kernel_rfl
  g1 := by kernel_rfl
  m1 := by kernel_rfl
  g2 := by kernel_rfl
  m2 := by kernel_rfl
  g3 := by kernel_rfl
  m3 := by kernel_rfl
  g4 := by kernel_rfl
  m4 := by kernel_rfl }
open Go.RowKit in
/-- strconv.ParseUint(s, 10, 64), AT EVERY STRING THAT SPELLS A uint64 ('Lib.parseUintB 64 s.data.toList = .ok u'): u, AND NO ERROR. (LAID: no walk: one application.) -/
theorem Tryz.strconv_ParseUint_10_at64_ok (s : ByteArray) (hmax : s.size ≤ 9223372036854775806) (u : Nat) (h : Lib.parseUintB 64 s.data.toList = .ok u) (w : World) :
    Calls Tryz.prog 150 #[.string s, .int .i64 10, .int .i64 64] w fun e w' => e = .returned (.tuple #[.int .u64 u, .nilIface]) ∧ (w' = w ∨ w' = Lib.bytesWorld w 5 s) := Any.strconv_ParseUint_10_at64_ok Tryz.laysPu14 s hmax u h w
def Tryz.lays100_ren : Go.Shelf.Ren := ⟨fun | 100 => 74 | 207 => 136 | n => n, fun | 9 => 9 | 4 => 4 | 3 => 3 | n => n, fun | n => n⟩
theorem Tryz.lays100 : Go.Proofs.Lays.n100 Tryz.prog Tryz.lays100_ren := {
  mixed := by kernel_rfl
  f100 := Tryz.func74.trans (congrArg some (by kernel_rfl))
  f207 := Tryz.func136.trans (congrArg some (by kernel_rfl))
  t3 := Tryz.underlying3
  a3 := Tryz.isAgg3
  z3 := Tryz.sizeOf3
  v3 := Tryz.zeroValue3
  t4 := Tryz.underlying4
  a4 := Tryz.isAgg4
  z4 := Tryz.sizeOf4
  v4 := Tryz.zeroValue4
  t9 := Tryz.underlying9
  a9 := Tryz.isAgg9
  z9 := Tryz.sizeOf9
  v9 := Tryz.zeroValue9 }
open Go.RowKit Go.Lib in
/-- strings.HasSuffix: "HasSuffix reports whether the string s ends with suffix.": IT RETURNS 'Lib.hasSuffix s suffix'; the world is as it was. ('hs': no Go string is longer: a caller has it of every string that it was handed.) (LAID: no walk: one application.) -/
theorem Tryz.strings_HasSuffix (s p : ByteArray) (w : World) (hs : s.size ≤ 9223372036854775807) :
    Calls Tryz.prog 74 #[.string s, .string p] w fun e w' => e = .returned (.bool (Lib.hasSuffix s.data.toList p.data.toList)) ∧ w' = w := Any.strings_HasSuffix Tryz.lays100 s p w hs
def Tryz.lays264_ren : Go.Shelf.Ren := ⟨fun | 264 => 219 | n => n, fun | 53 => 22 | 46 => 46 | n => n, fun | n => n⟩
theorem Tryz.lays264 : Go.Proofs.Lays.n264 Tryz.prog Tryz.lays264_ren := {
  mixed := by kernel_rfl
  f264 := Tryz.func219.trans (congrArg some (by kernel_rfl))
  t46 := Tryz.underlying46
  a46 := Tryz.isAgg46
  z46 := Tryz.sizeOf46
  v46 := Tryz.zeroValue46
  t53 := Tryz.underlying22
  a53 := Tryz.isAgg22
  z53 := Tryz.sizeOf22
  v53 := Tryz.zeroValue22 }
open Go.RowKit Go.Lib in
theorem Tryz.bits_Mul64 (x y : Nat) (hx : x < 18446744073709551616) (hy : y < 18446744073709551616) (w : World) :
    Calls Tryz.prog 219 #[.int .u64 x, .int .u64 y] w fun e w' => e = .returned (.tuple #[.int .u64 ((x * y / 18446744073709551616 : Nat) : Int), .int .u64 ((x * y % 18446744073709551616 : Nat) : Int)]) ∧ w' = w := Any.bits_Mul64 Tryz.lays264 x y hx hy w
def Tryz.lays105_ren : Go.Shelf.Ren := ⟨fun | 105 => 171 | 212 => 197 | 99 => 198 | 165 => 199 | 166 => 200 | 170 => 201 | 169 => 202 | 263 => 229 | 264 => 219 | 206 => 223 | 240 => 230 | 241 => 231 | 276 => 246 | 277 => 247 | n => n, fun | 9 => 9 | 3 => 3 | 4 => 4 | 20 => 20 | 0 => 0 | 46 => 46 | 109 => 207 | 5 => 5 | 72 => 211 | 76 => 174 | 51 => 72 | 146 => 158 | 53 => 22 | 148 => 229 | 70 => 209 | 37 => 106 | 75 => 164 | 127 => 241 | 164 => 255 | 80 => 214 | n => n, fun | n => n⟩
theorem Tryz.lays105 : Go.Proofs.Lays.n105 Tryz.prog Tryz.lays105_ren := {
  mixed := by kernel_rfl
  f99 := Tryz.func198.trans (congrArg some (by kernel_rfl))
  f105 := Tryz.func171.trans (congrArg some (by kernel_rfl))
  f165 := Tryz.func199.trans (congrArg some (by kernel_rfl))
  f166 := Tryz.func200.trans (congrArg some (by kernel_rfl))
  f169 := Tryz.func202.trans (congrArg some (by kernel_rfl))
  f170 := Tryz.func201.trans (congrArg some (by kernel_rfl))
  f206 := Tryz.func223.trans (congrArg some (by kernel_rfl))
  f212 := Tryz.func197.trans (congrArg some (by kernel_rfl))
  f240 := Tryz.func230.trans (congrArg some (by kernel_rfl))
  f241 := Tryz.func231.trans (congrArg some (by kernel_rfl))
  f263 := Tryz.func229.trans (congrArg some (by kernel_rfl))
  f264 := Tryz.func219.trans (congrArg some (by kernel_rfl))
  f276 := Tryz.func246.trans (congrArg some (by kernel_rfl))
  f277 := Tryz.func247.trans (congrArg some (by kernel_rfl))
  t0 := Tryz.underlying0
  a0 := Tryz.isAgg0
  z0 := Tryz.sizeOf0
  v0 := Tryz.zeroValue0
  t3 := Tryz.underlying3
  a3 := Tryz.isAgg3
  z3 := Tryz.sizeOf3
  v3 := Tryz.zeroValue3
  t4 := Tryz.underlying4
  a4 := Tryz.isAgg4
  z4 := Tryz.sizeOf4
  v4 := Tryz.zeroValue4
  t5 := Tryz.underlying5
  a5 := Tryz.isAgg5
  z5 := Tryz.sizeOf5
  v5 := Tryz.zeroValue5
  t9 := Tryz.underlying9
  a9 := Tryz.isAgg9
  z9 := Tryz.sizeOf9
  v9 := Tryz.zeroValue9
  t20 := Tryz.underlying20
  a20 := Tryz.isAgg20
  z20 := Tryz.sizeOf20
  v20 := Tryz.zeroValue20
  t37 := Tryz.underlying106
  a37 := Tryz.isAgg106
  z37 := Tryz.sizeOf106
  v37 := Tryz.zeroValue106
  t46 := Tryz.underlying46
  a46 := Tryz.isAgg46
  z46 := Tryz.sizeOf46
  v46 := Tryz.zeroValue46
  t51 := Tryz.underlying72
  a51 := Tryz.isAgg72
  z51 := Tryz.sizeOf72
  v51 := Tryz.zeroValue72
  t53 := Tryz.underlying22
  a53 := Tryz.isAgg22
  z53 := Tryz.sizeOf22
  v53 := Tryz.zeroValue22
  t70 := Tryz.underlying209
  a70 := Tryz.isAgg209
  z70 := Tryz.sizeOf209
  v70 := Tryz.zeroValue209
  t72 := Tryz.underlying211
  a72 := Tryz.isAgg211
  z72 := Tryz.sizeOf211
  v72 := Tryz.zeroValue211
  t75 := Tryz.underlying164
  a75 := Tryz.isAgg164
  z75 := Tryz.sizeOf164
  v75 := Tryz.zeroValue164
  t76 := Tryz.underlying174
  a76 := Tryz.isAgg174
  z76 := Tryz.sizeOf174
  v76 := Tryz.zeroValue174
  t109 := Tryz.underlying207
  a109 := Tryz.isAgg207
  z109 := Tryz.sizeOf207
  v109 := Tryz.zeroValue207
  t127 := Tryz.underlying241
  a127 := Tryz.isAgg241
  z127 := Tryz.sizeOf241
  v127 := Tryz.zeroValue241
  t146 := Tryz.underlying158
  a146 := Tryz.isAgg158
  z146 := Tryz.sizeOf158
  v146 := Tryz.zeroValue158
  t148 := Tryz.underlying229
  a148 := Tryz.isAgg229
  z148 := Tryz.sizeOf229
  v148 := Tryz.zeroValue229
  t164 := Tryz.underlying255
  a164 := Tryz.isAgg255
  z164 := Tryz.sizeOf255
  v164 := Tryz.zeroValue255 }
theorem Tryz.Builder_Extra_105 : Builder.Extra Tryz.prog Tryz.lays105_ren := {
  sizeBuilder := by kernel_rfl
  liesBuilder := by kernel_rfl
  t5 := Tryz.underlying5
  a5 := Tryz.isAgg5
  z5 := Tryz.sizeOf5
  v5 := Tryz.zeroValue5
  infoByte := by kernel_rfl
  cellsByte := by kernel_rfl
  sizeByte := by kernel_rfl
  neB5 := by decide }
open Go.RowKit Go.Lib in
/-- **strings.Repeat: count ≥ 0, the result within one allocation: count copies of s.** (LAID: no walk: one application.) -/
theorem Tryz.strings_Repeat (s : ByteArray) (c : Nat) (w : World) (hc : c ≤ 9223372036854775807) (hlen : s.size * c ≤ 140737488355328) :
    Calls Tryz.prog 171 #[.string s, .int .i64 c] w fun e w' => e = .returned (.string ⟨(Lib.repeatL s.data.toList c).toArray⟩) ∧ Below w.heap.size w w' := Any.strings_Repeat Tryz.lays105 Tryz.Builder_Extra_105 s c w hc hlen
end Go.Proofs

/- Trim, Of, Value, Len. -/
namespace Go.Proofs.YtjnkbifafbjckaaGreatDoor
set_option linter.all false
open Go.RowKit

set_option maxHeartbeats 400000 in
theorem na_trim_any (a : Option Addr) (c : Nat) (l : List Nat) (w : World) (h : Sl w a c l) (hn : l.length ≤ 1000000) :
    Calls Tryz.prog 135 #[.slice a l.length c] w (GivesB (Na.cut l) w) := by
  have H1 := Lib.hid (na_right_any a c l w h hn)
  have h2 := (Na.rt_le h.ok).1
  have hr := Lib.hid (show Na.rt l = (Na.cut l).length from rfl)
  obtain ⟨i, hi, hz0, hz1, hz2⟩ := info_parts infoU32
  have HC := Lib.hid h.cut
  go_enter Tryz.func135, Tryz.ntmps135
  go_wp2_with (first | (go_at_call 139; (with_reducible refine (H1.out).mono ?_); rintro e w' ⟨rfl, rfl⟩) | (at_make; refine wpList_make_full _ rfl _ _ 85 rfl w.heap.size 72 i (.int .u32 0) 1 Tryz.underlying85 hi hz0 hz1 .i64 .i64 _ _ (Na.rt l) rfl rfl rfl rfl (by rw [hz2]; omega) (by unfold maxLen; omega) (Nat.le_refl _) ?_))
  intro w1 hown hgrow
  have hB1 : Below w.heap.size w w1 := (Below.refl _ _).grown hgrow (Nat.le_refl _) (fun k e => by cases e)
  have HK := Lib.hid (Blk.made hown)
  clear hown hgrow hz2 hz1 hz0 hi i
  go_wp2_with (first | (refine wpList_copy_splice rfl _ _ 85 85 rfl 72 Tryz.underlying85 (by kernel_rfl) _ _ _ _ _ _ rfl rfl w.heap.size 0 (u32s (List.replicate (Na.rt l) 0)) 72 HK.out (u32s (Na.cut l)) (by rw [u32s_len]; show _ = min _ _; have := hr.out; omega) (fun h0 => ⟨rfl, ((HC.out.on hB1).cells (by rwa [u32s_len] at h0))⟩) (by simp [u32s_len, hr.out]) (u32s_one _) w.heap.size w hB1 (Nat.le_refl _) ?_))
  intro w2 hg2 hB2
  go_wp2_with fail
  go_ret
  refine ⟨w.heap.size, rfl, Nat.le_refl _, ?_, hB2⟩
  have := hg2.out
  rw [splice_all _ _ (by simp [u32s_len, hr.out])] at this
  exact this
end Go.Proofs.YtjnkbifafbjckaaGreatDoor
