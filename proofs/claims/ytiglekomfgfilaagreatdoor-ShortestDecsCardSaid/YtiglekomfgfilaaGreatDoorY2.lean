/-
  DERIVED: THE SHELF's CONTRACTS AT THIS DUMP, IN PLAIN WORDS (tools/lay-plain.mjs out of 'TryzShelf.lean', which tools/lay-shelf.mjs wrote): THE SAME DECLARATIONS UNDER THE SAME NAMES: 'import', 'namespace', 'open', 'def', 'theorem' AND NOTHING ELSE: no command of the shelf's: FOR A HAND-IN. Each laying: the table of numbers ('.._ren') and one theorem, a field a fact of the dump's own or the kernel's comparison; each contract: ONE APPLICATION.
-/
import Derived.Shelf.Strings.Builder1
import Derived.Shelf.Strings.Builder2
import Derived.Shelf.Strings.Trim
import Derived.Shelf.Small.Utf8
import Derived.Shelf.Small.Bits
import Derived.Shelf.Small.Strs
import Derived.Shelf.Small.Wraps
import Derived.Shelf.Strings.BuilderF
import Derived.Shelf.Strconv.Atoi
import Derived.Shelf.Strconv.Itoa0
import Derived.Shelf.Strconv.Itoa1
import Derived.Shelf.LaysM
import Derived.Shelf.Strconv.Itoa2
import Derived.Shelf.Strconv.Itoa3
import Derived.Shelf.Strconv.AtoiErrFast
import Derived.Shelf.Strconv.ParseIntEmpty
import Derived.Shelf.Strconv.AtoiFail
import Derived.Shelf.Strconv.Clone
import Derived.Shelf.Strconv.SyntaxError
import Derived.Shelf.LaysC
import Derived.Shelf.Strconv.ToError
import Derived.Shelf.Strconv.Lower
import Derived.Shelf.Strconv.ParseUint10
import Derived.Shelf.Strconv.ParseUint10Empty
import Derived.Shelf.Strconv.ParseUint10Any
import Derived.Shelf.Strconv.ParseInt10
import Derived.Shelf.Strconv.AtoiLong
import Derived.Shelf.Strconv.AtoiInnerAll
import Derived.Shelf.Strconv.RangeError
import Derived.Shelf.Strconv.ToErrorRange
import Derived.Shelf.Strconv.AtoiAll
import Derived.Ground.MpProg
import Derived.Shelf.Pu.ParseUintPublic10
import Derived.Shelf.Strings.Search1
import Derived.Shelf.Strings.Prefix
import Derived.Shelf.Strings.Runes
import Derived.Shelf.Strings.AsciiSet
import Derived.Shelf.Bits.Mul64
import Derived.Shelf.Strings.Repeat
import Derived.Shelf.Unicode.DecodeSlow
import Derived.Shelf.Unicode.DecodeAny
import Derived.Test.YtiglekomfgfilaaGreatDoorProg
import Derived.Test.YtiglekomfgfilaaGreatDoorY1
namespace Go.Proofs
set_option linter.all false
open Go.Shelf
def Tryz.lays161_ren : Go.Shelf.Ren := ⟨fun | 161 => 118 | 231 => 137 | 227 => 138 | 233 => 139 | 235 => 140 | 228 => 169 | 197 => 170 | 151 => 171 | 260 => 197 | 152 => 198 | 137 => 213 | 119 => 214 | 224 => 215 | 225 => 216 | 217 => 221 | 266 => 226 | n => n, fun | 9 => 9 | 4 => 4 | 3 => 3 | 5 => 5 | 117 => 167 | 116 => 166 | 0 => 0 | 124 => 170 | 105 => 199 | 21 => 21 | 119 => 241 | 46 => 56 | 139 => 244 | 138 => 243 | n => n, fun | 3 => 4 | 4 => 5 | n => n⟩
theorem Tryz.lays161 : Go.Proofs.Lays.n161 Tryz.prog Tryz.lays161_ren := {
  mixed := by kernel_rfl
  f119 := Tryz.func214.trans (congrArg some (by kernel_rfl))
  f137 := Tryz.func213.trans (congrArg some (by kernel_rfl))
  f151 := Tryz.func171.trans (congrArg some (by kernel_rfl))
  f152 := Tryz.func198.trans (congrArg some (by kernel_rfl))
  f161 := Tryz.func118.trans (congrArg some (by kernel_rfl))
  f197 := Tryz.func170.trans (congrArg some (by kernel_rfl))
  f217 := Tryz.func221.trans (congrArg some (by kernel_rfl))
  f224 := Tryz.func215.trans (congrArg some (by kernel_rfl))
  f225 := Tryz.func216.trans (congrArg some (by kernel_rfl))
  f227 := Tryz.func138.trans (congrArg some (by kernel_rfl))
  f228 := Tryz.func169.trans (congrArg some (by kernel_rfl))
  f231 := Tryz.func137.trans (congrArg some (by kernel_rfl))
  f233 := Tryz.func139.trans (congrArg some (by kernel_rfl))
  f235 := Tryz.func140.trans (congrArg some (by kernel_rfl))
  f260 := Tryz.func197.trans (congrArg some (by kernel_rfl))
  f266 := Tryz.func226.trans (congrArg some (by kernel_rfl))
  t0 := Tryz.underlying0
  a0 := Tryz.isAgg0
  z0 := Tryz.sizeOf0
  v0 := Tryz.zeroValue0
  t3 := Tryz.underlying3
  a3 := Tryz.isAgg3
  z3 := Tryz.sizeOf3
  v3 := Tryz.zeroValue3
  t4 := Tryz.underlying4
  a4 := Tryz.isAgg4
  z4 := Tryz.sizeOf4
  v4 := Tryz.zeroValue4
  t5 := Tryz.underlying5
  a5 := Tryz.isAgg5
  z5 := Tryz.sizeOf5
  v5 := Tryz.zeroValue5
  t9 := Tryz.underlying9
  a9 := Tryz.isAgg9
  z9 := Tryz.sizeOf9
  v9 := Tryz.zeroValue9
  t21 := Tryz.underlying21
  a21 := Tryz.isAgg21
  z21 := Tryz.sizeOf21
  v21 := Tryz.zeroValue21
  t46 := Tryz.underlying56
  a46 := Tryz.isAgg56
  z46 := Tryz.sizeOf56
  v46 := Tryz.zeroValue56
  t105 := Tryz.underlying199
  a105 := Tryz.isAgg199
  z105 := Tryz.sizeOf199
  v105 := Tryz.zeroValue199
  t116 := Tryz.underlying166
  a116 := Tryz.isAgg166
  z116 := Tryz.sizeOf166
  t117 := Tryz.underlying167
  a117 := Tryz.isAgg167
  z117 := Tryz.sizeOf167
  v117 := Tryz.zeroValue167
  t119 := Tryz.underlying241
  a119 := Tryz.isAgg241
  z119 := Tryz.sizeOf241
  t124 := Tryz.underlying170
  a124 := Tryz.isAgg170
  z124 := Tryz.sizeOf170
  v124 := Tryz.zeroValue170
  t138 := Tryz.underlying243
  a138 := Tryz.isAgg243
  z138 := Tryz.sizeOf243
  v138 := Tryz.zeroValue243
  t139 := Tryz.underlying244
  a139 := Tryz.isAgg244
  z139 := Tryz.sizeOf244
  v139 := Tryz.zeroValue244
  g3 := by kernel_rfl
  g4 := by kernel_rfl }
open Go.RowKit in
/-- strings.TrimLeft: "TrimLeft returns a slice of the string s with all leading Unicode code points contained in cutset removed.": AT A cutset OF ONE ASCII BYTE. The world is as it was. (LAID: no walk: one application.) -/
theorem Tryz.strings_TrimLeft_one (s : ByteArray) (c : UInt8) (hc : c.toNat < 128) (w : World) :
    Calls Tryz.prog 118 #[.string s, .string ⟨#[c]⟩] w fun e w' => e = .returned (.string ⟨(Lib.trimLeftB s.data.toList c).toArray⟩) ∧ w' = w := Any.strings_TrimLeft_one Tryz.lays161 s c hc w
def Tryz.lays162_ren : Go.Shelf.Ren := ⟨fun | 162 => 119 | 232 => 141 | 227 => 138 | 234 => 142 | 236 => 143 | 228 => 169 | 271 => 172 | 151 => 171 | 120 => 199 | 197 => 170 | 152 => 198 | 260 => 197 | 137 => 213 | 119 => 214 | 224 => 215 | 225 => 216 | 217 => 221 | 266 => 226 | n => n, fun | 9 => 9 | 4 => 4 | 3 => 3 | 5 => 5 | 117 => 167 | 116 => 166 | 0 => 0 | 124 => 170 | 21 => 21 | 105 => 199 | 46 => 56 | 119 => 241 | 139 => 244 | 138 => 243 | n => n, fun | 3 => 4 | 4 => 5 | n => n⟩
theorem Tryz.lays162 : Go.Proofs.Lays.n162 Tryz.prog Tryz.lays162_ren := {
  mixed := by kernel_rfl
  f119 := Tryz.func214.trans (congrArg some (by kernel_rfl))
  f120 := Tryz.func199.trans (congrArg some (by kernel_rfl))
  f137 := Tryz.func213.trans (congrArg some (by kernel_rfl))
  f151 := Tryz.func171.trans (congrArg some (by kernel_rfl))
  f152 := Tryz.func198.trans (congrArg some (by kernel_rfl))
  f162 := Tryz.func119.trans (congrArg some (by kernel_rfl))
  f197 := Tryz.func170.trans (congrArg some (by kernel_rfl))
  f217 := Tryz.func221.trans (congrArg some (by kernel_rfl))
  f224 := Tryz.func215.trans (congrArg some (by kernel_rfl))
  f225 := Tryz.func216.trans (congrArg some (by kernel_rfl))
  f227 := Tryz.func138.trans (congrArg some (by kernel_rfl))
  f228 := Tryz.func169.trans (congrArg some (by kernel_rfl))
  f232 := Tryz.func141.trans (congrArg some (by kernel_rfl))
  f234 := Tryz.func142.trans (congrArg some (by kernel_rfl))
  f236 := Tryz.func143.trans (congrArg some (by kernel_rfl))
  f260 := Tryz.func197.trans (congrArg some (by kernel_rfl))
  f266 := Tryz.func226.trans (congrArg some (by kernel_rfl))
  f271 := Tryz.func172.trans (congrArg some (by kernel_rfl))
  t0 := Tryz.underlying0
  a0 := Tryz.isAgg0
  z0 := Tryz.sizeOf0
  v0 := Tryz.zeroValue0
  t3 := Tryz.underlying3
  a3 := Tryz.isAgg3
  z3 := Tryz.sizeOf3
  v3 := Tryz.zeroValue3
  t4 := Tryz.underlying4
  a4 := Tryz.isAgg4
  z4 := Tryz.sizeOf4
  v4 := Tryz.zeroValue4
  t5 := Tryz.underlying5
  a5 := Tryz.isAgg5
  z5 := Tryz.sizeOf5
  v5 := Tryz.zeroValue5
  t9 := Tryz.underlying9
  a9 := Tryz.isAgg9
  z9 := Tryz.sizeOf9
  v9 := Tryz.zeroValue9
  t21 := Tryz.underlying21
  a21 := Tryz.isAgg21
  z21 := Tryz.sizeOf21
  v21 := Tryz.zeroValue21
  t46 := Tryz.underlying56
  a46 := Tryz.isAgg56
  z46 := Tryz.sizeOf56
  v46 := Tryz.zeroValue56
  t105 := Tryz.underlying199
  a105 := Tryz.isAgg199
  z105 := Tryz.sizeOf199
  v105 := Tryz.zeroValue199
  t116 := Tryz.underlying166
  a116 := Tryz.isAgg166
  z116 := Tryz.sizeOf166
  t117 := Tryz.underlying167
  a117 := Tryz.isAgg167
  z117 := Tryz.sizeOf167
  v117 := Tryz.zeroValue167
  t119 := Tryz.underlying241
  a119 := Tryz.isAgg241
  z119 := Tryz.sizeOf241
  t124 := Tryz.underlying170
  a124 := Tryz.isAgg170
  z124 := Tryz.sizeOf170
  v124 := Tryz.zeroValue170
  t138 := Tryz.underlying243
  a138 := Tryz.isAgg243
  z138 := Tryz.sizeOf243
  v138 := Tryz.zeroValue243
  t139 := Tryz.underlying244
  a139 := Tryz.isAgg244
  z139 := Tryz.sizeOf244
  v139 := Tryz.zeroValue244
  g3 := by kernel_rfl
  g4 := by kernel_rfl }
open Go.RowKit in
/-- strings.TrimRight: "TrimRight returns a slice of the string s, with all trailing Unicode code points contained in cutset removed.": AT A cutset OF ONE ASCII BYTE. The world is as it was. (LAID: no walk: one application.) -/
theorem Tryz.strings_TrimRight_one (s : ByteArray) (c : UInt8) (hc : c.toNat < 128) (w : World) (hs : s.size ≤ 9223372036854775807) :
    Calls Tryz.prog 119 #[.string s, .string ⟨#[c]⟩] w fun e w' => e = .returned (.string ⟨(Lib.trimRightB s.data.toList c).toArray⟩) ∧ w' = w := Any.strings_TrimRight_one Tryz.lays162 s c hc w hs
def Tryz.lays160_ren : Go.Shelf.Ren := ⟨fun | 160 => 186 | 232 => 141 | 231 => 137 | 227 => 138 | 234 => 142 | 233 => 139 | 236 => 143 | 235 => 140 | 228 => 169 | 271 => 172 | 151 => 171 | 197 => 170 | 120 => 199 | 152 => 198 | 260 => 197 | 137 => 213 | 119 => 214 | 224 => 215 | 225 => 216 | 217 => 221 | 266 => 226 | n => n, fun | 9 => 9 | 4 => 4 | 3 => 3 | 5 => 5 | 117 => 167 | 116 => 166 | 0 => 0 | 124 => 170 | 21 => 21 | 105 => 199 | 46 => 56 | 119 => 241 | 139 => 244 | 138 => 243 | n => n, fun | 3 => 4 | 4 => 5 | n => n⟩
theorem Tryz.lays160 : Go.Proofs.Lays.n160 Tryz.prog Tryz.lays160_ren := {
  mixed := by kernel_rfl
  f119 := Tryz.func214.trans (congrArg some (by kernel_rfl))
  f120 := Tryz.func199.trans (congrArg some (by kernel_rfl))
  f137 := Tryz.func213.trans (congrArg some (by kernel_rfl))
  f151 := Tryz.func171.trans (congrArg some (by kernel_rfl))
  f152 := Tryz.func198.trans (congrArg some (by kernel_rfl))
  f160 := Tryz.func186.trans (congrArg some (by kernel_rfl))
  f197 := Tryz.func170.trans (congrArg some (by kernel_rfl))
  f217 := Tryz.func221.trans (congrArg some (by kernel_rfl))
  f224 := Tryz.func215.trans (congrArg some (by kernel_rfl))
  f225 := Tryz.func216.trans (congrArg some (by kernel_rfl))
  f227 := Tryz.func138.trans (congrArg some (by kernel_rfl))
  f228 := Tryz.func169.trans (congrArg some (by kernel_rfl))
  f231 := Tryz.func137.trans (congrArg some (by kernel_rfl))
  f232 := Tryz.func141.trans (congrArg some (by kernel_rfl))
  f233 := Tryz.func139.trans (congrArg some (by kernel_rfl))
  f234 := Tryz.func142.trans (congrArg some (by kernel_rfl))
  f235 := Tryz.func140.trans (congrArg some (by kernel_rfl))
  f236 := Tryz.func143.trans (congrArg some (by kernel_rfl))
  f260 := Tryz.func197.trans (congrArg some (by kernel_rfl))
  f266 := Tryz.func226.trans (congrArg some (by kernel_rfl))
  f271 := Tryz.func172.trans (congrArg some (by kernel_rfl))
  t0 := Tryz.underlying0
  a0 := Tryz.isAgg0
  z0 := Tryz.sizeOf0
  v0 := Tryz.zeroValue0
  t3 := Tryz.underlying3
  a3 := Tryz.isAgg3
  z3 := Tryz.sizeOf3
  v3 := Tryz.zeroValue3
  t4 := Tryz.underlying4
  a4 := Tryz.isAgg4
  z4 := Tryz.sizeOf4
  v4 := Tryz.zeroValue4
  t5 := Tryz.underlying5
  a5 := Tryz.isAgg5
  z5 := Tryz.sizeOf5
  v5 := Tryz.zeroValue5
  t9 := Tryz.underlying9
  a9 := Tryz.isAgg9
  z9 := Tryz.sizeOf9
  v9 := Tryz.zeroValue9
  t21 := Tryz.underlying21
  a21 := Tryz.isAgg21
  z21 := Tryz.sizeOf21
  v21 := Tryz.zeroValue21
  t46 := Tryz.underlying56
  a46 := Tryz.isAgg56
  z46 := Tryz.sizeOf56
  v46 := Tryz.zeroValue56
  t105 := Tryz.underlying199
  a105 := Tryz.isAgg199
  z105 := Tryz.sizeOf199
  v105 := Tryz.zeroValue199
  t116 := Tryz.underlying166
  a116 := Tryz.isAgg166
  z116 := Tryz.sizeOf166
  t117 := Tryz.underlying167
  a117 := Tryz.isAgg167
  z117 := Tryz.sizeOf167
  v117 := Tryz.zeroValue167
  t119 := Tryz.underlying241
  a119 := Tryz.isAgg241
  z119 := Tryz.sizeOf241
  t124 := Tryz.underlying170
  a124 := Tryz.isAgg170
  z124 := Tryz.sizeOf170
  v124 := Tryz.zeroValue170
  t138 := Tryz.underlying243
  a138 := Tryz.isAgg243
  z138 := Tryz.sizeOf243
  v138 := Tryz.zeroValue243
  t139 := Tryz.underlying244
  a139 := Tryz.isAgg244
  z139 := Tryz.sizeOf244
  v139 := Tryz.zeroValue244
  g3 := by kernel_rfl
  g4 := by kernel_rfl }
open Go.RowKit in
/-- strings.Trim: "Trim returns a slice of the string s with all leading and trailing Unicode code points contained in cutset removed.": AT A cutset OF ONE ASCII BYTE. THE WORLD BEHIND IT: as it was, or (where s is not empty) with ONE DRAW MORE off the tape: the statement 'return trimLeftByte(trimRightByte(s, c), c)' draws its order of evaluation. (LAID: no walk: one application.) -/
theorem Tryz.strings_Trim_one (s : ByteArray) (c : UInt8) (hc : c.toNat < 128) (w : World) (hs : s.size ≤ 9223372036854775807) :
    Calls Tryz.prog 186 #[.string s, .string ⟨#[c]⟩] w fun e w' => e = .returned (.string ⟨(Lib.trimB s.data.toList c).toArray⟩) ∧ (w' = w ∨ w' = w.drew) := Any.strings_Trim_one Tryz.lays160 s c hc w hs
def Tryz.lays128_ren : Go.Shelf.Ren := ⟨fun | 128 => 136 | n => n, fun | 51 => 81 | 3 => 3 | 4 => 4 | 46 => 56 | 5 => 5 | 9 => 9 | n => n, fun | n => n⟩
theorem Tryz.lays128 : Go.Proofs.Lays.n128 Tryz.prog Tryz.lays128_ren := {
  mixed := by kernel_rfl
  f128 := Tryz.func136.trans (congrArg some (by kernel_rfl))
  t3 := Tryz.underlying3
  a3 := Tryz.isAgg3
  z3 := Tryz.sizeOf3
  v3 := Tryz.zeroValue3
  t4 := Tryz.underlying4
  a4 := Tryz.isAgg4
  z4 := Tryz.sizeOf4
  v4 := Tryz.zeroValue4
  t5 := Tryz.underlying5
  a5 := Tryz.isAgg5
  z5 := Tryz.sizeOf5
  v5 := Tryz.zeroValue5
  t9 := Tryz.underlying9
  a9 := Tryz.isAgg9
  z9 := Tryz.sizeOf9
  v9 := Tryz.zeroValue9
  t46 := Tryz.underlying56
  a46 := Tryz.isAgg56
  z46 := Tryz.sizeOf56
  v46 := Tryz.zeroValue56
  t51 := Tryz.underlying81
  a51 := Tryz.isAgg81
  z51 := Tryz.sizeOf81
  v51 := Tryz.zeroValue81 }
/-- bits.Len32: "Len32 returns the minimum number of bits required to represent x; the result is 0 for x == 0.": IT RETURNS 'Lib.bitLen x'; the world is as it was. ('h0', 'h1': x is a uint32.) (LAID: no walk: one application.) -/
theorem Tryz.bits_Len32 (x : Int) (w : World) (h0 : 0 ≤ x) (h1 : x ≤ 4294967295) :
    Calls Tryz.prog 136 #[.int .u32 x] w fun e w' => e = .returned (.int .i64 (Lib.bitLen x.toNat)) ∧ w' = w := Any.bits_Len32 Tryz.lays128 x w h0 h1
def Tryz.lays133_ren : Go.Shelf.Ren := ⟨fun | 133 => 208 | 128 => 136 | n => n, fun | 51 => 81 | 3 => 3 | 4 => 4 | 46 => 56 | 5 => 5 | 9 => 9 | n => n, fun | n => n⟩
theorem Tryz.lays133 : Go.Proofs.Lays.n133 Tryz.prog Tryz.lays133_ren := {
  mixed := by kernel_rfl
  f128 := Tryz.func136.trans (congrArg some (by kernel_rfl))
  f133 := Tryz.func208.trans (congrArg some (by kernel_rfl))
  t3 := Tryz.underlying3
  a3 := Tryz.isAgg3
  z3 := Tryz.sizeOf3
  v3 := Tryz.zeroValue3
  t4 := Tryz.underlying4
  a4 := Tryz.isAgg4
  z4 := Tryz.sizeOf4
  v4 := Tryz.zeroValue4
  t5 := Tryz.underlying5
  a5 := Tryz.isAgg5
  z5 := Tryz.sizeOf5
  v5 := Tryz.zeroValue5
  t9 := Tryz.underlying9
  a9 := Tryz.isAgg9
  z9 := Tryz.sizeOf9
  v9 := Tryz.zeroValue9
  t46 := Tryz.underlying56
  a46 := Tryz.isAgg56
  z46 := Tryz.sizeOf56
  v46 := Tryz.zeroValue56
  t51 := Tryz.underlying81
  a51 := Tryz.isAgg81
  z51 := Tryz.sizeOf81
  v51 := Tryz.zeroValue81 }
/-- bits.LeadingZeros32: "LeadingZeros32 returns the number of leading zero bits in x; the result is 32 for x == 0.": IT RETURNS '32 - Lib.bitLen x'; the world is as it was. ITS CALLEE bits.Len32 IS MET BY ITS OWN CONTRACT OFF THE SHELF (lay that first): entered in place it sends the kernel out of memory. (LAID: no walk: one application.) -/
theorem Tryz.bits_LeadingZeros32 (x : Int) (w : World) (h0 : 0 ≤ x) (h1 : x ≤ 4294967295) :
    Calls Tryz.prog 208 #[.int .u32 x] w fun e w' => e = .returned (.int .i64 (32 - (Lib.bitLen x.toNat : Int))) ∧ w' = w := Any.bits_LeadingZeros32 Tryz.lays133 x w h0 h1
def Tryz.lays106_ren : Go.Shelf.Ren := ⟨fun | 106 => 121 | 213 => 144 | 265 => 173 | n => n, fun | 9 => 9 | 3 => 3 | n => n, fun | n => n⟩
theorem Tryz.lays106 : Go.Proofs.Lays.n106 Tryz.prog Tryz.lays106_ren := {
  mixed := by kernel_rfl
  f106 := Tryz.func121.trans (congrArg some (by kernel_rfl))
  f213 := Tryz.func144.trans (congrArg some (by kernel_rfl))
  f265 := Tryz.func173.trans (congrArg some (by kernel_rfl))
  t3 := Tryz.underlying3
  a3 := Tryz.isAgg3
  z3 := Tryz.sizeOf3
  v3 := Tryz.zeroValue3
  t9 := Tryz.underlying9
  a9 := Tryz.isAgg9
  z9 := Tryz.sizeOf9
  v9 := Tryz.zeroValue9 }
open Go.RowKit in
/-- strings.Compare: "Compare returns an integer comparing two strings lexicographically. The result will be 0 if a == b, -1 if a < b, and +1 if a > b.": IT RETURNS 'Lib.compareBytes a b'; the world is as it was. (LAID: no walk: one application.) -/
theorem Tryz.strings_Compare (a b : ByteArray) (w : World) :
    Calls Tryz.prog 121 #[.string a, .string b] w fun e w' => e = .returned (.int .i64 (Lib.compareBytes a.data.toList b.data.toList)) ∧ w' = w := Any.strings_Compare Tryz.lays106 a b w
def Tryz.lays103_ren : Go.Shelf.Ren := ⟨fun | 103 => 101 | 210 => 127 | 206 => 132 | n => n, fun | 9 => 9 | 4 => 4 | 24 => 126 | 3 => 3 | n => n, fun | n => n⟩
theorem Tryz.lays103 : Go.Proofs.Lays.n103 Tryz.prog Tryz.lays103_ren := {
  mixed := by kernel_rfl
  f103 := Tryz.func101.trans (congrArg some (by kernel_rfl))
  f206 := Tryz.func132.trans (congrArg some (by kernel_rfl))
  f210 := Tryz.func127.trans (congrArg some (by kernel_rfl))
  t3 := Tryz.underlying3
  a3 := Tryz.isAgg3
  z3 := Tryz.sizeOf3
  v3 := Tryz.zeroValue3
  t4 := Tryz.underlying4
  a4 := Tryz.isAgg4
  z4 := Tryz.sizeOf4
  v4 := Tryz.zeroValue4
  t9 := Tryz.underlying9
  a9 := Tryz.isAgg9
  z9 := Tryz.sizeOf9
  v9 := Tryz.zeroValue9
  t24 := Tryz.underlying126
  a24 := Tryz.isAgg126
  z24 := Tryz.sizeOf126
  v24 := Tryz.zeroValue126 }
open Go.RowKit in
/-- strings.CutPrefix: "CutPrefix returns s without the provided leading prefix string and reports whether it found the prefix. If s doesn't start with prefix, CutPrefix returns s, false. If prefix is the empty string, CutPrefix returns s, true.": IT RETURNS '(Lib.trimPrefix s p, Lib.hasPrefix s p)'; the world is as it was. (LAID: no walk: one application.) -/
theorem Tryz.strings_CutPrefix (s p : ByteArray) (w : World) :
    Calls Tryz.prog 101 #[.string s, .string p] w fun e w' => e = .returned (.tuple #[.string ⟨(Lib.trimPrefix s.data.toList p.data.toList).toArray⟩, .bool (Lib.hasPrefix s.data.toList p.data.toList)]) ∧ w' = w := Any.strings_CutPrefix Tryz.lays103 s p w
def Tryz.lays129_ren : Go.Shelf.Ren := ⟨fun | 129 => 193 | n => n, fun | 53 => 22 | 3 => 3 | 4 => 4 | 46 => 56 | 5 => 5 | 9 => 9 | n => n, fun | n => n⟩
theorem Tryz.lays129 : Go.Proofs.Lays.n129 Tryz.prog Tryz.lays129_ren := {
  mixed := by kernel_rfl
  f129 := Tryz.func193.trans (congrArg some (by kernel_rfl))
  t3 := Tryz.underlying3
  a3 := Tryz.isAgg3
  z3 := Tryz.sizeOf3
  v3 := Tryz.zeroValue3
  t4 := Tryz.underlying4
  a4 := Tryz.isAgg4
  z4 := Tryz.sizeOf4
  v4 := Tryz.zeroValue4
  t5 := Tryz.underlying5
  a5 := Tryz.isAgg5
  z5 := Tryz.sizeOf5
  v5 := Tryz.zeroValue5
  t9 := Tryz.underlying9
  a9 := Tryz.isAgg9
  z9 := Tryz.sizeOf9
  v9 := Tryz.zeroValue9
  t46 := Tryz.underlying56
  a46 := Tryz.isAgg56
  z46 := Tryz.sizeOf56
  v46 := Tryz.zeroValue56
  t53 := Tryz.underlying22
  a53 := Tryz.isAgg22
  z53 := Tryz.sizeOf22
  v53 := Tryz.zeroValue22 }
/-- bits.Len64: "Len64 returns the minimum number of bits required to represent x; the result is 0 for x == 0.": IT RETURNS 'Lib.bitLen x'; the world is as it was. ('h0', 'h1': x is a uint64.) (LAID: no walk: one application.) -/
theorem Tryz.bits_Len64 (x : Int) (w : World) (h0 : 0 ≤ x) (h1 : x ≤ 18446744073709551615) :
    Calls Tryz.prog 193 #[.int .u64 x] w fun e w' => e = .returned (.int .i64 (Lib.bitLen x.toNat)) ∧ w' = w := Any.bits_Len64 Tryz.lays129 x w h0 h1
def Tryz.laysM171_ren : Go.Shelf.Ren := ⟨fun | 171 => 75 | 243 => 110 | 246 => 135 | 283 => 165 | 284 => 166 | 285 => 167 | 286 => 168 | 129 => 193 | 317 => 192 | 318 => 194 | 319 => 195 | 320 => 196 | 337 => 211 | 338 => 212 | n => n, fun | 3 => 3 | 9 => 9 | 2 => 2 | 4 => 4 | 171 => 195 | 0 => 0 | 53 => 22 | 37 => 110 | 5 => 5 | 173 => 197 | 212 => 221 | 51 => 81 | 20 => 20 | 213 => 222 | 46 => 56 | 232 => 251 | 233 => 252 | n => n, fun | 17 => 3 | 18 => 6 | 19 => 7 | n => n⟩
theorem Tryz.laysM171 : Go.Proofs.LaysM.n171 Tryz.prog Tryz.laysM171_ren := {
  mixed := by kernel_rfl
  f129 := Tryz.func193.trans (congrArg some (by kernel_rfl))
  f171 := Tryz.func75.trans (congrArg some (by kernel_rfl))
  f243 := Tryz.func110.trans (congrArg some (by kernel_rfl))
  f246 := Tryz.func135.trans (congrArg some (by kernel_rfl))
  f283 := Tryz.func165.trans (congrArg some (by kernel_rfl))
  f284 := Tryz.func166.trans (congrArg some (by kernel_rfl))
  f285 := Tryz.func167.trans (congrArg some (by kernel_rfl))
  f286 := Tryz.func168.trans (congrArg some (by kernel_rfl))
  f317 := Tryz.func192.trans (congrArg some (by kernel_rfl))
  f318 := Tryz.func194.trans (congrArg some (by kernel_rfl))
  f319 := Tryz.func195.trans (congrArg some (by kernel_rfl))
  f320 := Tryz.func196.trans (congrArg some (by kernel_rfl))
  f337 := Tryz.func211.trans (congrArg some (by kernel_rfl))
  f338 := Tryz.func212.trans (congrArg some (by kernel_rfl))
  t0 := Tryz.underlying0
  a0 := Tryz.isAgg0
  z0 := Tryz.sizeOf0
  v0 := Tryz.zeroValue0
  t2 := Tryz.underlying2
  a2 := Tryz.isAgg2
  z2 := Tryz.sizeOf2
  v2 := Tryz.zeroValue2
  t3 := Tryz.underlying3
  a3 := Tryz.isAgg3
  z3 := Tryz.sizeOf3
  v3 := Tryz.zeroValue3
  t4 := Tryz.underlying4
  a4 := Tryz.isAgg4
  z4 := Tryz.sizeOf4
  v4 := Tryz.zeroValue4
  t5 := Tryz.underlying5
  a5 := Tryz.isAgg5
  z5 := Tryz.sizeOf5
  v5 := Tryz.zeroValue5
  t9 := Tryz.underlying9
  a9 := Tryz.isAgg9
  z9 := Tryz.sizeOf9
  v9 := Tryz.zeroValue9
  t20 := Tryz.underlying20
  a20 := Tryz.isAgg20
  z20 := Tryz.sizeOf20
  v20 := Tryz.zeroValue20
  t37 := Tryz.underlying110
  a37 := Tryz.isAgg110
  z37 := Tryz.sizeOf110
  v37 := Tryz.zeroValue110
  t46 := Tryz.underlying56
  a46 := Tryz.isAgg56
  z46 := Tryz.sizeOf56
  v46 := Tryz.zeroValue56
  t51 := Tryz.underlying81
  a51 := Tryz.isAgg81
  z51 := Tryz.sizeOf81
  v51 := Tryz.zeroValue81
  t53 := Tryz.underlying22
  a53 := Tryz.isAgg22
  z53 := Tryz.sizeOf22
  v53 := Tryz.zeroValue22
  t171 := Tryz.underlying195
  a171 := Tryz.isAgg195
  z171 := Tryz.sizeOf195
  v171 := Tryz.zeroValue195
  t173 := Tryz.underlying197
  a173 := Tryz.isAgg197
  z173 := Tryz.sizeOf197
  v173 := Tryz.zeroValue197
  t212 := Tryz.underlying221
  a212 := Tryz.isAgg221
  z212 := Tryz.sizeOf221
  v212 := Tryz.zeroValue221
  t213 := Tryz.underlying222
  a213 := Tryz.isAgg222
  z213 := Tryz.sizeOf222
  t232 := Tryz.underlying251
  a232 := Tryz.isAgg251
  z232 := Tryz.sizeOf251
  v232 := Tryz.zeroValue251
  t233 := Tryz.underlying252
  a233 := Tryz.isAgg252
  z233 := Tryz.sizeOf252
  v233 := Tryz.zeroValue252
  g17 := by kernel_rfl
  g18 := by kernel_rfl
  g19 := by kernel_rfl
  i0 := by kernel_rfl
  i2 := by kernel_rfl
  i3 := by kernel_rfl
  i4 := by kernel_rfl
  i5 := by kernel_rfl
  i9 := by kernel_rfl
  i20 := by kernel_rfl
  i37 := by kernel_rfl
  i46 := by kernel_rfl
  i51 := by kernel_rfl
  i53 := by kernel_rfl
  i171 := by kernel_rfl
  i173 := by kernel_rfl
  i212 := by kernel_rfl
  i232 := by kernel_rfl
  i233 := by kernel_rfl
  m17 := by kernel_rfl
  m18 := by kernel_rfl
  m19 := by kernel_rfl }
open Go.RowKit Go.Sort Go.Lib in
/-- strconv.Itoa: "Itoa is equivalent to FormatInt(int64(i), 10).": i's DECIMAL NUMERAL ('Lib.itoa': a '-' where i is negative, then the digits), FOR EVERY int. The world behind the call: the world before it, new blocks behind the heap (the library's 'var a [24]byte'), draws. (LAID: no walk: one application.) -/
theorem Tryz.strconv_Itoa (n : Int) (h0 : -9223372036854775808 ≤ n) (h1 : n ≤ 9223372036854775807) (w : World) (htab : Lib.TabIs Tryz.prog w "internal/strconv.uint64pow10" .u64 Lib.pow10Tab) :
    Calls Tryz.prog 75 #[.int .i64 n] w fun e w' => e = .returned (.string ⟨(Lib.itoa n).toArray⟩) ∧ ∃ k os, w' = grow (w.drewN k) os := Any.strconv_Itoa Tryz.laysM171 n h0 h1 w htab
def Tryz.laysC172_ren : Go.Shelf.Ren := ⟨fun | 172 => 103 | 244 => 128 | 245 => 129 | 247 => 158 | 279 => 159 | 280 => 160 | 281 => 161 | 282 => 162 | 287 => 145 | 316 => 190 | 171 => 75 | 205 => 191 | 321 => 174 | 322 => 175 | 243 => 110 | 246 => 135 | 283 => 165 | 284 => 166 | 285 => 167 | 286 => 168 | 129 => 193 | 317 => 192 | 318 => 194 | 319 => 195 | 320 => 196 | 337 => 211 | 338 => 212 | n => n, fun | 9 => 9 | 3 => 3 | 75 => 131 | 76 => 132 | 4 => 4 | 5 => 5 | 167 => 186 | 37 => 110 | 0 => 0 | 85 => 187 | 2 => 2 | 168 => 189 | 53 => 22 | 175 => 149 | 46 => 56 | 210 => 217 | 127 => 160 | 145 => 240 | 143 => 238 | 21 => 21 | 171 => 195 | 173 => 197 | 212 => 221 | 51 => 81 | 20 => 20 | 213 => 222 | 232 => 251 | 233 => 252 | 80 => 141 | n => n, fun | 15 => 1 | 16 => 2 | 17 => 3 | 18 => 6 | 19 => 7 | n => n⟩
theorem Tryz.laysC172 : Go.Proofs.LaysC.n172 Tryz.prog Tryz.laysC172_ren := {
  mixed := by kernel_rfl
  f129 := Tryz.func193.trans (congrArg some (by kernel_rfl))
  f171 := Tryz.func75.trans (congrArg some (by kernel_rfl))
  f172 := Tryz.func103.trans (congrArg some (by kernel_rfl))
  f205 := Tryz.func191.trans (congrArg some (by kernel_rfl))
  f243 := Tryz.func110.trans (congrArg some (by kernel_rfl))
  f244 := Tryz.func128.trans (congrArg some (by kernel_rfl))
  f245 := Tryz.func129.trans (congrArg some (by kernel_rfl))
  f246 := Tryz.func135.trans (congrArg some (by kernel_rfl))
  f247 := Tryz.func158.trans (congrArg some (by kernel_rfl))
  f279 := Tryz.func159.trans (congrArg some (by kernel_rfl))
  f280 := Tryz.func160.trans (congrArg some (by kernel_rfl))
  f281 := Tryz.func161.trans (congrArg some (by kernel_rfl))
  f282 := Tryz.func162.trans (congrArg some (by kernel_rfl))
  f283 := Tryz.func165.trans (congrArg some (by kernel_rfl))
  f284 := Tryz.func166.trans (congrArg some (by kernel_rfl))
  f285 := Tryz.func167.trans (congrArg some (by kernel_rfl))
  f286 := Tryz.func168.trans (congrArg some (by kernel_rfl))
  f287 := Tryz.func145.trans (congrArg some (by kernel_rfl))
  f316 := Tryz.func190.trans (congrArg some (by kernel_rfl))
  f317 := Tryz.func192.trans (congrArg some (by kernel_rfl))
  f318 := Tryz.func194.trans (congrArg some (by kernel_rfl))
  f319 := Tryz.func195.trans (congrArg some (by kernel_rfl))
  f320 := Tryz.func196.trans (congrArg some (by kernel_rfl))
  f321 := Tryz.func174.trans (congrArg some (by kernel_rfl))
  f322 := Tryz.func175.trans (congrArg some (by kernel_rfl))
  f337 := Tryz.func211.trans (congrArg some (by kernel_rfl))
  f338 := Tryz.func212.trans (congrArg some (by kernel_rfl))
  t0 := Tryz.underlying0
  a0 := Tryz.isAgg0
  z0 := Tryz.sizeOf0
  v0 := Tryz.zeroValue0
  t2 := Tryz.underlying2
  a2 := Tryz.isAgg2
  z2 := Tryz.sizeOf2
  v2 := Tryz.zeroValue2
  t3 := Tryz.underlying3
  a3 := Tryz.isAgg3
  z3 := Tryz.sizeOf3
  v3 := Tryz.zeroValue3
  t4 := Tryz.underlying4
  a4 := Tryz.isAgg4
  z4 := Tryz.sizeOf4
  v4 := Tryz.zeroValue4
  t5 := Tryz.underlying5
  a5 := Tryz.isAgg5
  z5 := Tryz.sizeOf5
  v5 := Tryz.zeroValue5
  t9 := Tryz.underlying9
  a9 := Tryz.isAgg9
  z9 := Tryz.sizeOf9
  v9 := Tryz.zeroValue9
  t20 := Tryz.underlying20
  a20 := Tryz.isAgg20
  z20 := Tryz.sizeOf20
  v20 := Tryz.zeroValue20
  t21 := Tryz.underlying21
  a21 := Tryz.isAgg21
  z21 := Tryz.sizeOf21
  v21 := Tryz.zeroValue21
  t37 := Tryz.underlying110
  a37 := Tryz.isAgg110
  z37 := Tryz.sizeOf110
  v37 := Tryz.zeroValue110
  t46 := Tryz.underlying56
  a46 := Tryz.isAgg56
  z46 := Tryz.sizeOf56
  v46 := Tryz.zeroValue56
  t51 := Tryz.underlying81
  a51 := Tryz.isAgg81
  z51 := Tryz.sizeOf81
  v51 := Tryz.zeroValue81
  t53 := Tryz.underlying22
  a53 := Tryz.isAgg22
  z53 := Tryz.sizeOf22
  v53 := Tryz.zeroValue22
  t75 := Tryz.underlying131
  a75 := Tryz.isAgg131
  z75 := Tryz.sizeOf131
  v75 := Tryz.zeroValue131
  t76 := Tryz.underlying132
  a76 := Tryz.isAgg132
  z76 := Tryz.sizeOf132
  v76 := Tryz.zeroValue132
  t85 := Tryz.underlying187
  a85 := Tryz.isAgg187
  z85 := Tryz.sizeOf187
  v85 := Tryz.zeroValue187
  t127 := Tryz.underlying160
  a127 := Tryz.isAgg160
  z127 := Tryz.sizeOf160
  v127 := Tryz.zeroValue160
  t143 := Tryz.underlying238
  a143 := Tryz.isAgg238
  z143 := Tryz.sizeOf238
  v143 := Tryz.zeroValue238
  t145 := Tryz.underlying240
  a145 := Tryz.isAgg240
  z145 := Tryz.sizeOf240
  v145 := Tryz.zeroValue240
  t167 := Tryz.underlying186
  a167 := Tryz.isAgg186
  z167 := Tryz.sizeOf186
  v167 := Tryz.zeroValue186
  t168 := Tryz.underlying189
  a168 := Tryz.isAgg189
  z168 := Tryz.sizeOf189
  v168 := Tryz.zeroValue189
  t171 := Tryz.underlying195
  a171 := Tryz.isAgg195
  z171 := Tryz.sizeOf195
  v171 := Tryz.zeroValue195
  t173 := Tryz.underlying197
  a173 := Tryz.isAgg197
  z173 := Tryz.sizeOf197
  v173 := Tryz.zeroValue197
  t175 := Tryz.underlying149
  a175 := Tryz.isAgg149
  z175 := Tryz.sizeOf149
  v175 := Tryz.zeroValue149
  t210 := Tryz.underlying217
  a210 := Tryz.isAgg217
  z210 := Tryz.sizeOf217
  v210 := Tryz.zeroValue217
  t212 := Tryz.underlying221
  a212 := Tryz.isAgg221
  z212 := Tryz.sizeOf221
  v212 := Tryz.zeroValue221
  t213 := Tryz.underlying222
  a213 := Tryz.isAgg222
  z213 := Tryz.sizeOf222
  t232 := Tryz.underlying251
  a232 := Tryz.isAgg251
  z232 := Tryz.sizeOf251
  v232 := Tryz.zeroValue251
  t233 := Tryz.underlying252
  a233 := Tryz.isAgg252
  z233 := Tryz.sizeOf252
  v233 := Tryz.zeroValue252
  g15 := by kernel_rfl
  g16 := by kernel_rfl
  g17 := by kernel_rfl
  g18 := by kernel_rfl
  g19 := by kernel_rfl
  t80 := Tryz.underlying141
  a80 := Tryz.isAgg141
  z80 := Tryz.sizeOf141
  v80 := Tryz.zeroValue141
  i0 := by kernel_rfl
  i2 := by kernel_rfl
  i3 := by kernel_rfl
  i4 := by kernel_rfl
  i5 := by kernel_rfl
  i9 := by kernel_rfl
  i20 := by kernel_rfl
  i21 := by kernel_rfl
  i37 := by kernel_rfl
  i46 := by kernel_rfl
  i51 := by kernel_rfl
  i53 := by kernel_rfl
  i75 := by kernel_rfl
  i76 := by kernel_rfl
  i80 := by kernel_rfl
  i85 := by kernel_rfl
  i127 := by kernel_rfl
  i143 := by kernel_rfl
  i145 := by kernel_rfl
  i167 := by kernel_rfl
  i168 := by kernel_rfl
  i171 := by kernel_rfl
  i173 := by kernel_rfl
  i175 := by kernel_rfl
  i210 := by kernel_rfl
  i212 := by kernel_rfl
  i232 := by kernel_rfl
  i233 := by kernel_rfl
  m15 := by kernel_rfl
  m16 := by kernel_rfl
  m17 := by kernel_rfl
  m18 := by kernel_rfl
  m19 := by kernel_rfl
  c0 := by kernel_rfl
  c2 := by kernel_rfl
  c3 := by kernel_rfl
  c4 := by kernel_rfl
  c5 := by kernel_rfl
  c9 := by kernel_rfl
  c20 := by kernel_rfl
  c21 := by kernel_rfl
  c37 := by kernel_rfl
  c46 := by kernel_rfl
  c51 := by kernel_rfl
  c53 := by kernel_rfl
  c75 := by kernel_rfl
  c76 := by kernel_rfl
  c80 := by kernel_rfl
  c85 := by kernel_rfl
  c127 := by kernel_rfl
  c143 := by kernel_rfl
  c145 := by kernel_rfl
  c167 := by kernel_rfl
  c168 := by kernel_rfl
  c171 := by kernel_rfl
  c173 := by kernel_rfl
  c175 := by kernel_rfl
  c210 := by kernel_rfl
  c212 := by kernel_rfl
  c213 := by kernel_rfl
  c232 := by kernel_rfl
  c233 := by kernel_rfl }
open Go.RowKit in
/-- strconv.Atoi, AT EVERY STRING THAT SPELLS AN int ('Lib.atoiAll .. = .ok v'; of whatever length: leading zeros count): v, AND NO ERROR. The world: as it was, or with the one new row that '[]byte(..)' lays. (LAID: no walk: one application.) -/
theorem Tryz.strconv_Atoi_ok (s : ByteArray) (hmax : s.size ≤ 9223372036854775806) (v : Int) (h : Lib.atoiAll s.data.toList = .ok v) (w : World) :
    Calls Tryz.prog 103 #[.string s] w fun e w' => e = .returned (.tuple #[.int .i64 v, .nilIface]) ∧ (w' = w ∨ ∃ t, w' = Lib.bytesWorld w 5 t) := Any.strconv_Atoi_ok Tryz.laysC172 s hmax v h w
def Tryz.laysPu14_ren : Go.Shelf.Ren := ⟨fun | 14 => 122 | 16 => 145 | 17 => 129 | 19 => 174 | 20 => 175 | 21 => 159 | 22 => 160 | 23 => 161 | 24 => 162 | 25 => 190 | 27 => 75 | 26 => 191 | 28 => 110 | 29 => 135 | 30 => 165 | 31 => 166 | 32 => 167 | 33 => 168 | 35 => 193 | 34 => 192 | 36 => 194 | 37 => 195 | 38 => 196 | 39 => 211 | 40 => 212 | n => n, fun | 9 => 9 | 3 => 3 | 22 => 22 | 24 => 131 | 25 => 149 | 4 => 4 | 34 => 186 | 5 => 5 | 36 => 56 | 37 => 110 | 0 => 0 | 39 => 189 | 21 => 21 | 44 => 217 | 47 => 160 | 50 => 240 | 48 => 238 | 2 => 2 | 52 => 195 | 55 => 197 | 59 => 221 | 60 => 81 | 20 => 20 | 61 => 222 | 65 => 251 | 66 => 252 | 67 => 141 | n => n, fun | 0 => 1 | 1 => 2 | 2 => 3 | 3 => 6 | 4 => 7 | n => n⟩
theorem Tryz.laysPu14 : Go.Proofs.LaysPu.n14 Tryz.prog Tryz.laysPu14_ren := {
  mixed := by kernel_rfl
  f14 := Tryz.func122.trans (congrArg some (by kernel_rfl))
  f16 := Tryz.func145.trans (congrArg some (by kernel_rfl))
  f17 := Tryz.func129.trans (congrArg some (by kernel_rfl))
  f19 := Tryz.func174.trans (congrArg some (by kernel_rfl))
  f20 := Tryz.func175.trans (congrArg some (by kernel_rfl))
  f21 := Tryz.func159.trans (congrArg some (by kernel_rfl))
  f22 := Tryz.func160.trans (congrArg some (by kernel_rfl))
  f23 := Tryz.func161.trans (congrArg some (by kernel_rfl))
  f24 := Tryz.func162.trans (congrArg some (by kernel_rfl))
  f25 := Tryz.func190.trans (congrArg some (by kernel_rfl))
  f26 := Tryz.func191.trans (congrArg some (by kernel_rfl))
  f27 := Tryz.func75.trans (congrArg some (by kernel_rfl))
  f28 := Tryz.func110.trans (congrArg some (by kernel_rfl))
  f29 := Tryz.func135.trans (congrArg some (by kernel_rfl))
  f30 := Tryz.func165.trans (congrArg some (by kernel_rfl))
  f31 := Tryz.func166.trans (congrArg some (by kernel_rfl))
  f32 := Tryz.func167.trans (congrArg some (by kernel_rfl))
  f33 := Tryz.func168.trans (congrArg some (by kernel_rfl))
  f34 := Tryz.func192.trans (congrArg some (by kernel_rfl))
  f35 := Tryz.func193.trans (congrArg some (by kernel_rfl))
  f36 := Tryz.func194.trans (congrArg some (by kernel_rfl))
  f37 := Tryz.func195.trans (congrArg some (by kernel_rfl))
  f38 := Tryz.func196.trans (congrArg some (by kernel_rfl))
  f39 := Tryz.func211.trans (congrArg some (by kernel_rfl))
  f40 := Tryz.func212.trans (congrArg some (by kernel_rfl))
  t0 := Tryz.underlying0
  a0 := Tryz.isAgg0
  z0 := Tryz.sizeOf0
  v0 := Tryz.zeroValue0
  i0 := by kernel_rfl
  t2 := Tryz.underlying2
  a2 := Tryz.isAgg2
  z2 := Tryz.sizeOf2
  v2 := Tryz.zeroValue2
  i2 := by kernel_rfl
  t3 := Tryz.underlying3
  a3 := Tryz.isAgg3
  z3 := Tryz.sizeOf3
  v3 := Tryz.zeroValue3
  i3 := by kernel_rfl
  t4 := Tryz.underlying4
  a4 := Tryz.isAgg4
  z4 := Tryz.sizeOf4
  v4 := Tryz.zeroValue4
  i4 := by kernel_rfl
  t5 := Tryz.underlying5
  a5 := Tryz.isAgg5
  z5 := Tryz.sizeOf5
  v5 := Tryz.zeroValue5
  i5 := by kernel_rfl
  t9 := Tryz.underlying9
  a9 := Tryz.isAgg9
  z9 := Tryz.sizeOf9
  v9 := Tryz.zeroValue9
  i9 := by kernel_rfl
  t20 := Tryz.underlying20
  a20 := Tryz.isAgg20
  z20 := Tryz.sizeOf20
  v20 := Tryz.zeroValue20
  i20 := by kernel_rfl
  t21 := Tryz.underlying21
  a21 := Tryz.isAgg21
  z21 := Tryz.sizeOf21
  v21 := Tryz.zeroValue21
  i21 := by kernel_rfl
  t22 := Tryz.underlying22
  a22 := Tryz.isAgg22
  z22 := Tryz.sizeOf22
  v22 := Tryz.zeroValue22
  i22 := by kernel_rfl
  t24 := Tryz.underlying131
  a24 := Tryz.isAgg131
  z24 := Tryz.sizeOf131
  v24 := Tryz.zeroValue131
  i24 := by kernel_rfl
  t25 := Tryz.underlying149
  a25 := Tryz.isAgg149
  z25 := Tryz.sizeOf149
  v25 := Tryz.zeroValue149
  i25 := by kernel_rfl
  t34 := Tryz.underlying186
  a34 := Tryz.isAgg186
  z34 := Tryz.sizeOf186
  v34 := Tryz.zeroValue186
  i34 := by kernel_rfl
  c34 := by kernel_rfl
  t36 := Tryz.underlying56
  a36 := Tryz.isAgg56
  z36 := Tryz.sizeOf56
  v36 := Tryz.zeroValue56
  i36 := by kernel_rfl
  t37 := Tryz.underlying110
  a37 := Tryz.isAgg110
  z37 := Tryz.sizeOf110
  v37 := Tryz.zeroValue110
  i37 := by kernel_rfl
  t39 := Tryz.underlying189
  a39 := Tryz.isAgg189
  z39 := Tryz.sizeOf189
  v39 := Tryz.zeroValue189
  i39 := by kernel_rfl
  t44 := Tryz.underlying217
  a44 := Tryz.isAgg217
  z44 := Tryz.sizeOf217
  v44 := Tryz.zeroValue217
  i44 := by kernel_rfl
  t47 := Tryz.underlying160
  a47 := Tryz.isAgg160
  z47 := Tryz.sizeOf160
  v47 := Tryz.zeroValue160
  i47 := by kernel_rfl
  t48 := Tryz.underlying238
  a48 := Tryz.isAgg238
  z48 := Tryz.sizeOf238
  v48 := Tryz.zeroValue238
  i48 := by kernel_rfl
  t50 := Tryz.underlying240
  a50 := Tryz.isAgg240
  z50 := Tryz.sizeOf240
  v50 := Tryz.zeroValue240
  i50 := by kernel_rfl
  t52 := Tryz.underlying195
  a52 := Tryz.isAgg195
  z52 := Tryz.sizeOf195
  v52 := Tryz.zeroValue195
  i52 := by kernel_rfl
  t55 := Tryz.underlying197
  a55 := Tryz.isAgg197
  z55 := Tryz.sizeOf197
  v55 := Tryz.zeroValue197
  i55 := by kernel_rfl
  t59 := Tryz.underlying221
  a59 := Tryz.isAgg221
  z59 := Tryz.sizeOf221
  v59 := Tryz.zeroValue221
  i59 := by kernel_rfl
  t60 := Tryz.underlying81
  a60 := Tryz.isAgg81
  z60 := Tryz.sizeOf81
  v60 := Tryz.zeroValue81
  i60 := by kernel_rfl
  t61 := Tryz.underlying222
  a61 := Tryz.isAgg222
  z61 := Tryz.sizeOf222
  t65 := Tryz.underlying251
  a65 := Tryz.isAgg251
  z65 := Tryz.sizeOf251
  v65 := Tryz.zeroValue251
  i65 := by kernel_rfl
  t66 := Tryz.underlying252
  a66 := Tryz.isAgg252
  z66 := Tryz.sizeOf252
  v66 := Tryz.zeroValue252
  i66 := by kernel_rfl
  t67 := Tryz.underlying141
  a67 := Tryz.isAgg141
  z67 := Tryz.sizeOf141
  v67 := Tryz.zeroValue141
  i67 := by kernel_rfl
  g0 := by kernel_rfl
  m0 := by kernel_rfl
  g1 := by kernel_rfl
  m1 := by kernel_rfl
  g2 := by kernel_rfl
  m2 := by kernel_rfl
  g3 := by kernel_rfl
  m3 := by kernel_rfl
  g4 := by kernel_rfl
  m4 := by kernel_rfl }
open Go.RowKit in
/-- strconv.ParseUint(s, 10, 64), AT EVERY STRING THAT SPELLS A uint64 ('Lib.parseUintB 64 s.data.toList = .ok u'): u, AND NO ERROR. (LAID: no walk: one application.) -/
theorem Tryz.strconv_ParseUint_10_at64_ok (s : ByteArray) (hmax : s.size ≤ 9223372036854775806) (u : Nat) (h : Lib.parseUintB 64 s.data.toList = .ok u) (w : World) :
    Calls Tryz.prog 122 #[.string s, .int .i64 10, .int .i64 64] w fun e w' => e = .returned (.tuple #[.int .u64 u, .nilIface]) ∧ (w' = w ∨ w' = Lib.bytesWorld w 5 s) := Any.strconv_ParseUint_10_at64_ok Tryz.laysPu14 s hmax u h w
def Tryz.lays100_ren : Go.Shelf.Ren := ⟨fun | 100 => 45 | 207 => 78 | n => n, fun | 9 => 9 | 4 => 4 | 3 => 3 | n => n, fun | n => n⟩
theorem Tryz.lays100 : Go.Proofs.Lays.n100 Tryz.prog Tryz.lays100_ren := {
  mixed := by kernel_rfl
  f100 := Tryz.func45.trans (congrArg some (by kernel_rfl))
  f207 := Tryz.func78.trans (congrArg some (by kernel_rfl))
  t3 := Tryz.underlying3
  a3 := Tryz.isAgg3
  z3 := Tryz.sizeOf3
  v3 := Tryz.zeroValue3
  t4 := Tryz.underlying4
  a4 := Tryz.isAgg4
  z4 := Tryz.sizeOf4
  v4 := Tryz.zeroValue4
  t9 := Tryz.underlying9
  a9 := Tryz.isAgg9
  z9 := Tryz.sizeOf9
  v9 := Tryz.zeroValue9 }
open Go.RowKit Go.Lib in
/-- strings.HasSuffix: "HasSuffix reports whether the string s ends with suffix.": IT RETURNS 'Lib.hasSuffix s suffix'; the world is as it was. ('hs': no Go string is longer: a caller has it of every string that it was handed.) (LAID: no walk: one application.) -/
theorem Tryz.strings_HasSuffix (s p : ByteArray) (w : World) (hs : s.size ≤ 9223372036854775807) :
    Calls Tryz.prog 45 #[.string s, .string p] w fun e w' => e = .returned (.bool (Lib.hasSuffix s.data.toList p.data.toList)) ∧ w' = w := Any.strings_HasSuffix Tryz.lays100 s p w hs
def Tryz.lays264_ren : Go.Shelf.Ren := ⟨fun | 264 => 131 | n => n, fun | 53 => 22 | 46 => 56 | n => n, fun | n => n⟩
theorem Tryz.lays264 : Go.Proofs.Lays.n264 Tryz.prog Tryz.lays264_ren := {
  mixed := by kernel_rfl
  f264 := Tryz.func131.trans (congrArg some (by kernel_rfl))
  t46 := Tryz.underlying56
  a46 := Tryz.isAgg56
  z46 := Tryz.sizeOf56
  v46 := Tryz.zeroValue56
  t53 := Tryz.underlying22
  a53 := Tryz.isAgg22
  z53 := Tryz.sizeOf22
  v53 := Tryz.zeroValue22 }
open Go.RowKit Go.Lib in
theorem Tryz.bits_Mul64 (x y : Nat) (hx : x < 18446744073709551616) (hy : y < 18446744073709551616) (w : World) :
    Calls Tryz.prog 131 #[.int .u64 x, .int .u64 y] w fun e w' => e = .returned (.tuple #[.int .u64 ((x * y / 18446744073709551616 : Nat) : Int), .int .u64 ((x * y % 18446744073709551616 : Nat) : Int)]) ∧ w' = w := Any.bits_Mul64 Tryz.lays264 x y hx hy w
def Tryz.lays105_ren : Go.Shelf.Ren := ⟨fun | 105 => 74 | 212 => 104 | 99 => 105 | 165 => 106 | 166 => 107 | 170 => 108 | 169 => 109 | 263 => 130 | 264 => 131 | 206 => 132 | 240 => 133 | 241 => 134 | 276 => 163 | 277 => 164 | n => n, fun | 9 => 9 | 3 => 3 | 4 => 4 | 20 => 20 | 0 => 0 | 46 => 56 | 109 => 134 | 5 => 5 | 72 => 138 | 76 => 132 | 51 => 81 | 146 => 156 | 53 => 22 | 148 => 158 | 70 => 136 | 37 => 110 | 75 => 131 | 127 => 160 | 164 => 192 | 80 => 141 | n => n, fun | n => n⟩
theorem Tryz.lays105 : Go.Proofs.Lays.n105 Tryz.prog Tryz.lays105_ren := {
  mixed := by kernel_rfl
  f99 := Tryz.func105.trans (congrArg some (by kernel_rfl))
  f105 := Tryz.func74.trans (congrArg some (by kernel_rfl))
  f165 := Tryz.func106.trans (congrArg some (by kernel_rfl))
  f166 := Tryz.func107.trans (congrArg some (by kernel_rfl))
  f169 := Tryz.func109.trans (congrArg some (by kernel_rfl))
  f170 := Tryz.func108.trans (congrArg some (by kernel_rfl))
  f206 := Tryz.func132.trans (congrArg some (by kernel_rfl))
  f212 := Tryz.func104.trans (congrArg some (by kernel_rfl))
  f240 := Tryz.func133.trans (congrArg some (by kernel_rfl))
  f241 := Tryz.func134.trans (congrArg some (by kernel_rfl))
  f263 := Tryz.func130.trans (congrArg some (by kernel_rfl))
  f264 := Tryz.func131.trans (congrArg some (by kernel_rfl))
  f276 := Tryz.func163.trans (congrArg some (by kernel_rfl))
  f277 := Tryz.func164.trans (congrArg some (by kernel_rfl))
  t0 := Tryz.underlying0
  a0 := Tryz.isAgg0
  z0 := Tryz.sizeOf0
  v0 := Tryz.zeroValue0
  t3 := Tryz.underlying3
  a3 := Tryz.isAgg3
  z3 := Tryz.sizeOf3
  v3 := Tryz.zeroValue3
  t4 := Tryz.underlying4
  a4 := Tryz.isAgg4
  z4 := Tryz.sizeOf4
  v4 := Tryz.zeroValue4
  t5 := Tryz.underlying5
  a5 := Tryz.isAgg5
  z5 := Tryz.sizeOf5
  v5 := Tryz.zeroValue5
  t9 := Tryz.underlying9
  a9 := Tryz.isAgg9
  z9 := Tryz.sizeOf9
  v9 := Tryz.zeroValue9
  t20 := Tryz.underlying20
  a20 := Tryz.isAgg20
  z20 := Tryz.sizeOf20
  v20 := Tryz.zeroValue20
  t37 := Tryz.underlying110
  a37 := Tryz.isAgg110
  z37 := Tryz.sizeOf110
  v37 := Tryz.zeroValue110
  t46 := Tryz.underlying56
  a46 := Tryz.isAgg56
  z46 := Tryz.sizeOf56
  v46 := Tryz.zeroValue56
  t51 := Tryz.underlying81
  a51 := Tryz.isAgg81
  z51 := Tryz.sizeOf81
  v51 := Tryz.zeroValue81
  t53 := Tryz.underlying22
  a53 := Tryz.isAgg22
  z53 := Tryz.sizeOf22
  v53 := Tryz.zeroValue22
  t70 := Tryz.underlying136
  a70 := Tryz.isAgg136
  z70 := Tryz.sizeOf136
  v70 := Tryz.zeroValue136
  t72 := Tryz.underlying138
  a72 := Tryz.isAgg138
  z72 := Tryz.sizeOf138
  v72 := Tryz.zeroValue138
  t75 := Tryz.underlying131
  a75 := Tryz.isAgg131
  z75 := Tryz.sizeOf131
  v75 := Tryz.zeroValue131
  t76 := Tryz.underlying132
  a76 := Tryz.isAgg132
  z76 := Tryz.sizeOf132
  v76 := Tryz.zeroValue132
  t109 := Tryz.underlying134
  a109 := Tryz.isAgg134
  z109 := Tryz.sizeOf134
  v109 := Tryz.zeroValue134
  t127 := Tryz.underlying160
  a127 := Tryz.isAgg160
  z127 := Tryz.sizeOf160
  v127 := Tryz.zeroValue160
  t146 := Tryz.underlying156
  a146 := Tryz.isAgg156
  z146 := Tryz.sizeOf156
  v146 := Tryz.zeroValue156
  t148 := Tryz.underlying158
  a148 := Tryz.isAgg158
  z148 := Tryz.sizeOf158
  v148 := Tryz.zeroValue158
  t164 := Tryz.underlying192
  a164 := Tryz.isAgg192
  z164 := Tryz.sizeOf192
  v164 := Tryz.zeroValue192 }
theorem Tryz.Builder_Extra_105 : Builder.Extra Tryz.prog Tryz.lays105_ren := {
  sizeBuilder := by kernel_rfl
  liesBuilder := by kernel_rfl
  t5 := Tryz.underlying5
  a5 := Tryz.isAgg5
  z5 := Tryz.sizeOf5
  v5 := Tryz.zeroValue5
  infoByte := by kernel_rfl
  cellsByte := by kernel_rfl
  sizeByte := by kernel_rfl
  neB5 := by decide }
open Go.RowKit Go.Lib in
/-- **strings.Repeat: count ≥ 0, the result within one allocation: count copies of s.** (LAID: no walk: one application.) -/
theorem Tryz.strings_Repeat (s : ByteArray) (c : Nat) (w : World) (hc : c ≤ 9223372036854775807) (hlen : s.size * c ≤ 140737488355328) :
    Calls Tryz.prog 74 #[.string s, .int .i64 c] w fun e w' => e = .returned (.string ⟨(Lib.repeatL s.data.toList c).toArray⟩) ∧ Below w.heap.size w w' := Any.strings_Repeat Tryz.lays105 Tryz.Builder_Extra_105 s c w hc hlen
end Go.Proofs

/- Trim, Of, Value, Len. -/
namespace Go.Proofs.YtiglekomfgfilaaGreatDoor
set_option maxRecDepth 100000
set_option maxHeartbeats 400000
set_option linter.all false
open Go.RowKit
theorem na_trim_any (a : Option Addr) (c : Nat) (l : List Nat) (w : World) (h : Sl w a c l) (hn : l.length ≤ 1000000) :
    Calls Tryz.prog 96 #[.slice a l.length c] w (GivesB (Na.cut l) w) := by
  have H1 := Lib.hid (na_right_any a c l w h hn)
  have h2 := (Na.rt_le h.ok).1
  have hr := Lib.hid (show Na.rt l = (Na.cut l).length from rfl)
  obtain ⟨i, hi, hz0, hz1, hz2⟩ := info_parts infoU32
  have HC := Lib.hid h.cut
  go_enter Tryz.func96, Tryz.ntmps96
  go_wp2_with (first | (go_at_call 113; (with_reducible refine (H1.out).mono ?_); rintro e w' ⟨rfl, rfl⟩) | (at_make; refine wpList_make_full _ rfl _ _ 100 rfl w.heap.size 81 i (.int .u32 0) 1 Tryz.underlying100 hi hz0 hz1 .i64 .i64 _ _ (Na.rt l) rfl rfl rfl rfl (by rw [hz2]; omega) (by unfold maxLen; omega) (Nat.le_refl _) ?_))
  intro w1 hown hgrow
  have hB1 : Below w.heap.size w w1 := (Below.refl _ _).grown hgrow (Nat.le_refl _) (fun k e => by cases e)
  have HK := Lib.hid (Blk.made hown)
  clear hown hgrow hz2 hz1 hz0 hi i
  go_wp2_with (first | (refine wpList_copy_splice rfl _ _ 100 100 rfl 81 Tryz.underlying100 (by kernel_rfl) _ _ _ _ _ _ rfl rfl w.heap.size 0 (u32s (List.replicate (Na.rt l) 0)) 81 HK.out (u32s (Na.cut l)) (by rw [u32s_len]; show _ = min _ _; have := hr.out; omega) (fun h0 => ⟨rfl, ((HC.out.on hB1).cells (by rwa [u32s_len] at h0))⟩) (by simp [u32s_len, hr.out]) (u32s_one _) w.heap.size w hB1 (Nat.le_refl _) ?_))
  intro w2 hg2 hB2
  go_wp2_with fail
  go_ret
  refine ⟨w.heap.size, rfl, Nat.le_refl _, ?_, hB2⟩
  have := hg2.out
  rw [splice_all _ _ (by simp [u32s_len, hr.out])] at this
  exact this
end Go.Proofs.YtiglekomfgfilaaGreatDoor
