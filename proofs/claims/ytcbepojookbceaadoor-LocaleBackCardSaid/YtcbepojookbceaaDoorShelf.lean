/-
  DERIVED: THE SHELF's CONTRACTS AT THIS DUMP, IN PLAIN WORDS (tools/lay-plain.mjs out of 'TrydShelf.lean', which tools/lay-shelf.mjs wrote): THE SAME DECLARATIONS UNDER THE SAME NAMES: 'import', 'namespace', 'open', 'def', 'theorem' AND NOTHING ELSE: no command of the shelf's: FOR A HAND-IN. Each laying: the table of numbers ('.._ren') and one theorem, a field a fact of the dump's own or the kernel's comparison; each contract: ONE APPLICATION.
-/
import Derived.Shelf.Strings.Builder1
import Derived.Shelf.Strings.Builder2
import Derived.Shelf.Strings.Trim
import Derived.Shelf.Small.Utf8
import Derived.Shelf.Small.Strs
import Derived.Shelf.Small.Wraps
import Derived.Shelf.Strings.BuilderF
import Derived.Shelf.Strconv.Atoi
import Derived.Shelf.Strconv.Itoa0
import Derived.Shelf.Strconv.Itoa1
import Derived.Shelf.LaysM
import Derived.Shelf.Strconv.Itoa2
import Derived.Shelf.Strconv.Itoa3
import Derived.Shelf.Strconv.AtoiErrFast
import Derived.Shelf.Strconv.ParseIntEmpty
import Derived.Shelf.Strconv.AtoiFail
import Derived.Shelf.Strconv.Clone
import Derived.Shelf.Strconv.SyntaxError
import Derived.Shelf.LaysC
import Derived.Shelf.Strconv.ToError
import Derived.Shelf.Strconv.Lower
import Derived.Shelf.Strconv.ParseUint10
import Derived.Shelf.Strconv.ParseUint10Empty
import Derived.Shelf.Strconv.ParseUint10Any
import Derived.Shelf.Strconv.ParseInt10
import Derived.Shelf.Strconv.AtoiLong
import Derived.Shelf.Strconv.AtoiInnerAll
import Derived.Shelf.Strconv.RangeError
import Derived.Shelf.Strconv.ToErrorRange
import Derived.Shelf.Strconv.AtoiAll
import Derived.Shelf.Strings.Search1
import Derived.Shelf.Strings.Search2
import Derived.Shelf.Strings.Search3
import Derived.Shelf.Strings.Count
import Derived.Shelf.Strings.Shaped
import Derived.Shelf.Strings.Prefix
import Derived.Shelf.Strings.Split
import Derived.Shelf.Strings.Replace
import Derived.Shelf.Strings.SplitShaped
import Derived.Shelf.Strings.Runes
import Derived.Shelf.Strings.AsciiSet
import Derived.Shelf.Bits.Mul64
import Derived.Shelf.Strings.Repeat
import Derived.Shelf.Unicode.DecodeSlow
import Derived.Shelf.Unicode.DecodeAny
import Derived.Shelf.Unicode.DecodeLast
import Derived.Test.YtcbepojookbceaaDoorProg
namespace Go.Proofs
set_option linter.all false
open Go.Shelf
def Tryd.lays161_ren : Go.Shelf.Ren := ⟨fun | 161 => 75 | 231 => 68 | 227 => 70 | 233 => 71 | 235 => 73 | 228 => 96 | 197 => 95 | 151 => 97 | 260 => 114 | 152 => 115 | 137 => 131 | 119 => 132 | 224 => 129 | 225 => 128 | 217 => 127 | 266 => 140 | n => n, fun | 9 => 9 | 4 => 4 | 3 => 3 | 5 => 5 | 117 => 87 | 116 => 86 | 0 => 0 | 124 => 90 | 105 => 105 | 21 => 21 | 119 => 138 | 46 => 93 | 139 => 141 | 138 => 140 | n => n, fun | 3 => 5 | 4 => 6 | n => n⟩
theorem Tryd.lays161 : Go.Proofs.Lays.n161 Tryd.prog Tryd.lays161_ren := {
  mixed := by kernel_rfl
  f119 := Tryd.func132.trans (congrArg some (by kernel_rfl))
  f137 := Tryd.func131.trans (congrArg some (by kernel_rfl))
  f151 := Tryd.func97.trans (congrArg some (by kernel_rfl))
  f152 := Tryd.func115.trans (congrArg some (by kernel_rfl))
  f161 := Tryd.func75.trans (congrArg some (by kernel_rfl))
  f197 := Tryd.func95.trans (congrArg some (by kernel_rfl))
  f217 := Tryd.func127.trans (congrArg some (by kernel_rfl))
  f224 := Tryd.func129.trans (congrArg some (by kernel_rfl))
  f225 := Tryd.func128.trans (congrArg some (by kernel_rfl))
  f227 := Tryd.func70.trans (congrArg some (by kernel_rfl))
  f228 := Tryd.func96.trans (congrArg some (by kernel_rfl))
  f231 := Tryd.func68.trans (congrArg some (by kernel_rfl))
  f233 := Tryd.func71.trans (congrArg some (by kernel_rfl))
  f235 := Tryd.func73.trans (congrArg some (by kernel_rfl))
  f260 := Tryd.func114.trans (congrArg some (by kernel_rfl))
  f266 := Tryd.func140.trans (congrArg some (by kernel_rfl))
  t0 := Tryd.underlying0
  a0 := Tryd.isAgg0
  z0 := Tryd.sizeOf0
  v0 := Tryd.zeroValue0
  t3 := Tryd.underlying3
  a3 := Tryd.isAgg3
  z3 := Tryd.sizeOf3
  v3 := Tryd.zeroValue3
  t4 := Tryd.underlying4
  a4 := Tryd.isAgg4
  z4 := Tryd.sizeOf4
  v4 := Tryd.zeroValue4
  t5 := Tryd.underlying5
  a5 := Tryd.isAgg5
  z5 := Tryd.sizeOf5
  v5 := Tryd.zeroValue5
  t9 := Tryd.underlying9
  a9 := Tryd.isAgg9
  z9 := Tryd.sizeOf9
  v9 := Tryd.zeroValue9
  t21 := Tryd.underlying21
  a21 := Tryd.isAgg21
  z21 := Tryd.sizeOf21
  v21 := Tryd.zeroValue21
  t46 := Tryd.underlying93
  a46 := Tryd.isAgg93
  z46 := Tryd.sizeOf93
  v46 := Tryd.zeroValue93
  t105 := Tryd.underlying105
  a105 := Tryd.isAgg105
  z105 := Tryd.sizeOf105
  v105 := Tryd.zeroValue105
  t116 := Tryd.underlying86
  a116 := Tryd.isAgg86
  z116 := Tryd.sizeOf86
  t117 := Tryd.underlying87
  a117 := Tryd.isAgg87
  z117 := Tryd.sizeOf87
  v117 := Tryd.zeroValue87
  t119 := Tryd.underlying138
  a119 := Tryd.isAgg138
  z119 := Tryd.sizeOf138
  t124 := Tryd.underlying90
  a124 := Tryd.isAgg90
  z124 := Tryd.sizeOf90
  v124 := Tryd.zeroValue90
  t138 := Tryd.underlying140
  a138 := Tryd.isAgg140
  z138 := Tryd.sizeOf140
  v138 := Tryd.zeroValue140
  t139 := Tryd.underlying141
  a139 := Tryd.isAgg141
  z139 := Tryd.sizeOf141
  v139 := Tryd.zeroValue141
  g3 := by kernel_rfl
  g4 := by kernel_rfl }
open Go.RowKit in
/-- strings.TrimLeft: "TrimLeft returns a slice of the string s with all leading Unicode code points contained in cutset removed.": AT A cutset OF ONE ASCII BYTE. The world is as it was. (LAID: no walk: one application.) -/
theorem Tryd.strings_TrimLeft_one (s : ByteArray) (c : UInt8) (hc : c.toNat < 128) (w : World) :
    Calls Tryd.prog 75 #[.string s, .string ⟨#[c]⟩] w fun e w' => e = .returned (.string ⟨(Lib.trimLeftB s.data.toList c).toArray⟩) ∧ w' = w := Any.strings_TrimLeft_one Tryd.lays161 s c hc w
def Tryd.lays162_ren : Go.Shelf.Ren := ⟨fun | 162 => 76 | 232 => 69 | 227 => 70 | 234 => 72 | 236 => 74 | 228 => 96 | 271 => 98 | 151 => 97 | 120 => 116 | 197 => 95 | 152 => 115 | 260 => 114 | 137 => 131 | 119 => 132 | 224 => 129 | 225 => 128 | 217 => 127 | 266 => 140 | n => n, fun | 9 => 9 | 4 => 4 | 3 => 3 | 5 => 5 | 117 => 87 | 116 => 86 | 0 => 0 | 124 => 90 | 21 => 21 | 105 => 105 | 46 => 93 | 119 => 138 | 139 => 141 | 138 => 140 | n => n, fun | 3 => 5 | 4 => 6 | n => n⟩
theorem Tryd.lays162 : Go.Proofs.Lays.n162 Tryd.prog Tryd.lays162_ren := {
  mixed := by kernel_rfl
  f119 := Tryd.func132.trans (congrArg some (by kernel_rfl))
  f120 := Tryd.func116.trans (congrArg some (by kernel_rfl))
  f137 := Tryd.func131.trans (congrArg some (by kernel_rfl))
  f151 := Tryd.func97.trans (congrArg some (by kernel_rfl))
  f152 := Tryd.func115.trans (congrArg some (by kernel_rfl))
  f162 := Tryd.func76.trans (congrArg some (by kernel_rfl))
  f197 := Tryd.func95.trans (congrArg some (by kernel_rfl))
  f217 := Tryd.func127.trans (congrArg some (by kernel_rfl))
  f224 := Tryd.func129.trans (congrArg some (by kernel_rfl))
  f225 := Tryd.func128.trans (congrArg some (by kernel_rfl))
  f227 := Tryd.func70.trans (congrArg some (by kernel_rfl))
  f228 := Tryd.func96.trans (congrArg some (by kernel_rfl))
  f232 := Tryd.func69.trans (congrArg some (by kernel_rfl))
  f234 := Tryd.func72.trans (congrArg some (by kernel_rfl))
  f236 := Tryd.func74.trans (congrArg some (by kernel_rfl))
  f260 := Tryd.func114.trans (congrArg some (by kernel_rfl))
  f266 := Tryd.func140.trans (congrArg some (by kernel_rfl))
  f271 := Tryd.func98.trans (congrArg some (by kernel_rfl))
  t0 := Tryd.underlying0
  a0 := Tryd.isAgg0
  z0 := Tryd.sizeOf0
  v0 := Tryd.zeroValue0
  t3 := Tryd.underlying3
  a3 := Tryd.isAgg3
  z3 := Tryd.sizeOf3
  v3 := Tryd.zeroValue3
  t4 := Tryd.underlying4
  a4 := Tryd.isAgg4
  z4 := Tryd.sizeOf4
  v4 := Tryd.zeroValue4
  t5 := Tryd.underlying5
  a5 := Tryd.isAgg5
  z5 := Tryd.sizeOf5
  v5 := Tryd.zeroValue5
  t9 := Tryd.underlying9
  a9 := Tryd.isAgg9
  z9 := Tryd.sizeOf9
  v9 := Tryd.zeroValue9
  t21 := Tryd.underlying21
  a21 := Tryd.isAgg21
  z21 := Tryd.sizeOf21
  v21 := Tryd.zeroValue21
  t46 := Tryd.underlying93
  a46 := Tryd.isAgg93
  z46 := Tryd.sizeOf93
  v46 := Tryd.zeroValue93
  t105 := Tryd.underlying105
  a105 := Tryd.isAgg105
  z105 := Tryd.sizeOf105
  v105 := Tryd.zeroValue105
  t116 := Tryd.underlying86
  a116 := Tryd.isAgg86
  z116 := Tryd.sizeOf86
  t117 := Tryd.underlying87
  a117 := Tryd.isAgg87
  z117 := Tryd.sizeOf87
  v117 := Tryd.zeroValue87
  t119 := Tryd.underlying138
  a119 := Tryd.isAgg138
  z119 := Tryd.sizeOf138
  t124 := Tryd.underlying90
  a124 := Tryd.isAgg90
  z124 := Tryd.sizeOf90
  v124 := Tryd.zeroValue90
  t138 := Tryd.underlying140
  a138 := Tryd.isAgg140
  z138 := Tryd.sizeOf140
  v138 := Tryd.zeroValue140
  t139 := Tryd.underlying141
  a139 := Tryd.isAgg141
  z139 := Tryd.sizeOf141
  v139 := Tryd.zeroValue141
  g3 := by kernel_rfl
  g4 := by kernel_rfl }
open Go.RowKit in
/-- strings.TrimRight: "TrimRight returns a slice of the string s, with all trailing Unicode code points contained in cutset removed.": AT A cutset OF ONE ASCII BYTE. The world is as it was. (LAID: no walk: one application.) -/
theorem Tryd.strings_TrimRight_one (s : ByteArray) (c : UInt8) (hc : c.toNat < 128) (w : World) (hs : s.size ≤ 9223372036854775807) :
    Calls Tryd.prog 76 #[.string s, .string ⟨#[c]⟩] w fun e w' => e = .returned (.string ⟨(Lib.trimRightB s.data.toList c).toArray⟩) ∧ w' = w := Any.strings_TrimRight_one Tryd.lays162 s c hc w hs
def Tryd.lays160_ren : Go.Shelf.Ren := ⟨fun | 160 => 43 | 232 => 69 | 231 => 68 | 227 => 70 | 234 => 72 | 233 => 71 | 236 => 74 | 235 => 73 | 228 => 96 | 271 => 98 | 151 => 97 | 197 => 95 | 120 => 116 | 152 => 115 | 260 => 114 | 137 => 131 | 119 => 132 | 224 => 129 | 225 => 128 | 217 => 127 | 266 => 140 | n => n, fun | 9 => 9 | 4 => 4 | 3 => 3 | 5 => 5 | 117 => 87 | 116 => 86 | 0 => 0 | 124 => 90 | 21 => 21 | 105 => 105 | 46 => 93 | 119 => 138 | 139 => 141 | 138 => 140 | n => n, fun | 3 => 5 | 4 => 6 | n => n⟩
theorem Tryd.lays160 : Go.Proofs.Lays.n160 Tryd.prog Tryd.lays160_ren := {
  mixed := by kernel_rfl
  f119 := Tryd.func132.trans (congrArg some (by kernel_rfl))
  f120 := Tryd.func116.trans (congrArg some (by kernel_rfl))
  f137 := Tryd.func131.trans (congrArg some (by kernel_rfl))
  f151 := Tryd.func97.trans (congrArg some (by kernel_rfl))
  f152 := Tryd.func115.trans (congrArg some (by kernel_rfl))
  f160 := Tryd.func43.trans (congrArg some (by kernel_rfl))
  f197 := Tryd.func95.trans (congrArg some (by kernel_rfl))
  f217 := Tryd.func127.trans (congrArg some (by kernel_rfl))
  f224 := Tryd.func129.trans (congrArg some (by kernel_rfl))
  f225 := Tryd.func128.trans (congrArg some (by kernel_rfl))
  f227 := Tryd.func70.trans (congrArg some (by kernel_rfl))
  f228 := Tryd.func96.trans (congrArg some (by kernel_rfl))
  f231 := Tryd.func68.trans (congrArg some (by kernel_rfl))
  f232 := Tryd.func69.trans (congrArg some (by kernel_rfl))
  f233 := Tryd.func71.trans (congrArg some (by kernel_rfl))
  f234 := Tryd.func72.trans (congrArg some (by kernel_rfl))
  f235 := Tryd.func73.trans (congrArg some (by kernel_rfl))
  f236 := Tryd.func74.trans (congrArg some (by kernel_rfl))
  f260 := Tryd.func114.trans (congrArg some (by kernel_rfl))
  f266 := Tryd.func140.trans (congrArg some (by kernel_rfl))
  f271 := Tryd.func98.trans (congrArg some (by kernel_rfl))
  t0 := Tryd.underlying0
  a0 := Tryd.isAgg0
  z0 := Tryd.sizeOf0
  v0 := Tryd.zeroValue0
  t3 := Tryd.underlying3
  a3 := Tryd.isAgg3
  z3 := Tryd.sizeOf3
  v3 := Tryd.zeroValue3
  t4 := Tryd.underlying4
  a4 := Tryd.isAgg4
  z4 := Tryd.sizeOf4
  v4 := Tryd.zeroValue4
  t5 := Tryd.underlying5
  a5 := Tryd.isAgg5
  z5 := Tryd.sizeOf5
  v5 := Tryd.zeroValue5
  t9 := Tryd.underlying9
  a9 := Tryd.isAgg9
  z9 := Tryd.sizeOf9
  v9 := Tryd.zeroValue9
  t21 := Tryd.underlying21
  a21 := Tryd.isAgg21
  z21 := Tryd.sizeOf21
  v21 := Tryd.zeroValue21
  t46 := Tryd.underlying93
  a46 := Tryd.isAgg93
  z46 := Tryd.sizeOf93
  v46 := Tryd.zeroValue93
  t105 := Tryd.underlying105
  a105 := Tryd.isAgg105
  z105 := Tryd.sizeOf105
  v105 := Tryd.zeroValue105
  t116 := Tryd.underlying86
  a116 := Tryd.isAgg86
  z116 := Tryd.sizeOf86
  t117 := Tryd.underlying87
  a117 := Tryd.isAgg87
  z117 := Tryd.sizeOf87
  v117 := Tryd.zeroValue87
  t119 := Tryd.underlying138
  a119 := Tryd.isAgg138
  z119 := Tryd.sizeOf138
  t124 := Tryd.underlying90
  a124 := Tryd.isAgg90
  z124 := Tryd.sizeOf90
  v124 := Tryd.zeroValue90
  t138 := Tryd.underlying140
  a138 := Tryd.isAgg140
  z138 := Tryd.sizeOf140
  v138 := Tryd.zeroValue140
  t139 := Tryd.underlying141
  a139 := Tryd.isAgg141
  z139 := Tryd.sizeOf141
  v139 := Tryd.zeroValue141
  g3 := by kernel_rfl
  g4 := by kernel_rfl }
open Go.RowKit in
/-- strings.Trim: "Trim returns a slice of the string s with all leading and trailing Unicode code points contained in cutset removed.": AT A cutset OF ONE ASCII BYTE. THE WORLD BEHIND IT: as it was, or (where s is not empty) with ONE DRAW MORE off the tape: the statement 'return trimLeftByte(trimRightByte(s, c), c)' draws its order of evaluation. (LAID: no walk: one application.) -/
theorem Tryd.strings_Trim_one (s : ByteArray) (c : UInt8) (hc : c.toNat < 128) (w : World) (hs : s.size ≤ 9223372036854775807) :
    Calls Tryd.prog 43 #[.string s, .string ⟨#[c]⟩] w fun e w' => e = .returned (.string ⟨(Lib.trimB s.data.toList c).toArray⟩) ∧ (w' = w ∨ w' = w.drew) := Any.strings_Trim_one Tryd.lays160 s c hc w hs
def Tryd.lays106_ren : Go.Shelf.Ren := ⟨fun | 106 => 92 | 213 => 110 | 265 => 126 | n => n, fun | 9 => 9 | 3 => 3 | n => n, fun | n => n⟩
theorem Tryd.lays106 : Go.Proofs.Lays.n106 Tryd.prog Tryd.lays106_ren := {
  mixed := by kernel_rfl
  f106 := Tryd.func92.trans (congrArg some (by kernel_rfl))
  f213 := Tryd.func110.trans (congrArg some (by kernel_rfl))
  f265 := Tryd.func126.trans (congrArg some (by kernel_rfl))
  t3 := Tryd.underlying3
  a3 := Tryd.isAgg3
  z3 := Tryd.sizeOf3
  v3 := Tryd.zeroValue3
  t9 := Tryd.underlying9
  a9 := Tryd.isAgg9
  z9 := Tryd.sizeOf9
  v9 := Tryd.zeroValue9 }
open Go.RowKit in
/-- strings.Compare: "Compare returns an integer comparing two strings lexicographically. The result will be 0 if a == b, -1 if a < b, and +1 if a > b.": IT RETURNS 'Lib.compareBytes a b'; the world is as it was. (LAID: no walk: one application.) -/
theorem Tryd.strings_Compare (a b : ByteArray) (w : World) :
    Calls Tryd.prog 92 #[.string a, .string b] w fun e w' => e = .returned (.int .i64 (Lib.compareBytes a.data.toList b.data.toList)) ∧ w' = w := Any.strings_Compare Tryd.lays106 a b w
def Tryd.lays103_ren : Go.Shelf.Ren := ⟨fun | 103 => 55 | 210 => 79 | 206 => 99 | n => n, fun | 9 => 9 | 4 => 4 | 24 => 30 | 3 => 3 | n => n, fun | n => n⟩
theorem Tryd.lays103 : Go.Proofs.Lays.n103 Tryd.prog Tryd.lays103_ren := {
  mixed := by kernel_rfl
  f103 := Tryd.func55.trans (congrArg some (by kernel_rfl))
  f206 := Tryd.func99.trans (congrArg some (by kernel_rfl))
  f210 := Tryd.func79.trans (congrArg some (by kernel_rfl))
  t3 := Tryd.underlying3
  a3 := Tryd.isAgg3
  z3 := Tryd.sizeOf3
  v3 := Tryd.zeroValue3
  t4 := Tryd.underlying4
  a4 := Tryd.isAgg4
  z4 := Tryd.sizeOf4
  v4 := Tryd.zeroValue4
  t9 := Tryd.underlying9
  a9 := Tryd.isAgg9
  z9 := Tryd.sizeOf9
  v9 := Tryd.zeroValue9
  t24 := Tryd.underlying30
  a24 := Tryd.isAgg30
  z24 := Tryd.sizeOf30
  v24 := Tryd.zeroValue30 }
open Go.RowKit in
/-- strings.CutPrefix: "CutPrefix returns s without the provided leading prefix string and reports whether it found the prefix. If s doesn't start with prefix, CutPrefix returns s, false. If prefix is the empty string, CutPrefix returns s, true.": IT RETURNS '(Lib.trimPrefix s p, Lib.hasPrefix s p)'; the world is as it was. (LAID: no walk: one application.) -/
theorem Tryd.strings_CutPrefix (s p : ByteArray) (w : World) :
    Calls Tryd.prog 55 #[.string s, .string p] w fun e w' => e = .returned (.tuple #[.string ⟨(Lib.trimPrefix s.data.toList p.data.toList).toArray⟩, .bool (Lib.hasPrefix s.data.toList p.data.toList)]) ∧ w' = w := Any.strings_CutPrefix Tryd.lays103 s p w
def Tryd.lays122_ren : Go.Shelf.Ren := ⟨fun | 122 => 65 | 215 => 90 | n => n, fun | 3 => 3 | 4 => 4 | n => n, fun | n => n⟩
theorem Tryd.lays122 : Go.Proofs.Lays.n122 Tryd.prog Tryd.lays122_ren := {
  mixed := by kernel_rfl
  f122 := Tryd.func65.trans (congrArg some (by kernel_rfl))
  f215 := Tryd.func90.trans (congrArg some (by kernel_rfl))
  t3 := Tryd.underlying3
  a3 := Tryd.isAgg3
  z3 := Tryd.sizeOf3
  v3 := Tryd.zeroValue3
  t4 := Tryd.underlying4
  a4 := Tryd.isAgg4
  z4 := Tryd.sizeOf4
  v4 := Tryd.zeroValue4 }
open Go.RowKit in
/-- cmp.Compare at int: "Compare returns -1 if x is less than y, 0 if x equals y, +1 if x is greater than y.": IT RETURNS 'Lib.compareInt x y'; the world is as it was. (LAID: no walk: one application.) -/
theorem Tryd.cmp_Compare_int (x y : Int) (w : World) :
    Calls Tryd.prog 65 #[.int .i64 x, .int .i64 y] w fun e w' => e = .returned (.int .i64 (Lib.compareInt x y)) ∧ w' = w := Any.cmp_Compare_int Tryd.lays122 x y w
def Tryd.laysM171_ren : Go.Shelf.Ren := ⟨fun | 171 => 59 | 243 => 88 | 246 => 109 | 283 => 122 | 284 => 123 | 285 => 124 | 286 => 125 | 129 => 136 | 317 => 135 | 318 => 137 | 319 => 138 | 320 => 139 | 337 => 142 | 338 => 143 | n => n, fun | 3 => 3 | 9 => 9 | 2 => 2 | 4 => 4 | 171 => 133 | 0 => 0 | 53 => 117 | 37 => 63 | 5 => 5 | 173 => 136 | 212 => 148 | 51 => 114 | 20 => 20 | 213 => 149 | 46 => 93 | 232 => 153 | 233 => 154 | n => n, fun | 17 => 7 | 18 => 8 | 19 => 9 | n => n⟩
theorem Tryd.laysM171 : Go.Proofs.LaysM.n171 Tryd.prog Tryd.laysM171_ren := {
  mixed := by kernel_rfl
  f129 := Tryd.func136.trans (congrArg some (by kernel_rfl))
  f171 := Tryd.func59.trans (congrArg some (by kernel_rfl))
  f243 := Tryd.func88.trans (congrArg some (by kernel_rfl))
  f246 := Tryd.func109.trans (congrArg some (by kernel_rfl))
  f283 := Tryd.func122.trans (congrArg some (by kernel_rfl))
  f284 := Tryd.func123.trans (congrArg some (by kernel_rfl))
  f285 := Tryd.func124.trans (congrArg some (by kernel_rfl))
  f286 := Tryd.func125.trans (congrArg some (by kernel_rfl))
  f317 := Tryd.func135.trans (congrArg some (by kernel_rfl))
  f318 := Tryd.func137.trans (congrArg some (by kernel_rfl))
  f319 := Tryd.func138.trans (congrArg some (by kernel_rfl))
  f320 := Tryd.func139.trans (congrArg some (by kernel_rfl))
  f337 := Tryd.func142.trans (congrArg some (by kernel_rfl))
  f338 := Tryd.func143.trans (congrArg some (by kernel_rfl))
  t0 := Tryd.underlying0
  a0 := Tryd.isAgg0
  z0 := Tryd.sizeOf0
  v0 := Tryd.zeroValue0
  t2 := Tryd.underlying2
  a2 := Tryd.isAgg2
  z2 := Tryd.sizeOf2
  v2 := Tryd.zeroValue2
  t3 := Tryd.underlying3
  a3 := Tryd.isAgg3
  z3 := Tryd.sizeOf3
  v3 := Tryd.zeroValue3
  t4 := Tryd.underlying4
  a4 := Tryd.isAgg4
  z4 := Tryd.sizeOf4
  v4 := Tryd.zeroValue4
  t5 := Tryd.underlying5
  a5 := Tryd.isAgg5
  z5 := Tryd.sizeOf5
  v5 := Tryd.zeroValue5
  t9 := Tryd.underlying9
  a9 := Tryd.isAgg9
  z9 := Tryd.sizeOf9
  v9 := Tryd.zeroValue9
  t20 := Tryd.underlying20
  a20 := Tryd.isAgg20
  z20 := Tryd.sizeOf20
  v20 := Tryd.zeroValue20
  t37 := Tryd.underlying63
  a37 := Tryd.isAgg63
  z37 := Tryd.sizeOf63
  v37 := Tryd.zeroValue63
  t46 := Tryd.underlying93
  a46 := Tryd.isAgg93
  z46 := Tryd.sizeOf93
  v46 := Tryd.zeroValue93
  t51 := Tryd.underlying114
  a51 := Tryd.isAgg114
  z51 := Tryd.sizeOf114
  v51 := Tryd.zeroValue114
  t53 := Tryd.underlying117
  a53 := Tryd.isAgg117
  z53 := Tryd.sizeOf117
  v53 := Tryd.zeroValue117
  t171 := Tryd.underlying133
  a171 := Tryd.isAgg133
  z171 := Tryd.sizeOf133
  v171 := Tryd.zeroValue133
  t173 := Tryd.underlying136
  a173 := Tryd.isAgg136
  z173 := Tryd.sizeOf136
  v173 := Tryd.zeroValue136
  t212 := Tryd.underlying148
  a212 := Tryd.isAgg148
  z212 := Tryd.sizeOf148
  v212 := Tryd.zeroValue148
  t213 := Tryd.underlying149
  a213 := Tryd.isAgg149
  z213 := Tryd.sizeOf149
  t232 := Tryd.underlying153
  a232 := Tryd.isAgg153
  z232 := Tryd.sizeOf153
  v232 := Tryd.zeroValue153
  t233 := Tryd.underlying154
  a233 := Tryd.isAgg154
  z233 := Tryd.sizeOf154
  v233 := Tryd.zeroValue154
  g17 := by kernel_rfl
  g18 := by kernel_rfl
  g19 := by kernel_rfl
  i0 := by kernel_rfl
  i2 := by kernel_rfl
  i3 := by kernel_rfl
  i4 := by kernel_rfl
  i5 := by kernel_rfl
  i9 := by kernel_rfl
  i20 := by kernel_rfl
  i37 := by kernel_rfl
  i46 := by kernel_rfl
  i51 := by kernel_rfl
  i53 := by kernel_rfl
  i171 := by kernel_rfl
  i173 := by kernel_rfl
  i212 := by kernel_rfl
  i232 := by kernel_rfl
  i233 := by kernel_rfl
  m17 := by kernel_rfl
  m18 := by kernel_rfl
  m19 := by kernel_rfl }
open Go.RowKit Go.Sort Go.Lib in
/-- strconv.Itoa: "Itoa is equivalent to FormatInt(int64(i), 10).": i's DECIMAL NUMERAL ('Lib.itoa': a '-' where i is negative, then the digits), FOR EVERY int. The world behind the call: the world before it, new blocks behind the heap (the library's 'var a [24]byte'), draws. (LAID: no walk: one application.) -/
theorem Tryd.strconv_Itoa (n : Int) (h0 : -9223372036854775808 ≤ n) (h1 : n ≤ 9223372036854775807) (w : World) (htab : Lib.TabIs Tryd.prog w "internal/strconv.uint64pow10" .u64 Lib.pow10Tab) :
    Calls Tryd.prog 59 #[.int .i64 n] w fun e w' => e = .returned (.string ⟨(Lib.itoa n).toArray⟩) ∧ ∃ k os, w' = grow (w.drewN k) os := Any.strconv_Itoa Tryd.laysM171 n h0 h1 w htab
def Tryd.laysC172_ren : Go.Shelf.Ren := ⟨fun | 172 => 57 | 244 => 80 | 245 => 81 | 247 => 100 | 279 => 101 | 280 => 102 | 281 => 103 | 282 => 104 | 287 => 117 | 316 => 118 | 171 => 59 | 205 => 119 | 321 => 133 | 322 => 134 | 243 => 88 | 246 => 109 | 283 => 122 | 284 => 123 | 285 => 124 | 286 => 125 | 129 => 136 | 317 => 135 | 318 => 137 | 319 => 138 | 320 => 139 | 337 => 142 | 338 => 143 | n => n, fun | 9 => 9 | 3 => 3 | 75 => 76 | 76 => 77 | 4 => 4 | 5 => 5 | 167 => 108 | 37 => 63 | 0 => 0 | 85 => 109 | 2 => 2 | 168 => 111 | 53 => 117 | 175 => 125 | 46 => 93 | 210 => 128 | 127 => 120 | 145 => 146 | 143 => 144 | 21 => 21 | 171 => 133 | 173 => 136 | 212 => 148 | 51 => 114 | 20 => 20 | 213 => 149 | 232 => 153 | 233 => 154 | 80 => 101 | n => n, fun | 15 => 2 | 16 => 3 | 17 => 7 | 18 => 8 | 19 => 9 | n => n⟩
theorem Tryd.laysC172 : Go.Proofs.LaysC.n172 Tryd.prog Tryd.laysC172_ren := {
  mixed := by kernel_rfl
  f129 := Tryd.func136.trans (congrArg some (by kernel_rfl))
  f171 := Tryd.func59.trans (congrArg some (by kernel_rfl))
  f172 := Tryd.func57.trans (congrArg some (by kernel_rfl))
  f205 := Tryd.func119.trans (congrArg some (by kernel_rfl))
  f243 := Tryd.func88.trans (congrArg some (by kernel_rfl))
  f244 := Tryd.func80.trans (congrArg some (by kernel_rfl))
  f245 := Tryd.func81.trans (congrArg some (by kernel_rfl))
  f246 := Tryd.func109.trans (congrArg some (by kernel_rfl))
  f247 := Tryd.func100.trans (congrArg some (by kernel_rfl))
  f279 := Tryd.func101.trans (congrArg some (by kernel_rfl))
  f280 := Tryd.func102.trans (congrArg some (by kernel_rfl))
  f281 := Tryd.func103.trans (congrArg some (by kernel_rfl))
  f282 := Tryd.func104.trans (congrArg some (by kernel_rfl))
  f283 := Tryd.func122.trans (congrArg some (by kernel_rfl))
  f284 := Tryd.func123.trans (congrArg some (by kernel_rfl))
  f285 := Tryd.func124.trans (congrArg some (by kernel_rfl))
  f286 := Tryd.func125.trans (congrArg some (by kernel_rfl))
  f287 := Tryd.func117.trans (congrArg some (by kernel_rfl))
  f316 := Tryd.func118.trans (congrArg some (by kernel_rfl))
  f317 := Tryd.func135.trans (congrArg some (by kernel_rfl))
  f318 := Tryd.func137.trans (congrArg some (by kernel_rfl))
  f319 := Tryd.func138.trans (congrArg some (by kernel_rfl))
  f320 := Tryd.func139.trans (congrArg some (by kernel_rfl))
  f321 := Tryd.func133.trans (congrArg some (by kernel_rfl))
  f322 := Tryd.func134.trans (congrArg some (by kernel_rfl))
  f337 := Tryd.func142.trans (congrArg some (by kernel_rfl))
  f338 := Tryd.func143.trans (congrArg some (by kernel_rfl))
  t0 := Tryd.underlying0
  a0 := Tryd.isAgg0
  z0 := Tryd.sizeOf0
  v0 := Tryd.zeroValue0
  t2 := Tryd.underlying2
  a2 := Tryd.isAgg2
  z2 := Tryd.sizeOf2
  v2 := Tryd.zeroValue2
  t3 := Tryd.underlying3
  a3 := Tryd.isAgg3
  z3 := Tryd.sizeOf3
  v3 := Tryd.zeroValue3
  t4 := Tryd.underlying4
  a4 := Tryd.isAgg4
  z4 := Tryd.sizeOf4
  v4 := Tryd.zeroValue4
  t5 := Tryd.underlying5
  a5 := Tryd.isAgg5
  z5 := Tryd.sizeOf5
  v5 := Tryd.zeroValue5
  t9 := Tryd.underlying9
  a9 := Tryd.isAgg9
  z9 := Tryd.sizeOf9
  v9 := Tryd.zeroValue9
  t20 := Tryd.underlying20
  a20 := Tryd.isAgg20
  z20 := Tryd.sizeOf20
  v20 := Tryd.zeroValue20
  t21 := Tryd.underlying21
  a21 := Tryd.isAgg21
  z21 := Tryd.sizeOf21
  v21 := Tryd.zeroValue21
  t37 := Tryd.underlying63
  a37 := Tryd.isAgg63
  z37 := Tryd.sizeOf63
  v37 := Tryd.zeroValue63
  t46 := Tryd.underlying93
  a46 := Tryd.isAgg93
  z46 := Tryd.sizeOf93
  v46 := Tryd.zeroValue93
  t51 := Tryd.underlying114
  a51 := Tryd.isAgg114
  z51 := Tryd.sizeOf114
  v51 := Tryd.zeroValue114
  t53 := Tryd.underlying117
  a53 := Tryd.isAgg117
  z53 := Tryd.sizeOf117
  v53 := Tryd.zeroValue117
  t75 := Tryd.underlying76
  a75 := Tryd.isAgg76
  z75 := Tryd.sizeOf76
  v75 := Tryd.zeroValue76
  t76 := Tryd.underlying77
  a76 := Tryd.isAgg77
  z76 := Tryd.sizeOf77
  v76 := Tryd.zeroValue77
  t85 := Tryd.underlying109
  a85 := Tryd.isAgg109
  z85 := Tryd.sizeOf109
  v85 := Tryd.zeroValue109
  t127 := Tryd.underlying120
  a127 := Tryd.isAgg120
  z127 := Tryd.sizeOf120
  v127 := Tryd.zeroValue120
  t143 := Tryd.underlying144
  a143 := Tryd.isAgg144
  z143 := Tryd.sizeOf144
  v143 := Tryd.zeroValue144
  t145 := Tryd.underlying146
  a145 := Tryd.isAgg146
  z145 := Tryd.sizeOf146
  v145 := Tryd.zeroValue146
  t167 := Tryd.underlying108
  a167 := Tryd.isAgg108
  z167 := Tryd.sizeOf108
  v167 := Tryd.zeroValue108
  t168 := Tryd.underlying111
  a168 := Tryd.isAgg111
  z168 := Tryd.sizeOf111
  v168 := Tryd.zeroValue111
  t171 := Tryd.underlying133
  a171 := Tryd.isAgg133
  z171 := Tryd.sizeOf133
  v171 := Tryd.zeroValue133
  t173 := Tryd.underlying136
  a173 := Tryd.isAgg136
  z173 := Tryd.sizeOf136
  v173 := Tryd.zeroValue136
  t175 := Tryd.underlying125
  a175 := Tryd.isAgg125
  z175 := Tryd.sizeOf125
  v175 := Tryd.zeroValue125
  t210 := Tryd.underlying128
  a210 := Tryd.isAgg128
  z210 := Tryd.sizeOf128
  v210 := Tryd.zeroValue128
  t212 := Tryd.underlying148
  a212 := Tryd.isAgg148
  z212 := Tryd.sizeOf148
  v212 := Tryd.zeroValue148
  t213 := Tryd.underlying149
  a213 := Tryd.isAgg149
  z213 := Tryd.sizeOf149
  t232 := Tryd.underlying153
  a232 := Tryd.isAgg153
  z232 := Tryd.sizeOf153
  v232 := Tryd.zeroValue153
  t233 := Tryd.underlying154
  a233 := Tryd.isAgg154
  z233 := Tryd.sizeOf154
  v233 := Tryd.zeroValue154
  g15 := by kernel_rfl
  g16 := by kernel_rfl
  g17 := by kernel_rfl
  g18 := by kernel_rfl
  g19 := by kernel_rfl
  t80 := Tryd.underlying101
  a80 := Tryd.isAgg101
  z80 := Tryd.sizeOf101
  v80 := Tryd.zeroValue101
  i0 := by kernel_rfl
  i2 := by kernel_rfl
  i3 := by kernel_rfl
  i4 := by kernel_rfl
  i5 := by kernel_rfl
  i9 := by kernel_rfl
  i20 := by kernel_rfl
  i21 := by kernel_rfl
  i37 := by kernel_rfl
  i46 := by kernel_rfl
  i51 := by kernel_rfl
  i53 := by kernel_rfl
  i75 := by kernel_rfl
  i76 := by kernel_rfl
  i80 := by kernel_rfl
  i85 := by kernel_rfl
  i127 := by kernel_rfl
  i143 := by kernel_rfl
  i145 := by kernel_rfl
  i167 := by kernel_rfl
  i168 := by kernel_rfl
  i171 := by kernel_rfl
  i173 := by kernel_rfl
  i175 := by kernel_rfl
  i210 := by kernel_rfl
  i212 := by kernel_rfl
  i232 := by kernel_rfl
  i233 := by kernel_rfl
  m15 := by kernel_rfl
  m16 := by kernel_rfl
  m17 := by kernel_rfl
  m18 := by kernel_rfl
  m19 := by kernel_rfl
  c0 := by kernel_rfl
  c2 := by kernel_rfl
  c3 := by kernel_rfl
  c4 := by kernel_rfl
  c5 := by kernel_rfl
  c9 := by kernel_rfl
  c20 := by kernel_rfl
  c21 := by kernel_rfl
  c37 := by kernel_rfl
  c46 := by kernel_rfl
  c51 := by kernel_rfl
  c53 := by kernel_rfl
  c75 := by kernel_rfl
  c76 := by kernel_rfl
  c80 := by kernel_rfl
  c85 := by kernel_rfl
  c127 := by kernel_rfl
  c143 := by kernel_rfl
  c145 := by kernel_rfl
  c167 := by kernel_rfl
  c168 := by kernel_rfl
  c171 := by kernel_rfl
  c173 := by kernel_rfl
  c175 := by kernel_rfl
  c210 := by kernel_rfl
  c212 := by kernel_rfl
  c213 := by kernel_rfl
  c232 := by kernel_rfl
  c233 := by kernel_rfl }
open Go.RowKit in
/-- strconv.Atoi, AT EVERY STRING THAT SPELLS AN int ('Lib.atoiAll .. = .ok v'; of whatever length: leading zeros count): v, AND NO ERROR. The world: as it was, or with the one new row that '[]byte(..)' lays. (LAID: no walk: one application.) -/
theorem Tryd.strconv_Atoi_ok (s : ByteArray) (hmax : s.size ≤ 9223372036854775806) (v : Int) (h : Lib.atoiAll s.data.toList = .ok v) (w : World) :
    Calls Tryd.prog 57 #[.string s] w fun e w' => e = .returned (.tuple #[.int .i64 v, .nilIface]) ∧ (w' = w ∨ ∃ t, w' = Lib.bytesWorld w 5 t) := Any.strconv_Atoi_ok Tryd.laysC172 s hmax v h w
def Tryd.lays100_ren : Go.Shelf.Ren := ⟨fun | 100 => 63 | 207 => 89 | n => n, fun | 9 => 9 | 4 => 4 | 3 => 3 | n => n, fun | n => n⟩
theorem Tryd.lays100 : Go.Proofs.Lays.n100 Tryd.prog Tryd.lays100_ren := {
  mixed := by kernel_rfl
  f100 := Tryd.func63.trans (congrArg some (by kernel_rfl))
  f207 := Tryd.func89.trans (congrArg some (by kernel_rfl))
  t3 := Tryd.underlying3
  a3 := Tryd.isAgg3
  z3 := Tryd.sizeOf3
  v3 := Tryd.zeroValue3
  t4 := Tryd.underlying4
  a4 := Tryd.isAgg4
  z4 := Tryd.sizeOf4
  v4 := Tryd.zeroValue4
  t9 := Tryd.underlying9
  a9 := Tryd.isAgg9
  z9 := Tryd.sizeOf9
  v9 := Tryd.zeroValue9 }
open Go.RowKit Go.Lib in
/-- strings.HasSuffix: "HasSuffix reports whether the string s ends with suffix.": IT RETURNS 'Lib.hasSuffix s suffix'; the world is as it was. ('hs': no Go string is longer: a caller has it of every string that it was handed.) (LAID: no walk: one application.) -/
theorem Tryd.strings_HasSuffix (s p : ByteArray) (w : World) (hs : s.size ≤ 9223372036854775807) :
    Calls Tryd.prog 63 #[.string s, .string p] w fun e w' => e = .returned (.bool (Lib.hasSuffix s.data.toList p.data.toList)) ∧ w' = w := Any.strings_HasSuffix Tryd.lays100 s p w hs
def Tryd.lays155_ren : Go.Shelf.Ren := ⟨fun | 155 => 42 | 154 => 67 | 138 => 93 | 165 => 84 | 143 => 94 | 166 => 85 | 197 => 95 | 169 => 87 | 195 => 111 | 218 => 112 | 240 => 107 | 241 => 108 | 219 => 113 | 260 => 114 | 276 => 120 | 277 => 121 | 217 => 127 | 225 => 128 | 224 => 129 | 267 => 130 | 266 => 140 | 314 => 141 | n => n, fun | 9 => 9 | 3 => 3 | 4 => 4 | 72 => 98 | 0 => 0 | 76 => 77 | 105 => 105 | 21 => 21 | 5 => 5 | 70 => 96 | 20 => 20 | 37 => 63 | 75 => 76 | 127 => 120 | 164 => 130 | 46 => 93 | 119 => 138 | 139 => 141 | 138 => 140 | 146 => 115 | 51 => 114 | 80 => 101 | n => n, fun | 1 => 4 | 3 => 5 | 4 => 6 | n => n⟩
theorem Tryd.lays155 : Go.Proofs.Lays.n155 Tryd.prog Tryd.lays155_ren := {
  mixed := by kernel_rfl
  f138 := Tryd.func93.trans (congrArg some (by kernel_rfl))
  f143 := Tryd.func94.trans (congrArg some (by kernel_rfl))
  f154 := Tryd.func67.trans (congrArg some (by kernel_rfl))
  f155 := Tryd.func42.trans (congrArg some (by kernel_rfl))
  f165 := Tryd.func84.trans (congrArg some (by kernel_rfl))
  f166 := Tryd.func85.trans (congrArg some (by kernel_rfl))
  f169 := Tryd.func87.trans (congrArg some (by kernel_rfl))
  f195 := Tryd.func111.trans (congrArg some (by kernel_rfl))
  f197 := Tryd.func95.trans (congrArg some (by kernel_rfl))
  f217 := Tryd.func127.trans (congrArg some (by kernel_rfl))
  f218 := Tryd.func112.trans (congrArg some (by kernel_rfl))
  f219 := Tryd.func113.trans (congrArg some (by kernel_rfl))
  f224 := Tryd.func129.trans (congrArg some (by kernel_rfl))
  f225 := Tryd.func128.trans (congrArg some (by kernel_rfl))
  f240 := Tryd.func107.trans (congrArg some (by kernel_rfl))
  f241 := Tryd.func108.trans (congrArg some (by kernel_rfl))
  f260 := Tryd.func114.trans (congrArg some (by kernel_rfl))
  f266 := Tryd.func140.trans (congrArg some (by kernel_rfl))
  f267 := Tryd.func130.trans (congrArg some (by kernel_rfl))
  f276 := Tryd.func120.trans (congrArg some (by kernel_rfl))
  f277 := Tryd.func121.trans (congrArg some (by kernel_rfl))
  f314 := Tryd.func141.trans (congrArg some (by kernel_rfl))
  t0 := Tryd.underlying0
  a0 := Tryd.isAgg0
  z0 := Tryd.sizeOf0
  v0 := Tryd.zeroValue0
  t3 := Tryd.underlying3
  a3 := Tryd.isAgg3
  z3 := Tryd.sizeOf3
  v3 := Tryd.zeroValue3
  t4 := Tryd.underlying4
  a4 := Tryd.isAgg4
  z4 := Tryd.sizeOf4
  v4 := Tryd.zeroValue4
  t5 := Tryd.underlying5
  a5 := Tryd.isAgg5
  z5 := Tryd.sizeOf5
  v5 := Tryd.zeroValue5
  t9 := Tryd.underlying9
  a9 := Tryd.isAgg9
  z9 := Tryd.sizeOf9
  v9 := Tryd.zeroValue9
  t20 := Tryd.underlying20
  a20 := Tryd.isAgg20
  z20 := Tryd.sizeOf20
  v20 := Tryd.zeroValue20
  t21 := Tryd.underlying21
  a21 := Tryd.isAgg21
  z21 := Tryd.sizeOf21
  v21 := Tryd.zeroValue21
  t37 := Tryd.underlying63
  a37 := Tryd.isAgg63
  z37 := Tryd.sizeOf63
  v37 := Tryd.zeroValue63
  t46 := Tryd.underlying93
  a46 := Tryd.isAgg93
  z46 := Tryd.sizeOf93
  v46 := Tryd.zeroValue93
  t51 := Tryd.underlying114
  a51 := Tryd.isAgg114
  z51 := Tryd.sizeOf114
  v51 := Tryd.zeroValue114
  t70 := Tryd.underlying96
  a70 := Tryd.isAgg96
  z70 := Tryd.sizeOf96
  v70 := Tryd.zeroValue96
  t72 := Tryd.underlying98
  a72 := Tryd.isAgg98
  z72 := Tryd.sizeOf98
  v72 := Tryd.zeroValue98
  t75 := Tryd.underlying76
  a75 := Tryd.isAgg76
  z75 := Tryd.sizeOf76
  v75 := Tryd.zeroValue76
  t76 := Tryd.underlying77
  a76 := Tryd.isAgg77
  z76 := Tryd.sizeOf77
  v76 := Tryd.zeroValue77
  t105 := Tryd.underlying105
  a105 := Tryd.isAgg105
  z105 := Tryd.sizeOf105
  v105 := Tryd.zeroValue105
  t119 := Tryd.underlying138
  a119 := Tryd.isAgg138
  z119 := Tryd.sizeOf138
  t127 := Tryd.underlying120
  a127 := Tryd.isAgg120
  z127 := Tryd.sizeOf120
  v127 := Tryd.zeroValue120
  t138 := Tryd.underlying140
  a138 := Tryd.isAgg140
  z138 := Tryd.sizeOf140
  v138 := Tryd.zeroValue140
  t139 := Tryd.underlying141
  a139 := Tryd.isAgg141
  z139 := Tryd.sizeOf141
  v139 := Tryd.zeroValue141
  t146 := Tryd.underlying115
  a146 := Tryd.isAgg115
  z146 := Tryd.sizeOf115
  v146 := Tryd.zeroValue115
  t164 := Tryd.underlying130
  a164 := Tryd.isAgg130
  z164 := Tryd.sizeOf130
  v164 := Tryd.zeroValue130
  g1 := by kernel_rfl
  g3 := by kernel_rfl
  g4 := by kernel_rfl }
theorem Tryd.Builder_Extra_155 : Builder.Extra Tryd.prog Tryd.lays155_ren := {
  sizeBuilder := by kernel_rfl
  liesBuilder := by kernel_rfl
  t5 := Tryd.underlying5
  a5 := Tryd.isAgg5
  z5 := Tryd.sizeOf5
  v5 := Tryd.zeroValue5
  infoByte := by kernel_rfl
  cellsByte := by kernel_rfl
  sizeByte := by kernel_rfl
  neB5 := by decide }
open Go.RowKit Go.Lib in
/-- strings.ReplaceAll: "ReplaceAll returns a copy of the string s with all non-overlapping instances of old replaced by new.": AT AN old THAT IS NOT EMPTY: 'Lib.replaceAll s old new'. (LAID: no walk: one application.) -/
theorem Tryd.strings_ReplaceAll (s old new : ByteArray) (m : Int) (w : World) (hs : s.size < 4294967281) (hm : w.cell? ⟨4, 0, none⟩ = some (.int .i64 m)) (h1 : 1 ≤ old.size) (hlen : s.size + Lib.countB s old * new.size ≤ 140737488355328) :
    Calls Tryd.prog 42 #[.string s, .string old, .string new] w fun e w' =>
      e = .returned (.string ⟨(Lib.replaceAll s.data.toList old.data.toList new.data.toList).toArray⟩) ∧ Below w.heap.size w w' := Any.strings_ReplaceAll Tryd.lays155 Tryd.Builder_Extra_155 s old new m w hs hm h1 hlen
def Tryd.laysM155_ren : Go.Shelf.Ren := ⟨fun | 155 => 42 | 154 => 67 | 138 => 93 | 165 => 84 | 143 => 94 | 166 => 85 | 197 => 95 | 169 => 87 | 195 => 111 | 218 => 112 | 240 => 107 | 241 => 108 | 219 => 113 | 260 => 114 | 276 => 120 | 277 => 121 | 217 => 127 | 225 => 128 | 224 => 129 | 267 => 130 | 266 => 140 | 314 => 141 | n => n, fun | 9 => 9 | 3 => 3 | 4 => 4 | 72 => 98 | 0 => 0 | 76 => 77 | 105 => 105 | 21 => 21 | 5 => 5 | 70 => 96 | 20 => 20 | 37 => 63 | 75 => 76 | 127 => 120 | 164 => 130 | 46 => 93 | 119 => 138 | 139 => 141 | 138 => 140 | 146 => 115 | 51 => 114 | 80 => 101 | n => n, fun | 1 => 4 | 3 => 5 | 4 => 6 | n => n⟩
theorem Tryd.laysM155 : Go.Proofs.LaysM.n155 Tryd.prog Tryd.laysM155_ren := {
  mixed := by kernel_rfl
  f138 := Tryd.func93.trans (congrArg some (by kernel_rfl))
  f143 := Tryd.func94.trans (congrArg some (by kernel_rfl))
  f154 := Tryd.func67.trans (congrArg some (by kernel_rfl))
  f155 := Tryd.func42.trans (congrArg some (by kernel_rfl))
  f165 := Tryd.func84.trans (congrArg some (by kernel_rfl))
  f166 := Tryd.func85.trans (congrArg some (by kernel_rfl))
  f169 := Tryd.func87.trans (congrArg some (by kernel_rfl))
  f195 := Tryd.func111.trans (congrArg some (by kernel_rfl))
  f197 := Tryd.func95.trans (congrArg some (by kernel_rfl))
  f217 := Tryd.func127.trans (congrArg some (by kernel_rfl))
  f218 := Tryd.func112.trans (congrArg some (by kernel_rfl))
  f219 := Tryd.func113.trans (congrArg some (by kernel_rfl))
  f224 := Tryd.func129.trans (congrArg some (by kernel_rfl))
  f225 := Tryd.func128.trans (congrArg some (by kernel_rfl))
  f240 := Tryd.func107.trans (congrArg some (by kernel_rfl))
  f241 := Tryd.func108.trans (congrArg some (by kernel_rfl))
  f260 := Tryd.func114.trans (congrArg some (by kernel_rfl))
  f266 := Tryd.func140.trans (congrArg some (by kernel_rfl))
  f267 := Tryd.func130.trans (congrArg some (by kernel_rfl))
  f276 := Tryd.func120.trans (congrArg some (by kernel_rfl))
  f277 := Tryd.func121.trans (congrArg some (by kernel_rfl))
  f314 := Tryd.func141.trans (congrArg some (by kernel_rfl))
  t0 := Tryd.underlying0
  a0 := Tryd.isAgg0
  z0 := Tryd.sizeOf0
  v0 := Tryd.zeroValue0
  t3 := Tryd.underlying3
  a3 := Tryd.isAgg3
  z3 := Tryd.sizeOf3
  v3 := Tryd.zeroValue3
  t4 := Tryd.underlying4
  a4 := Tryd.isAgg4
  z4 := Tryd.sizeOf4
  v4 := Tryd.zeroValue4
  t5 := Tryd.underlying5
  a5 := Tryd.isAgg5
  z5 := Tryd.sizeOf5
  v5 := Tryd.zeroValue5
  t9 := Tryd.underlying9
  a9 := Tryd.isAgg9
  z9 := Tryd.sizeOf9
  v9 := Tryd.zeroValue9
  t20 := Tryd.underlying20
  a20 := Tryd.isAgg20
  z20 := Tryd.sizeOf20
  v20 := Tryd.zeroValue20
  t21 := Tryd.underlying21
  a21 := Tryd.isAgg21
  z21 := Tryd.sizeOf21
  v21 := Tryd.zeroValue21
  t37 := Tryd.underlying63
  a37 := Tryd.isAgg63
  z37 := Tryd.sizeOf63
  v37 := Tryd.zeroValue63
  t46 := Tryd.underlying93
  a46 := Tryd.isAgg93
  z46 := Tryd.sizeOf93
  v46 := Tryd.zeroValue93
  t51 := Tryd.underlying114
  a51 := Tryd.isAgg114
  z51 := Tryd.sizeOf114
  v51 := Tryd.zeroValue114
  t70 := Tryd.underlying96
  a70 := Tryd.isAgg96
  z70 := Tryd.sizeOf96
  v70 := Tryd.zeroValue96
  t72 := Tryd.underlying98
  a72 := Tryd.isAgg98
  z72 := Tryd.sizeOf98
  v72 := Tryd.zeroValue98
  t75 := Tryd.underlying76
  a75 := Tryd.isAgg76
  z75 := Tryd.sizeOf76
  v75 := Tryd.zeroValue76
  t76 := Tryd.underlying77
  a76 := Tryd.isAgg77
  z76 := Tryd.sizeOf77
  v76 := Tryd.zeroValue77
  t105 := Tryd.underlying105
  a105 := Tryd.isAgg105
  z105 := Tryd.sizeOf105
  v105 := Tryd.zeroValue105
  t119 := Tryd.underlying138
  a119 := Tryd.isAgg138
  z119 := Tryd.sizeOf138
  t127 := Tryd.underlying120
  a127 := Tryd.isAgg120
  z127 := Tryd.sizeOf120
  v127 := Tryd.zeroValue120
  t138 := Tryd.underlying140
  a138 := Tryd.isAgg140
  z138 := Tryd.sizeOf140
  v138 := Tryd.zeroValue140
  t139 := Tryd.underlying141
  a139 := Tryd.isAgg141
  z139 := Tryd.sizeOf141
  v139 := Tryd.zeroValue141
  t146 := Tryd.underlying115
  a146 := Tryd.isAgg115
  z146 := Tryd.sizeOf115
  v146 := Tryd.zeroValue115
  t164 := Tryd.underlying130
  a164 := Tryd.isAgg130
  z164 := Tryd.sizeOf130
  v164 := Tryd.zeroValue130
  g1 := by kernel_rfl
  g3 := by kernel_rfl
  g4 := by kernel_rfl
  t80 := Tryd.underlying101
  a80 := Tryd.isAgg101
  z80 := Tryd.sizeOf101
  v80 := Tryd.zeroValue101
  i0 := by kernel_rfl
  i3 := by kernel_rfl
  i4 := by kernel_rfl
  i5 := by kernel_rfl
  i9 := by kernel_rfl
  i20 := by kernel_rfl
  i21 := by kernel_rfl
  i37 := by kernel_rfl
  i46 := by kernel_rfl
  i51 := by kernel_rfl
  i70 := by kernel_rfl
  i72 := by kernel_rfl
  i75 := by kernel_rfl
  i76 := by kernel_rfl
  i80 := by kernel_rfl
  i105 := by kernel_rfl
  i127 := by kernel_rfl
  i138 := by kernel_rfl
  i139 := by kernel_rfl
  i146 := by kernel_rfl
  i164 := by kernel_rfl
  m1 := by kernel_rfl
  s1_3 := fun w h => Go.Proofs.cell_of_shapedOpen_int (zero := #[.int .i64 0]) (t := 3) h (of_decide_eq_true (by kernel_rfl)) (by kernel_rfl) rfl (by kernel_rfl) (by kernel_rfl) Tryd.underlying3
  m3 := by kernel_rfl
  m4 := by kernel_rfl }
theorem Tryd.Builder_Extra_M155 : Builder.Extra Tryd.prog Tryd.laysM155_ren := {
  sizeBuilder := by kernel_rfl
  liesBuilder := by kernel_rfl
  t5 := Tryd.underlying5
  a5 := Tryd.isAgg5
  z5 := Tryd.sizeOf5
  v5 := Tryd.zeroValue5
  infoByte := by kernel_rfl
  cellsByte := by kernel_rfl
  sizeByte := by kernel_rfl
  neB5 := by decide }
open Go.RowKit Go.Lib in
/-- strings.ReplaceAll, old not empty. (LAID: no walk: one application.) -/
theorem Tryd.strings_ReplaceAll_shaped (s old new : ByteArray) (w : World) (h : w.ShapedOpen Tryd.prog) (hs : s.size < 4294967281) (h1 : 1 ≤ old.size) (hlen : s.size + Lib.countB s old * new.size ≤ 140737488355328) :
    Calls Tryd.prog 42 #[.string s, .string old, .string new] w fun e w' =>
      e = .returned (.string ⟨(Lib.replaceAll s.data.toList old.data.toList new.data.toList).toArray⟩) ∧ Below w.heap.size w w' := Any.strings_ReplaceAll_shaped Tryd.laysM155 Tryd.Builder_Extra_M155 s old new w h hs h1 hlen
def Tryd.lays105_ren : Go.Shelf.Ren := ⟨fun | 105 => 58 | 212 => 82 | 99 => 83 | 165 => 84 | 166 => 85 | 170 => 86 | 169 => 87 | 263 => 105 | 264 => 106 | 206 => 99 | 240 => 107 | 241 => 108 | 276 => 120 | 277 => 121 | n => n, fun | 9 => 9 | 3 => 3 | 4 => 4 | 20 => 20 | 0 => 0 | 46 => 93 | 109 => 94 | 5 => 5 | 72 => 98 | 76 => 77 | 51 => 114 | 146 => 115 | 53 => 117 | 148 => 118 | 70 => 96 | 37 => 63 | 75 => 76 | 127 => 120 | 164 => 130 | 80 => 101 | n => n, fun | n => n⟩
theorem Tryd.lays105 : Go.Proofs.Lays.n105 Tryd.prog Tryd.lays105_ren := {
  mixed := by kernel_rfl
  f99 := Tryd.func83.trans (congrArg some (by kernel_rfl))
  f105 := Tryd.func58.trans (congrArg some (by kernel_rfl))
  f165 := Tryd.func84.trans (congrArg some (by kernel_rfl))
  f166 := Tryd.func85.trans (congrArg some (by kernel_rfl))
  f169 := Tryd.func87.trans (congrArg some (by kernel_rfl))
  f170 := Tryd.func86.trans (congrArg some (by kernel_rfl))
  f206 := Tryd.func99.trans (congrArg some (by kernel_rfl))
  f212 := Tryd.func82.trans (congrArg some (by kernel_rfl))
  f240 := Tryd.func107.trans (congrArg some (by kernel_rfl))
  f241 := Tryd.func108.trans (congrArg some (by kernel_rfl))
  f263 := Tryd.func105.trans (congrArg some (by kernel_rfl))
  f264 := Tryd.func106.trans (congrArg some (by kernel_rfl))
  f276 := Tryd.func120.trans (congrArg some (by kernel_rfl))
  f277 := Tryd.func121.trans (congrArg some (by kernel_rfl))
  t0 := Tryd.underlying0
  a0 := Tryd.isAgg0
  z0 := Tryd.sizeOf0
  v0 := Tryd.zeroValue0
  t3 := Tryd.underlying3
  a3 := Tryd.isAgg3
  z3 := Tryd.sizeOf3
  v3 := Tryd.zeroValue3
  t4 := Tryd.underlying4
  a4 := Tryd.isAgg4
  z4 := Tryd.sizeOf4
  v4 := Tryd.zeroValue4
  t5 := Tryd.underlying5
  a5 := Tryd.isAgg5
  z5 := Tryd.sizeOf5
  v5 := Tryd.zeroValue5
  t9 := Tryd.underlying9
  a9 := Tryd.isAgg9
  z9 := Tryd.sizeOf9
  v9 := Tryd.zeroValue9
  t20 := Tryd.underlying20
  a20 := Tryd.isAgg20
  z20 := Tryd.sizeOf20
  v20 := Tryd.zeroValue20
  t37 := Tryd.underlying63
  a37 := Tryd.isAgg63
  z37 := Tryd.sizeOf63
  v37 := Tryd.zeroValue63
  t46 := Tryd.underlying93
  a46 := Tryd.isAgg93
  z46 := Tryd.sizeOf93
  v46 := Tryd.zeroValue93
  t51 := Tryd.underlying114
  a51 := Tryd.isAgg114
  z51 := Tryd.sizeOf114
  v51 := Tryd.zeroValue114
  t53 := Tryd.underlying117
  a53 := Tryd.isAgg117
  z53 := Tryd.sizeOf117
  v53 := Tryd.zeroValue117
  t70 := Tryd.underlying96
  a70 := Tryd.isAgg96
  z70 := Tryd.sizeOf96
  v70 := Tryd.zeroValue96
  t72 := Tryd.underlying98
  a72 := Tryd.isAgg98
  z72 := Tryd.sizeOf98
  v72 := Tryd.zeroValue98
  t75 := Tryd.underlying76
  a75 := Tryd.isAgg76
  z75 := Tryd.sizeOf76
  v75 := Tryd.zeroValue76
  t76 := Tryd.underlying77
  a76 := Tryd.isAgg77
  z76 := Tryd.sizeOf77
  v76 := Tryd.zeroValue77
  t109 := Tryd.underlying94
  a109 := Tryd.isAgg94
  z109 := Tryd.sizeOf94
  v109 := Tryd.zeroValue94
  t127 := Tryd.underlying120
  a127 := Tryd.isAgg120
  z127 := Tryd.sizeOf120
  v127 := Tryd.zeroValue120
  t146 := Tryd.underlying115
  a146 := Tryd.isAgg115
  z146 := Tryd.sizeOf115
  v146 := Tryd.zeroValue115
  t148 := Tryd.underlying118
  a148 := Tryd.isAgg118
  z148 := Tryd.sizeOf118
  v148 := Tryd.zeroValue118
  t164 := Tryd.underlying130
  a164 := Tryd.isAgg130
  z164 := Tryd.sizeOf130
  v164 := Tryd.zeroValue130 }
theorem Tryd.Builder_Extra_105 : Builder.Extra Tryd.prog Tryd.lays105_ren := {
  sizeBuilder := by kernel_rfl
  liesBuilder := by kernel_rfl
  t5 := Tryd.underlying5
  a5 := Tryd.isAgg5
  z5 := Tryd.sizeOf5
  v5 := Tryd.zeroValue5
  infoByte := by kernel_rfl
  cellsByte := by kernel_rfl
  sizeByte := by kernel_rfl
  neB5 := by decide }
open Go.RowKit Go.Lib in
/-- **strings.Repeat: count ≥ 0, the result within one allocation: count copies of s.** (LAID: no walk: one application.) -/
theorem Tryd.strings_Repeat (s : ByteArray) (c : Nat) (w : World) (hc : c ≤ 9223372036854775807) (hlen : s.size * c ≤ 140737488355328) :
    Calls Tryd.prog 58 #[.string s, .int .i64 c] w fun e w' => e = .returned (.string ⟨(Lib.repeatL s.data.toList c).toArray⟩) ∧ Below w.heap.size w w' := Any.strings_Repeat Tryd.lays105 Tryd.Builder_Extra_105 s c w hc hlen
end Go.Proofs
