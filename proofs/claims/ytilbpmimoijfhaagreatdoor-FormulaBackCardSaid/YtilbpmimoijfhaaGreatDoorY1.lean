/- A world in which every listed package-level variable holds what its initialiser lays: the witness of this seat's rows. -/
import Derived.Test.YtilbpmimoijfhaaGreatDoorRows
import Derived.Deep.DeepWitnessRowRef
import Derived.Shelf.Strings.OnBuilder
import Derived.Shelf.Small.Wraps
import Derived.Shelf.Strconv.Itoa3
import Derived.Shelf.Strconv.AtoiAll
import Derived.Shelf.Pu.ParseUintPublic10
import Derived.Shelf.Strings.Shaped
import Derived.Shelf.Strings.SplitShaped
import Derived.Shelf.Strings.Repeat
import Derived.Shelf.Slices.Turned
import Derived.Test.YtilbpmimoijfhaaGreatDoorY0
namespace Go.Proofs.YtilbpmimoijfhaaGreatDoor
set_option linter.all false
open Go.ChangeShapes Go.WideShapes Go.ChangeAt Go.RowKit

noncomputable def low : Nat := (World.holding Tryz.prog default ⟨#[], #[], []⟩).heap.size

/-- What a variable's block holds instead. -/
def setVar (g : Nat) (cs : Array Value) (heap : Array Obj) : Array Obj := heap.modify g fun
  | .cells _ t frozen => .cells cs t frozen
  | o => o

noncomputable def laidWorld (os : Os) : World :=
  let w0 := World.holding Tryz.prog os ⟨#[.cells #[.string ⟨#[118, 97, 108, 117, 101, 32, 111, 117, 116, 32, 111, 102, 32, 114, 97, 110, 103, 101]⟩] 276, .cells #[.string ⟨#[105, 110, 118, 97, 108, 105, 100, 32, 115, 121, 110, 116, 97, 120]⟩] 276], #[], []⟩
  { w0 with heap := (setVar 3 #[.int .u8 240, .int .u8 240, .int .u8 240, .int .u8 240, .int .u8 240, .int .u8 240, .int .u8 240, .int .u8 240, .int .u8 240, .int .u8 240, .int .u8 240, .int .u8 240, .int .u8 240, .int .u8 240, .int .u8 240, .int .u8 240, .int .u8 240, .int .u8 240, .int .u8 240, .int .u8 240, .int .u8 240, .int .u8 240, .int .u8 240, .int .u8 240, .int .u8 240, .int .u8 240, .int .u8 240, .int .u8 240, .int .u8 240, .int .u8 240, .int .u8 240, .int .u8 240, .int .u8 240, .int .u8 240, .int .u8 240, .int .u8 240, .int .u8 240, .int .u8 240, .int .u8 240, .int .u8 240, .int .u8 240, .int .u8 240, .int .u8 240, .int .u8 240, .int .u8 240, .int .u8 240, .int .u8 240, .int .u8 240, .int .u8 240, .int .u8 240, .int .u8 240, .int .u8 240, .int .u8 240, .int .u8 240, .int .u8 240, .int .u8 240, .int .u8 240, .int .u8 240, .int .u8 240, .int .u8 240, .int .u8 240, .int .u8 240, .int .u8 240, .int .u8 240, .int .u8 240, .int .u8 240, .int .u8 240, .int .u8 240, .int .u8 240, .int .u8 240, .int .u8 240, .int .u8 240, .int .u8 240, .int .u8 240, .int .u8 240, .int .u8 240, .int .u8 240, .int .u8 240, .int .u8 240, .int .u8 240, .int .u8 240, .int .u8 240, .int .u8 240, .int .u8 240, .int .u8 240, .int .u8 240, .int .u8 240, .int .u8 240, .int .u8 240, .int .u8 240, .int .u8 240, .int .u8 240, .int .u8 240, .int .u8 240, .int .u8 240, .int .u8 240, .int .u8 240, .int .u8 240, .int .u8 240, .int .u8 240, .int .u8 240, .int .u8 240, .int .u8 240, .int .u8 240, .int .u8 240, .int .u8 240, .int .u8 240, .int .u8 240, .int .u8 240, .int .u8 240, .int .u8 240, .int .u8 240, .int .u8 240, .int .u8 240, .int .u8 240, .int .u8 240, .int .u8 240, .int .u8 240, .int .u8 240, .int .u8 240, .int .u8 240, .int .u8 240, .int .u8 240, .int .u8 240, .int .u8 240, .int .u8 240, .int .u8 240, .int .u8 240, .int .u8 241, .int .u8 241, .int .u8 241, .int .u8 241, .int .u8 241, .int .u8 241, .int .u8 241, .int .u8 241, .int .u8 241, .int .u8 241, .int .u8 241, .int .u8 241, .int .u8 241, .int .u8 241, .int .u8 241, .int .u8 241, .int .u8 241, .int .u8 241, .int .u8 241, .int .u8 241, .int .u8 241, .int .u8 241, .int .u8 241, .int .u8 241, .int .u8 241, .int .u8 241, .int .u8 241, .int .u8 241, .int .u8 241, .int .u8 241, .int .u8 241, .int .u8 241, .int .u8 241, .int .u8 241, .int .u8 241, .int .u8 241, .int .u8 241, .int .u8 241, .int .u8 241, .int .u8 241, .int .u8 241, .int .u8 241, .int .u8 241, .int .u8 241, .int .u8 241, .int .u8 241, .int .u8 241, .int .u8 241, .int .u8 241, .int .u8 241, .int .u8 241, .int .u8 241, .int .u8 241, .int .u8 241, .int .u8 241, .int .u8 241, .int .u8 241, .int .u8 241, .int .u8 241, .int .u8 241, .int .u8 241, .int .u8 241, .int .u8 241, .int .u8 241, .int .u8 241, .int .u8 241, .int .u8 2, .int .u8 2, .int .u8 2, .int .u8 2, .int .u8 2, .int .u8 2, .int .u8 2, .int .u8 2, .int .u8 2, .int .u8 2, .int .u8 2, .int .u8 2, .int .u8 2, .int .u8 2, .int .u8 2, .int .u8 2, .int .u8 2, .int .u8 2, .int .u8 2, .int .u8 2, .int .u8 2, .int .u8 2, .int .u8 2, .int .u8 2, .int .u8 2, .int .u8 2, .int .u8 2, .int .u8 2, .int .u8 2, .int .u8 2, .int .u8 19, .int .u8 3, .int .u8 3, .int .u8 3, .int .u8 3, .int .u8 3, .int .u8 3, .int .u8 3, .int .u8 3, .int .u8 3, .int .u8 3, .int .u8 3, .int .u8 3, .int .u8 35, .int .u8 3, .int .u8 3, .int .u8 52, .int .u8 4, .int .u8 4, .int .u8 4, .int .u8 68, .int .u8 241, .int .u8 241, .int .u8 241, .int .u8 241, .int .u8 241, .int .u8 241, .int .u8 241, .int .u8 241, .int .u8 241, .int .u8 241, .int .u8 241] (setVar 1 #[.string ⟨#[46]⟩, .string ⟨#[226, 128, 153]⟩, .string ⟨#[59]⟩, .string ⟨#[45]⟩, .string ⟨#[67, 72, 70]⟩, .string ⟨#[44]⟩, .string ⟨#[46]⟩, .string ⟨#[59]⟩, .string ⟨#[45]⟩, .string ⟨#[226, 130, 172]⟩, .string ⟨#[46]⟩, .string ⟨#[44]⟩, .string ⟨#[44]⟩, .string ⟨#[45]⟩, .string ⟨#[36]⟩, .string ⟨#[44]⟩, .string ⟨#[226, 128, 175]⟩, .string ⟨#[59]⟩, .string ⟨#[45]⟩, .string ⟨#[226, 130, 172]⟩, .string ⟨#[46]⟩, .string ⟨#[44]⟩, .string ⟨#[44]⟩, .string ⟨#[45]⟩, .string ⟨#[226, 130, 185]⟩, .string ⟨#[44]⟩, .string ⟨#[194, 160]⟩, .string ⟨#[59]⟩, .string ⟨#[226, 136, 146]⟩, .string ⟨#[107, 114]⟩] (setVar 0 #[.string ⟨#[99, 104]⟩, .string ⟨#[100, 101]⟩, .string ⟨#[101, 110]⟩, .string ⟨#[102, 114]⟩, .string ⟨#[104, 105]⟩, .string ⟨#[115, 118]⟩] (setVar 5 #[.iface 274 (.pointer (some ⟨low + 1, 0, none⟩))] (setVar 6 #[.iface 274 (.pointer (some ⟨low, 0, none⟩))] (setVar 4 #[.int .u8 128, .int .u8 191, .int .u8 160, .int .u8 191, .int .u8 128, .int .u8 159, .int .u8 144, .int .u8 191, .int .u8 128, .int .u8 143, .int .u8 0, .int .u8 0, .int .u8 0, .int .u8 0, .int .u8 0, .int .u8 0, .int .u8 0, .int .u8 0, .int .u8 0, .int .u8 0, .int .u8 0, .int .u8 0, .int .u8 0, .int .u8 0, .int .u8 0, .int .u8 0, .int .u8 0, .int .u8 0, .int .u8 0, .int .u8 0, .int .u8 0, .int .u8 0] (setVar 7 #[.int .u64 1, .int .u64 10, .int .u64 100, .int .u64 1000, .int .u64 10000, .int .u64 100000, .int .u64 1000000, .int .u64 10000000, .int .u64 100000000, .int .u64 1000000000, .int .u64 10000000000, .int .u64 100000000000, .int .u64 1000000000000, .int .u64 10000000000000, .int .u64 100000000000000, .int .u64 1000000000000000, .int .u64 10000000000000000, .int .u64 100000000000000000, .int .u64 1000000000000000000, .int .u64 10000000000000000000] (setVar 9 #[.int .u8 0, .int .u8 1, .int .u8 56, .int .u8 2, .int .u8 57, .int .u8 49, .int .u8 28, .int .u8 3, .int .u8 61, .int .u8 58, .int .u8 42, .int .u8 50, .int .u8 38, .int .u8 29, .int .u8 17, .int .u8 4, .int .u8 62, .int .u8 47, .int .u8 59, .int .u8 36, .int .u8 45, .int .u8 43, .int .u8 51, .int .u8 22, .int .u8 53, .int .u8 39, .int .u8 33, .int .u8 30, .int .u8 24, .int .u8 18, .int .u8 12, .int .u8 5, .int .u8 63, .int .u8 55, .int .u8 48, .int .u8 27, .int .u8 60, .int .u8 41, .int .u8 37, .int .u8 16, .int .u8 46, .int .u8 35, .int .u8 44, .int .u8 21, .int .u8 52, .int .u8 32, .int .u8 23, .int .u8 11, .int .u8 54, .int .u8 26, .int .u8 40, .int .u8 15, .int .u8 34, .int .u8 20, .int .u8 31, .int .u8 10, .int .u8 25, .int .u8 14, .int .u8 19, .int .u8 9, .int .u8 13, .int .u8 8, .int .u8 7, .int .u8 6] (setVar 8 #[.int .u8 0, .int .u8 1, .int .u8 28, .int .u8 2, .int .u8 29, .int .u8 14, .int .u8 24, .int .u8 3, .int .u8 30, .int .u8 22, .int .u8 20, .int .u8 15, .int .u8 25, .int .u8 17, .int .u8 4, .int .u8 8, .int .u8 31, .int .u8 27, .int .u8 13, .int .u8 23, .int .u8 21, .int .u8 19, .int .u8 16, .int .u8 7, .int .u8 26, .int .u8 12, .int .u8 18, .int .u8 6, .int .u8 11, .int .u8 5, .int .u8 10, .int .u8 9] w0.heap))))))))) }

end Go.Proofs.YtilbpmimoijfhaaGreatDoor

/-
 DERIVED:THE SHELF's CONTRACTS AT THIS DUMP,IN PLAIN WORDS (tools/lay-plain.mjs out of 'TryzShelf.lean',which tools/lay-shelf.mjs wrote):THE SAME DECLARATIONS UNDER THE SAME NAMES:'import','namespace','open','def','theorem' AND NOTHING ELSE:no command of the shelf's:FOR A HAND-IN. Each laying:the table of numbers ('.._ren') and one theorem,a field a fact of the dump's own or the kernel's comparison;each contract:ONE APPLICATION.
-/
namespace Go.Proofs
set_option linter.all false
open Go.Shelf Tryz YtilbpmimoijfhaaGreatDoor
def Tryz.lays169_ren:Go.Shelf.Ren:=⟨fun|169=>78|n=>n,fun|70=>126|9=>9|0=>0|72=>129|37=>127|127=>151|3=>3|5=>5|n=>n,fun|n=>n⟩
def Tryz.lays169:Go.Proofs.Lays.n169 prog lays169_ren:=by constructor<;>first|kernel_rfl|(intro;kernel_rfl)|decide
def Tryz.Builder_Extra_169:Builder.Extra prog lays169_ren:= {
 sizeBuilder:=dj
 liesBuilder:=dj
 t5:=underlying5
 a5:=isAgg5
 z5:=sizeOf5
 v5:=zeroValue5
 infoByte:=dj
 cellsByte:=dj
 sizeByte:=dj
 neB5:=by decide}
open Go.RowKit in
def Tryz.Builder_String_any (B b:Nat) (l:List UInt8) (w:World) (h:Lib.IsBuilder 129 5 B b (Lib.byteCells l) w) (hBw:B<=w.heap.size):
 Calls prog 78 #[.pointer (some ⟨b,0,none⟩)] w fun e w'=>e= .returned (.string ⟨l.toArray⟩)/\Below B w w':=Any.Builder_String_any lays169 Builder_Extra_169 B b l w h hBw
def Tryz.lays156_ren:Go.Shelf.Ren:=⟨fun|156=>51|165=>74|166=>76|169=>78|240=>102|241=>103|276=>132|277=>133|n=>n,fun|31=>54|9=>9|3=>3|4=>4|0=>0|20=>20|72=>129|76=>133|70=>126|37=>127|75=>132|127=>151|164=>174|5=>5|80=>137|n=>n,fun|n=>n⟩
def Tryz.lays156:Go.Proofs.Lays.n156 prog lays156_ren:=by constructor<;>first|kernel_rfl|(intro;kernel_rfl)|decide
def Tryz.Builder_Extra_156:Builder.Extra prog lays156_ren:= {
 sizeBuilder:=dj
 liesBuilder:=dj
 t5:=underlying5
 a5:=isAgg5
 z5:=sizeOf5
 v5:=zeroValue5
 infoByte:=dj
 cellsByte:=dj
 sizeByte:=dj
 neB5:=by decide}
open Go.RowKit in
def Tryz.strings_Join_none (a:Option Addr) (c:Nat) (sep:ByteArray) (w:World):
 Calls prog 51 #[.slice a 0 c,.string sep] w fun e w'=>e= .returned (.string ⟨#[]⟩)/\w'=w:=Any.strings_Join_none lays156 Builder_Extra_156 a c sep w
open Go.RowKit in
def Tryz.strings_Join (bk o c:Nat) (xs:List ByteArray) (sep:ByteArray) (w:World) (hcells: ∀ (j:Nat) x,xs[j]? =some x->w.cell? ⟨bk,o+j,none⟩=some (.string x)) (hbk:bk<w.heap.size) (hN:xs.length<=140737488355328) (hcap:xs.length<=c) (hlen:(Lib.join (xs.map (·.data.toList)) sep.data.toList).length <=140737488355328):
 Calls prog 51 #[.slice (some ⟨bk,o,none⟩) xs.length c,.string sep] w fun e w'=>e= .returned (.string ⟨(Lib.join (xs.map (·.data.toList)) sep.data.toList).toArray⟩)/\Below w.heap.size w w':=Any.strings_Join lays156 Builder_Extra_156 bk o c xs sep w hcells hbk hN hcap hlen
def Tryz.lays161_ren:Go.Shelf.Ren:=⟨fun|161=>208|231=>125|227=>127|233=>128|235=>130|228=>169|197=>77|151=>170|260=>105|152=>214|137=>251|119=>252|224=>136|225=>135|217=>134|266=>172|n=>n,fun|9=>9|4=>4|3=>3|5=>5|117=>170|116=>169|0=>0|124=>173|105=>135|21=>21|119=>179|46=>178|139=>182|138=>181|n=>n,fun|3=>3|4=>4|n=>n⟩
def Tryz.lays161:Go.Proofs.Lays.n161 prog lays161_ren:=by constructor<;>first|kernel_rfl|(intro;kernel_rfl)|decide
open Go.RowKit in
def Tryz.strings_TrimLeft_one (s:ByteArray) (c:UInt8) (hc:c.toNat<128) (w:World):
 Calls prog 208 #[.string s,.string ⟨#[c]⟩] w fun e w'=>e= .returned (.string ⟨(Lib.trimLeftB s.data.toList c).toArray⟩)/\w'=w:=Any.strings_TrimLeft_one lays161 s c hc w
def Tryz.lays162_ren:Go.Shelf.Ren:=⟨fun|162=>209|232=>126|227=>127|234=>129|236=>131|228=>169|271=>171|151=>170|120=>215|197=>77|152=>214|260=>105|137=>251|119=>252|224=>136|225=>135|217=>134|266=>172|n=>n,fun|9=>9|4=>4|3=>3|5=>5|117=>170|116=>169|0=>0|124=>173|21=>21|105=>135|46=>178|119=>179|139=>182|138=>181|n=>n,fun|3=>3|4=>4|n=>n⟩
def Tryz.lays162:Go.Proofs.Lays.n162 prog lays162_ren:=by constructor<;>first|kernel_rfl|(intro;kernel_rfl)|decide
open Go.RowKit in
def Tryz.strings_TrimRight_one (s:ByteArray) (c:UInt8) (hc:c.toNat<128) (w:World) (hs:s.size<=9223372036854775807):
 Calls prog 209 #[.string s,.string ⟨#[c]⟩] w fun e w'=>e= .returned (.string ⟨(Lib.trimRightB s.data.toList c).toArray⟩)/\w'=w:=Any.strings_TrimRight_one lays162 s c hc w hs
def Tryz.lays160_ren:Go.Shelf.Ren:=⟨fun|160=>99|232=>126|231=>125|227=>127|234=>129|233=>128|236=>131|235=>130|228=>169|271=>171|151=>170|197=>77|120=>215|152=>214|260=>105|137=>251|119=>252|224=>136|225=>135|217=>134|266=>172|n=>n,fun|9=>9|4=>4|3=>3|5=>5|117=>170|116=>169|0=>0|124=>173|21=>21|105=>135|46=>178|119=>179|139=>182|138=>181|n=>n,fun|3=>3|4=>4|n=>n⟩
def Tryz.lays160:Go.Proofs.Lays.n160 prog lays160_ren:=by constructor<;>first|kernel_rfl|(intro;kernel_rfl)|decide
def Tryz.lays128_ren:Go.Shelf.Ren:=⟨fun|128=>253|n=>n,fun|51=>85|3=>3|4=>4|46=>178|5=>5|9=>9|n=>n,fun|n=>n⟩
def Tryz.lays128:Go.Proofs.Lays.n128 prog lays128_ren:=by constructor<;>first|kernel_rfl|(intro;kernel_rfl)|decide
def Tryz.bits_Len32 (x:Int) (w:World) (h0:0<=x) (h1:x<=4294967295):
 Calls prog 253 #[.int .u32 x] w fun e w'=>e= .returned (.int .i64 (Lib.bitLen x.toNat))/\w'=w:=Any.bits_Len32 lays128 x w h0 h1
def Tryz.lays133_ren:Go.Shelf.Ren:=⟨fun|133=>292|128=>253|n=>n,fun|51=>85|3=>3|4=>4|46=>178|5=>5|9=>9|n=>n,fun|n=>n⟩
def Tryz.lays133:Go.Proofs.Lays.n133 prog lays133_ren:=by constructor<;>first|kernel_rfl|(intro;kernel_rfl)|decide
def Tryz.bits_LeadingZeros32 (x:Int) (w:World) (h0:0<=x) (h1:x<=4294967295):
 Calls prog 292 #[.int .u32 x] w fun e w'=>e= .returned (.int .i64 (32-(Lib.bitLen x.toNat:Int)))/\w'=w:=Any.bits_LeadingZeros32 lays133 x w h0 h1
def Tryz.lays106_ren:Go.Shelf.Ren:=⟨fun|106=>223|213=>254|265=>270|n=>n,fun|9=>9|3=>3|n=>n,fun|n=>n⟩
def Tryz.lays106:Go.Proofs.Lays.n106 prog lays106_ren:=by constructor<;>first|kernel_rfl|(intro;kernel_rfl)|decide
open Go.RowKit in
def Tryz.strings_Compare (a b:ByteArray) (w:World):
 Calls prog 223 #[.string a,.string b] w fun e w'=>e= .returned (.int .i64 (Lib.compareBytes a.data.toList b.data.toList))/\w'=w:=Any.strings_Compare lays106 a b w
def Tryz.lays103_ren:Go.Shelf.Ren:=⟨fun|103=>60|210=>94|206=>98|n=>n,fun|9=>9|4=>4|24=>118|3=>3|n=>n,fun|n=>n⟩
def Tryz.lays103:Go.Proofs.Lays.n103 prog lays103_ren:=by constructor<;>first|kernel_rfl|(intro;kernel_rfl)|decide
open Go.RowKit in
def Tryz.strings_CutPrefix (s p:ByteArray) (w:World):
 Calls prog 60 #[.string s,.string p] w fun e w'=>e= .returned (.tuple #[.string ⟨(Lib.trimPrefix s.data.toList p.data.toList).toArray⟩,.bool (Lib.hasPrefix s.data.toList p.data.toList)])/\w'=w:=Any.strings_CutPrefix lays103 s p w
def Tryz.lays129_ren:Go.Shelf.Ren:=⟨fun|129=>230|n=>n,fun|53=>22|3=>3|4=>4|46=>178|5=>5|9=>9|n=>n,fun|n=>n⟩
def Tryz.lays129:Go.Proofs.Lays.n129 prog lays129_ren:=by constructor<;>first|kernel_rfl|(intro;kernel_rfl)|decide
def Tryz.bits_Len64 (x:Int) (w:World) (h0:0<=x) (h1:x<=18446744073709551615):
 Calls prog 230 #[.int .u64 x] w fun e w'=>e= .returned (.int .i64 (Lib.bitLen x.toNat))/\w'=w:=Any.bits_Len64 lays129 x w h0 h1
def Tryz.laysM171_ren:Go.Shelf.Ren:=⟨fun|171=>84|243=>115|246=>147|283=>187|284=>188|285=>189|286=>190|129=>230|317=>229|318=>231|319=>232|320=>233|337=>267|338=>268|n=>n,fun|3=>3|9=>9|2=>2|4=>4|171=>229|0=>0|53=>22|37=>127|5=>5|173=>231|212=>262|51=>85|20=>20|213=>263|46=>178|232=>307|233=>308|n=>n,fun|17=>7|18=>8|19=>9|n=>n⟩
def Tryz.laysM171:Go.Proofs.LaysM.n171 prog laysM171_ren:= {
 mixed:=dj
 f129:=func230.trans gC
 f171:=func84.trans gC
 f243:=func115.trans gC
 f246:=func147.trans gC
 f283:=func187.trans gC
 f284:=func188.trans gC
 f285:=func189.trans gC
 f286:=func190.trans gC
 f317:=func229.trans gC
 f318:=func231.trans gC
 f319:=func232.trans gC
 f320:=func233.trans gC
 f337:=func267.trans gC
 f338:=func268.trans gC
 t0:=underlying0
 a0:=isAgg0
 z0:=sizeOf0
 v0:=zeroValue0
 t2:=underlying2
 a2:=isAgg2
 z2:=sizeOf2
 v2:=zeroValue2
 t3:=underlying3
 a3:=isAgg3
 z3:=sizeOf3
 v3:=zeroValue3
 t4:=underlying4
 a4:=isAgg4
 z4:=sizeOf4
 v4:=zeroValue4
 t5:=underlying5
 a5:=isAgg5
 z5:=sizeOf5
 v5:=zeroValue5
 t9:=underlying9
 a9:=isAgg9
 z9:=sizeOf9
 v9:=zeroValue9
 t20:=underlying20
 a20:=isAgg20
 z20:=sizeOf20
 v20:=zeroValue20
 t37:=underlying127
 a37:=isAgg127
 z37:=sizeOf127
 v37:=zeroValue127
 t46:=underlying178
 a46:=isAgg178
 z46:=sizeOf178
 v46:=zeroValue178
 t51:=underlying85
 a51:=isAgg85
 z51:=sizeOf85
 v51:=zeroValue85
 t53:=underlying22
 a53:=isAgg22
 z53:=sizeOf22
 v53:=zeroValue22
 t171:=underlying229
 a171:=isAgg229
 z171:=sizeOf229
 v171:=zeroValue229
 t173:=underlying231
 a173:=isAgg231
 z173:=sizeOf231
 v173:=zeroValue231
 t212:=underlying262
 a212:=isAgg262
 z212:=sizeOf262
 v212:=zeroValue262
 t213:=underlying263
 a213:=isAgg263
 z213:=sizeOf263
 t232:=underlying307
 a232:=isAgg307
 z232:=sizeOf307
 v232:=zeroValue307
 t233:=underlying308
 a233:=isAgg308
 z233:=sizeOf308
 v233:=zeroValue308
 g17:=dj
 g18:=dj
 g19:=dj
 i0:=dj
 i2:=dj
 i3:=dj
 i4:=dj
 i5:=dj
 i9:=dj
 i20:=dj
 i37:=dj
 i46:=dj
 i51:=dj
 i53:=dj
 i171:=dj
 i173:=dj
 i212:=dj
 i232:=dj
 i233:=dj
 m17:=dj
 m18:=dj
 m19:=dj}
open Go.RowKit Go.Sort Go.Lib in
def Tryz.strconv_Itoa (n:Int) (h0: -9223372036854775808<=n) (h1:n<=9223372036854775807) (w:World) (htab:Lib.TabIs prog w "internal/strconv.uint64pow10" .u64 Lib.pow10Tab):
 Calls prog 84 #[.int .i64 n] w fun e w'=>e= .returned (.string ⟨(Lib.itoa n).toArray⟩)/\ ∃ k os,w'=grow (w.drewN k) os:=Any.strconv_Itoa laysM171 n h0 h1 w htab
def Tryz.laysC172_ren:Go.Shelf.Ren:=⟨fun|172=>96|244=>123|245=>124|247=>164|279=>165|280=>166|281=>167|282=>168|287=>211|316=>212|171=>84|205=>213|321=>249|322=>250|243=>115|246=>147|283=>187|284=>188|285=>189|286=>190|129=>230|317=>229|318=>231|319=>232|320=>233|337=>267|338=>268|n=>n,fun|9=>9|3=>3|75=>132|76=>133|4=>4|5=>5|167=>206|37=>127|0=>0|85=>207|2=>2|168=>209|53=>22|175=>247|46=>178|210=>250|127=>151|145=>276|143=>274|21=>21|171=>229|173=>231|212=>262|51=>85|20=>20|213=>263|232=>307|233=>308|80=>137|n=>n,fun|15=>5|16=>6|17=>7|18=>8|19=>9|n=>n⟩
def Tryz.laysC172:Go.Proofs.LaysC.n172 prog laysC172_ren:= {
 mixed:=dj
 f129:=func230.trans gC
 f171:=func84.trans gC
 f172:=func96.trans gC
 f205:=func213.trans gC
 f243:=func115.trans gC
 f244:=func123.trans gC
 f245:=func124.trans gC
 f246:=func147.trans gC
 f247:=func164.trans gC
 f279:=func165.trans gC
 f280:=func166.trans gC
 f281:=func167.trans gC
 f282:=func168.trans gC
 f283:=func187.trans gC
 f284:=func188.trans gC
 f285:=func189.trans gC
 f286:=func190.trans gC
 f287:=func211.trans gC
 f316:=func212.trans gC
 f317:=func229.trans gC
 f318:=func231.trans gC
 f319:=func232.trans gC
 f320:=func233.trans gC
 f321:=func249.trans gC
 f322:=func250.trans gC
 f337:=func267.trans gC
 f338:=func268.trans gC
 t0:=underlying0
 a0:=isAgg0
 z0:=sizeOf0
 v0:=zeroValue0
 t2:=underlying2
 a2:=isAgg2
 z2:=sizeOf2
 v2:=zeroValue2
 t3:=underlying3
 a3:=isAgg3
 z3:=sizeOf3
 v3:=zeroValue3
 t4:=underlying4
 a4:=isAgg4
 z4:=sizeOf4
 v4:=zeroValue4
 t5:=underlying5
 a5:=isAgg5
 z5:=sizeOf5
 v5:=zeroValue5
 t9:=underlying9
 a9:=isAgg9
 z9:=sizeOf9
 v9:=zeroValue9
 t20:=underlying20
 a20:=isAgg20
 z20:=sizeOf20
 v20:=zeroValue20
 t21:=underlying21
 a21:=isAgg21
 z21:=sizeOf21
 v21:=zeroValue21
 t37:=underlying127
 a37:=isAgg127
 z37:=sizeOf127
 v37:=zeroValue127
 t46:=underlying178
 a46:=isAgg178
 z46:=sizeOf178
 v46:=zeroValue178
 t51:=underlying85
 a51:=isAgg85
 z51:=sizeOf85
 v51:=zeroValue85
 t53:=underlying22
 a53:=isAgg22
 z53:=sizeOf22
 v53:=zeroValue22
 t75:=underlying132
 a75:=isAgg132
 z75:=sizeOf132
 v75:=zeroValue132
 t76:=underlying133
 a76:=isAgg133
 z76:=sizeOf133
 v76:=zeroValue133
 t85:=underlying207
 a85:=isAgg207
 z85:=sizeOf207
 v85:=zeroValue207
 t127:=underlying151
 a127:=isAgg151
 z127:=sizeOf151
 v127:=zeroValue151
 t143:=underlying274
 a143:=isAgg274
 z143:=sizeOf274
 v143:=zeroValue274
 t145:=underlying276
 a145:=isAgg276
 z145:=sizeOf276
 v145:=zeroValue276
 t167:=underlying206
 a167:=isAgg206
 z167:=sizeOf206
 v167:=zeroValue206
 t168:=underlying209
 a168:=isAgg209
 z168:=sizeOf209
 v168:=zeroValue209
 t171:=underlying229
 a171:=isAgg229
 z171:=sizeOf229
 v171:=zeroValue229
 t173:=underlying231
 a173:=isAgg231
 z173:=sizeOf231
 v173:=zeroValue231
 t175:=underlying247
 a175:=isAgg247
 z175:=sizeOf247
 v175:=zeroValue247
 t210:=underlying250
 a210:=isAgg250
 z210:=sizeOf250
 v210:=zeroValue250
 t212:=underlying262
 a212:=isAgg262
 z212:=sizeOf262
 v212:=zeroValue262
 t213:=underlying263
 a213:=isAgg263
 z213:=sizeOf263
 t232:=underlying307
 a232:=isAgg307
 z232:=sizeOf307
 v232:=zeroValue307
 t233:=underlying308
 a233:=isAgg308
 z233:=sizeOf308
 v233:=zeroValue308
 g15:=dj
 g16:=dj
 g17:=dj
 g18:=dj
 g19:=dj
 t80:=underlying137
 a80:=isAgg137
 z80:=sizeOf137
 v80:=zeroValue137
 i0:=dj
 i2:=dj
 i3:=dj
 i4:=dj
 i5:=dj
 i9:=dj
 i20:=dj
 i21:=dj
 i37:=dj
 i46:=dj
 i51:=dj
 i53:=dj
 i75:=dj
 i76:=dj
 i80:=dj
 i85:=dj
 i127:=dj
 i143:=dj
 i145:=dj
 i167:=dj
 i168:=dj
 i171:=dj
 i173:=dj
 i175:=dj
 i210:=dj
 i212:=dj
 i232:=dj
 i233:=dj
 m15:=dj
 m16:=dj
 m17:=dj
 m18:=dj
 m19:=dj
 c0:=dj
 c2:=dj
 c3:=dj
 c4:=dj
 c5:=dj
 c9:=dj
 c20:=dj
 c21:=dj
 c37:=dj
 c46:=dj
 c51:=dj
 c53:=dj
 c75:=dj
 c76:=dj
 c80:=dj
 c85:=dj
 c127:=dj
 c143:=dj
 c145:=dj
 c167:=dj
 c168:=dj
 c171:=dj
 c173:=dj
 c175:=dj
 c210:=dj
 c212:=dj
 c213:=dj
 c232:=dj
 c233:=dj}
open Go.RowKit in
def Tryz.strconv_Atoi_ok (s:ByteArray) (hmax:s.size<=9223372036854775806) (v:Int) (h:Lib.atoiAll s.data.toList= .ok v) (w:World):
 Calls prog 96 #[.string s] w fun e w'=>e= .returned (.tuple #[.int .i64 v,.nilIface])/\(w'=w∨ ∃ t,w'=Lib.bytesWorld w 5 t):=Any.strconv_Atoi_ok laysC172 s hmax v h w
open Go.RowKit in
def Tryz.strconv_Atoi_range (s:ByteArray) (hlim:s.size<=281474976710656) (h:Lib.atoiAll s.data.toList= .range) (ev:Value) (w:World) (hv:w.cell? ⟨6,0,none⟩=some ev) (hev:ev= .nilIface ∨ ∃ te pe,ev= .iface te pe):
 Calls prog 96 #[.string s] w fun e w'=> ∃ N,e= .returned (.tuple #[.int .i64 (Lib.atoiSat s.data.toList),.iface 209 (.pointer (some ⟨N,0,none⟩))])/\w.heap.size<=N/\w'.heap[N]? =some (.cells #[.string ⟨#[65,116,111,105]⟩,.string s,ev] 250 (0,0))/\Below w.heap.size w w':=Any.strconv_Atoi_range laysC172 s hlim h ev w hv hev
def Tryz.laysPu14_ren:Go.Shelf.Ren:=⟨fun|14=>224|16=>211|17=>124|19=>249|20=>250|21=>165|22=>166|23=>167|24=>168|25=>212|27=>84|26=>213|28=>115|29=>147|30=>187|31=>188|32=>189|33=>190|35=>230|34=>229|36=>231|37=>232|38=>233|39=>267|40=>268|n=>n,fun|9=>9|3=>3|22=>22|24=>132|25=>247|4=>4|34=>206|5=>5|36=>178|37=>127|0=>0|39=>209|21=>21|44=>250|47=>151|50=>276|48=>274|2=>2|52=>229|55=>231|59=>262|60=>85|20=>20|61=>263|65=>307|66=>308|67=>137|n=>n,fun|0=>5|1=>6|2=>7|3=>8|4=>9|n=>n⟩
def Tryz.laysPu14:Go.Proofs.LaysPu.n14 prog laysPu14_ren:= {
 mixed:=dj
 f14:=func224.trans gC
 f16:=func211.trans gC
 f17:=func124.trans gC
 f19:=func249.trans gC
 f20:=func250.trans gC
 f21:=func165.trans gC
 f22:=func166.trans gC
 f23:=func167.trans gC
 f24:=func168.trans gC
 f25:=func212.trans gC
 f26:=func213.trans gC
 f27:=func84.trans gC
 f28:=func115.trans gC
 f29:=func147.trans gC
 f30:=func187.trans gC
 f31:=func188.trans gC
 f32:=func189.trans gC
 f33:=func190.trans gC
 f34:=func229.trans gC
 f35:=func230.trans gC
 f36:=func231.trans gC
 f37:=func232.trans gC
 f38:=func233.trans gC
 f39:=func267.trans gC
 f40:=func268.trans gC
 t0:=underlying0
 a0:=isAgg0
 z0:=sizeOf0
 v0:=zeroValue0
 i0:=dj
 t2:=underlying2
 a2:=isAgg2
 z2:=sizeOf2
 v2:=zeroValue2
 i2:=dj
 t3:=underlying3
 a3:=isAgg3
 z3:=sizeOf3
 v3:=zeroValue3
 i3:=dj
 t4:=underlying4
 a4:=isAgg4
 z4:=sizeOf4
 v4:=zeroValue4
 i4:=dj
 t5:=underlying5
 a5:=isAgg5
 z5:=sizeOf5
 v5:=zeroValue5
 i5:=dj
 t9:=underlying9
 a9:=isAgg9
 z9:=sizeOf9
 v9:=zeroValue9
 i9:=dj
 t20:=underlying20
 a20:=isAgg20
 z20:=sizeOf20
 v20:=zeroValue20
 i20:=dj
 t21:=underlying21
 a21:=isAgg21
 z21:=sizeOf21
 v21:=zeroValue21
 i21:=dj
 t22:=underlying22
 a22:=isAgg22
 z22:=sizeOf22
 v22:=zeroValue22
 i22:=dj
 t24:=underlying132
 a24:=isAgg132
 z24:=sizeOf132
 v24:=zeroValue132
 i24:=dj
 t25:=underlying247
 a25:=isAgg247
 z25:=sizeOf247
 v25:=zeroValue247
 i25:=dj
 t34:=underlying206
 a34:=isAgg206
 z34:=sizeOf206
 v34:=zeroValue206
 i34:=dj
 c34:=dj
 t36:=underlying178
 a36:=isAgg178
 z36:=sizeOf178
 v36:=zeroValue178
 i36:=dj
 t37:=underlying127
 a37:=isAgg127
 z37:=sizeOf127
 v37:=zeroValue127
 i37:=dj
 t39:=underlying209
 a39:=isAgg209
 z39:=sizeOf209
 v39:=zeroValue209
 i39:=dj
 t44:=underlying250
 a44:=isAgg250
 z44:=sizeOf250
 v44:=zeroValue250
 i44:=dj
 t47:=underlying151
 a47:=isAgg151
 z47:=sizeOf151
 v47:=zeroValue151
 i47:=dj
 t48:=underlying274
 a48:=isAgg274
 z48:=sizeOf274
 v48:=zeroValue274
 i48:=dj
 t50:=underlying276
 a50:=isAgg276
 z50:=sizeOf276
 v50:=zeroValue276
 i50:=dj
 t52:=underlying229
 a52:=isAgg229
 z52:=sizeOf229
 v52:=zeroValue229
 i52:=dj
 t55:=underlying231
 a55:=isAgg231
 z55:=sizeOf231
 v55:=zeroValue231
 i55:=dj
 t59:=underlying262
 a59:=isAgg262
 z59:=sizeOf262
 v59:=zeroValue262
 i59:=dj
 t60:=underlying85
 a60:=isAgg85
 z60:=sizeOf85
 v60:=zeroValue85
 i60:=dj
 t61:=underlying263
 a61:=isAgg263
 z61:=sizeOf263
 t65:=underlying307
 a65:=isAgg307
 z65:=sizeOf307
 v65:=zeroValue307
 i65:=dj
 t66:=underlying308
 a66:=isAgg308
 z66:=sizeOf308
 v66:=zeroValue308
 i66:=dj
 t67:=underlying137
 a67:=isAgg137
 z67:=sizeOf137
 v67:=zeroValue137
 i67:=dj
 g0:=dj
 m0:=dj
 g1:=dj
 m1:=dj
 g2:=dj
 m2:=dj
 g3:=dj
 m3:=dj
 g4:=dj
 m4:=dj}
open Go.RowKit in
def Tryz.strconv_ParseUint_10_at64_ok (s:ByteArray) (hmax:s.size<=9223372036854775806) (u:Nat) (h:Lib.parseUintB 64 s.data.toList= .ok u) (w:World):
 Calls prog 224 #[.string s,.int .i64 10,.int .i64 64] w fun e w'=>e= .returned (.tuple #[.int .u64 u,.nilIface])/\(w'=w∨w'=Lib.bytesWorld w 5 s):=Any.strconv_ParseUint_10_at64_ok laysPu14 s hmax u h w
def Tryz.lays272_ren:Go.Shelf.Ren:=⟨fun|272=>58|315=>93|n=>n,fun|9=>9|40=>117|4=>4|3=>3|0=>0|21=>21|n=>n,fun|n=>n⟩
def Tryz.lays272:Go.Proofs.Lays.n272 prog lays272_ren:=by constructor<;>first|kernel_rfl|(intro;kernel_rfl)|decide
open Go.RowKit Go.Lib in
def Tryz.strings_TrimLeftFunc (g:Nat) (lb:Array Value) (eg: ∀ args w,(callFunc g args).run prog w= .ok (.enter g args) w) (p:Nat->Bool) (s:ByteArray) (w:World) (hp:PredAt prog g lb encR p w):
 Calls prog 58 #[.string s,.func (.func g) #[] lb] w fun e w'=>e= .returned (.string (Lib.trimLeftF p s))/\Below w.heap.size w w':=Any.strings_TrimLeftFunc lays272 g lb eg p s w hp
def Tryz.lays99_ren:Go.Shelf.Ren:=⟨fun|99=>66|206=>98|n=>n,fun|9=>9|4=>4|3=>3|n=>n,fun|n=>n⟩
def Tryz.lays99:Go.Proofs.Lays.n99 prog lays99_ren:=by constructor<;>first|kernel_rfl|(intro;kernel_rfl)|decide
open Go.RowKit Go.Lib in
def Tryz.strings_HasPrefix (s p:ByteArray) (w:World):
 Calls prog 66 #[.string s,.string p] w fun e w'=>e= .returned (.bool (Lib.hasPrefix s.data.toList p.data.toList))/\w'=w:=Any.strings_HasPrefix lays99 s p w
def Tryz.lays100_ren:Go.Shelf.Ren:=⟨fun|100=>144|207=>184|n=>n,fun|9=>9|4=>4|3=>3|n=>n,fun|n=>n⟩
def Tryz.lays100:Go.Proofs.Lays.n100 prog lays100_ren:=by constructor<;>first|kernel_rfl|(intro;kernel_rfl)|decide
open Go.RowKit Go.Lib in
def Tryz.strings_HasSuffix (s p:ByteArray) (w:World) (hs:s.size<=9223372036854775807):
 Calls prog 144 #[.string s,.string p] w fun e w'=>e= .returned (.bool (Lib.hasSuffix s.data.toList p.data.toList))/\w'=w:=Any.strings_HasSuffix lays100 s p w hs
def Tryz.lays154_ren:Go.Shelf.Ren:=⟨fun|154=>45|138=>73|165=>74|143=>75|166=>76|197=>77|169=>78|195=>100|218=>101|240=>102|241=>103|219=>104|260=>105|276=>132|277=>133|217=>134|225=>135|224=>136|267=>137|266=>172|314=>173|n=>n,fun|9=>9|3=>3|4=>4|72=>129|0=>0|76=>133|105=>135|21=>21|5=>5|70=>126|20=>20|37=>127|75=>132|127=>151|164=>174|46=>178|119=>179|139=>182|138=>181|146=>214|51=>85|80=>137|n=>n,fun|1=>2|3=>3|4=>4|n=>n⟩
def Tryz.lays154:Go.Proofs.Lays.n154 prog lays154_ren:=by constructor<;>first|kernel_rfl|(intro;kernel_rfl)|decide
def Tryz.Builder_Extra_154:Builder.Extra prog lays154_ren:= {
 sizeBuilder:=dj
 liesBuilder:=dj
 t5:=underlying5
 a5:=isAgg5
 z5:=sizeOf5
 v5:=zeroValue5
 infoByte:=dj
 cellsByte:=dj
 sizeByte:=dj
 neB5:=by decide}
open Go.RowKit Go.Lib in
def Tryz.strings_Replace (s old new:ByteArray) (n:Int) (m:Int) (w:World) (hs:s.size<4294967281) (hm:w.cell? ⟨2,0,none⟩=some (.int .i64 m)) (h1:1<=old.size) (hlen:s.size+Lib.countB s old*new.size<=140737488355328):
 Calls prog 45 #[.string s,.string old,.string new,.int .i64 n] w fun e w'=>
  e= .returned (.string ⟨(Lib.replace s.data.toList old.data.toList new.data.toList n).toArray⟩)/\Below w.heap.size w w':=Any.strings_Replace lays154 Builder_Extra_154 s old new n m w hs hm h1 hlen
def Tryz.lays155_ren:Go.Shelf.Ren:=⟨fun|155=>47|154=>45|138=>73|165=>74|143=>75|166=>76|197=>77|169=>78|195=>100|218=>101|240=>102|241=>103|219=>104|260=>105|276=>132|277=>133|217=>134|225=>135|224=>136|267=>137|266=>172|314=>173|n=>n,fun|9=>9|3=>3|4=>4|72=>129|0=>0|76=>133|105=>135|21=>21|5=>5|70=>126|20=>20|37=>127|75=>132|127=>151|164=>174|46=>178|119=>179|139=>182|138=>181|146=>214|51=>85|80=>137|n=>n,fun|1=>2|3=>3|4=>4|n=>n⟩
def Tryz.lays155:Go.Proofs.Lays.n155 prog lays155_ren:=by constructor<;>first|kernel_rfl|(intro;kernel_rfl)|decide
def Tryz.Builder_Extra_155:Builder.Extra prog lays155_ren:= {
 sizeBuilder:=dj
 liesBuilder:=dj
 t5:=underlying5
 a5:=isAgg5
 z5:=sizeOf5
 v5:=zeroValue5
 infoByte:=dj
 cellsByte:=dj
 sizeByte:=dj
 neB5:=by decide}
open Go.RowKit Go.Lib in
def Tryz.strings_ReplaceAll (s old new:ByteArray) (m:Int) (w:World) (hs:s.size<4294967281) (hm:w.cell? ⟨2,0,none⟩=some (.int .i64 m)) (h1:1<=old.size) (hlen:s.size+Lib.countB s old*new.size<=140737488355328):
 Calls prog 47 #[.string s,.string old,.string new] w fun e w'=>
  e= .returned (.string ⟨(Lib.replaceAll s.data.toList old.data.toList new.data.toList).toArray⟩)/\Below w.heap.size w w':=Any.strings_ReplaceAll lays155 Builder_Extra_155 s old new m w hs hm h1 hlen
def Tryz.lays264_ren:Go.Shelf.Ren:=⟨fun|264=>186|n=>n,fun|53=>22|46=>178|n=>n,fun|n=>n⟩
def Tryz.lays264:Go.Proofs.Lays.n264 prog lays264_ren:=by constructor<;>first|kernel_rfl|(intro;kernel_rfl)|decide
open Go.RowKit Go.Lib in
def Tryz.bits_Mul64 (x y:Nat) (hx:x<18446744073709551616) (hy:y<18446744073709551616) (w:World):
 Calls prog 186 #[.int .u64 x,.int .u64 y] w fun e w'=>e= .returned (.tuple #[.int .u64 ((x*y / 18446744073709551616:Nat):Int),.int .u64 ((x*y % 18446744073709551616:Nat):Int)])/\w'=w:=Any.bits_Mul64 lays264 x y hx hy w
def Tryz.lays105_ren:Go.Shelf.Ren:=⟨fun|105=>114|212=>145|99=>66|165=>74|166=>76|170=>146|169=>78|263=>185|264=>186|206=>98|240=>102|241=>103|276=>132|277=>133|n=>n,fun|9=>9|3=>3|4=>4|20=>20|0=>0|46=>178|109=>192|5=>5|72=>129|76=>133|51=>85|146=>214|53=>22|148=>227|70=>126|37=>127|75=>132|127=>151|164=>174|80=>137|n=>n,fun|n=>n⟩
def Tryz.lays105:Go.Proofs.Lays.n105 prog lays105_ren:=by constructor<;>first|kernel_rfl|(intro;kernel_rfl)|decide
def Tryz.Builder_Extra_105:Builder.Extra prog lays105_ren:= {
 sizeBuilder:=dj
 liesBuilder:=dj
 t5:=underlying5
 a5:=isAgg5
 z5:=sizeOf5
 v5:=zeroValue5
 infoByte:=dj
 cellsByte:=dj
 sizeByte:=dj
 neB5:=by decide}
open Go.RowKit Go.Lib in
def Tryz.strings_Repeat (s:ByteArray) (c:Nat) (w:World) (hc:c<=9223372036854775807) (hlen:s.size*c<=140737488355328):
 Calls prog 114 #[.string s,.int .i64 c] w fun e w'=>e= .returned (.string ⟨(Lib.repeatL s.data.toList c).toArray⟩)/\Below w.heap.size w w':=Any.strings_Repeat lays105 Builder_Extra_105 s c w hc hlen
def Tryz.lays110_ren:Go.Shelf.Ren:=⟨fun|110=>122|109=>163|n=>n,fun|31=>54|9=>9|4=>4|3=>3|0=>0|n=>n,fun|n=>n⟩
def Tryz.lays110:Go.Proofs.Lays.n110 prog lays110_ren:=by constructor<;>first|kernel_rfl|(intro;kernel_rfl)|decide
open Go.Lib in
def Tryz.slices_Contains_string (b off n c:Nat) (zs:List ByteArray) (x:ByteArray) (w:World) (hz:n<=zs.length) (hbig:n<=9223372036854775807) (hc: ∀ j,j<zs.length->w.cell? ⟨b,off+j,none⟩=some (.string (zs.getD j ByteArray.empty))):
 Calls prog 122 #[.slice (some ⟨b,off,none⟩) n c,.string x] w fun e w'=>e= .returned (.bool (Lib.containsS (zs.take n) x))/\w'=w:=Any.slices_Contains_string lays110 b off n c zs x w hz hbig hc
end Go.Proofs
