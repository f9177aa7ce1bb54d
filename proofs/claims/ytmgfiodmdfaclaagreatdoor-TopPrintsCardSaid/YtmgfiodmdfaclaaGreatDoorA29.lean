import Derived.Shelf.Strings.Builder1
import Derived.Shelf.Strings.Builder2
import Derived.Shelf.Strings.OnBuilder
import Derived.Shelf.Strings.Trim
import Derived.Shelf.Small.Utf8
import Derived.Shelf.Small.Bits
import Derived.Shelf.Small.Strs
import Derived.Shelf.Strconv.Itoa0
import Derived.Shelf.Strings.Search1
import Derived.Shelf.Strings.Search2
import Derived.Shelf.Strings.Search3
import Derived.Shelf.LaysM
import Derived.Shelf.Strings.Shaped
import Derived.Shelf.Unicode.Decode
import Derived.Shelf.Strings.Runes
import Derived.Shelf.Strings.AsciiSet
import Derived.Shelf.Bits.Mul64
import Derived.Shelf.Unicode.DecodeSlow
import Derived.Shelf.Unicode.DecodeAny
import Derived.Ground.SlgnProg
import Derived.Shelf.SlicesE.Clone
import Derived.Test.YtmgfiodmdfaclaaGreatDoorProg
set_option linter.unusedVariables false
set_option linter.unusedSimpArgs false
namespace Go.Proofs
open Go.Shelf
def Tryz.yI:Go.Shelf.Ren:=⟨fun|156=>73|165=>112|166=>113|169=>34|240=>160|241=>161|276=>198|277=>199|n=>n,fun|31=>79|9=>9|3=>3|4=>4|0=>0|20=>20|72=>76|76=>161|70=>73|37=>74|75=>160|127=>109|164=>221|5=>5|80=>85|n=>n,fun|n=>n⟩
theorem Tryz.aiJ:Go.Proofs.Lays.n156 Tryz.prog Tryz.yI:={
 mixed:=by kernel_rfl
 f156:=Tryz.func73.trans (congrArg some (by kernel_rfl))
 f165:=Tryz.func112.trans (congrArg some (by kernel_rfl))
 f166:=Tryz.func113.trans (congrArg some (by kernel_rfl))
 f169:=Tryz.func34.trans (congrArg some (by kernel_rfl))
 f240:=Tryz.func160.trans (congrArg some (by kernel_rfl))
 f241:=Tryz.func161.trans (congrArg some (by kernel_rfl))
 f276:=Tryz.func198.trans (congrArg some (by kernel_rfl))
 f277:=Tryz.func199.trans (congrArg some (by kernel_rfl))
 t0:=Tryz.underlying0
 a0:=Tryz.isAgg0
 z0:=Tryz.sizeOf0
 v0:=Tryz.zeroValue0
 t3:=Tryz.underlying3
 a3:=Tryz.isAgg3
 z3:=Tryz.sizeOf3
 v3:=Tryz.zeroValue3
 t4:=Tryz.underlying4
 a4:=Tryz.isAgg4
 z4:=Tryz.sizeOf4
 v4:=Tryz.zeroValue4
 t9:=Tryz.underlying9
 a9:=Tryz.isAgg9
 z9:=Tryz.sizeOf9
 v9:=Tryz.zeroValue9
 t20:=Tryz.underlying20
 a20:=Tryz.isAgg20
 z20:=Tryz.sizeOf20
 v20:=Tryz.zeroValue20
 t31:=Tryz.underlying79
 a31:=Tryz.isAgg79
 z31:=Tryz.sizeOf79
 v31:=Tryz.zeroValue79
 t37:=Tryz.underlying74
 a37:=Tryz.isAgg74
 z37:=Tryz.sizeOf74
 v37:=Tryz.zeroValue74
 t70:=Tryz.underlying73
 a70:=Tryz.isAgg73
 z70:=Tryz.sizeOf73
 v70:=Tryz.zeroValue73
 t72:=Tryz.underlying76
 a72:=Tryz.isAgg76
 z72:=Tryz.sizeOf76
 v72:=Tryz.zeroValue76
 t75:=Tryz.underlying160
 a75:=Tryz.isAgg160
 z75:=Tryz.sizeOf160
 v75:=Tryz.zeroValue160
 t76:=Tryz.underlying161
 a76:=Tryz.isAgg161
 z76:=Tryz.sizeOf161
 v76:=Tryz.zeroValue161
 t127:=Tryz.underlying109
 a127:=Tryz.isAgg109
 z127:=Tryz.sizeOf109
 v127:=Tryz.zeroValue109
 t164:=Tryz.underlying221
 a164:=Tryz.isAgg221
 z164:=Tryz.sizeOf221
 v164:=Tryz.zeroValue221}
theorem Tryz.nP:Builder.Extra Tryz.prog Tryz.yI:={
 sizeBuilder:=by kernel_rfl
 liesBuilder:=by kernel_rfl
 t5:=Tryz.underlying5
 a5:=Tryz.isAgg5
 z5:=Tryz.sizeOf5
 v5:=Tryz.zeroValue5
 infoByte:=by kernel_rfl
 cellsByte:=by kernel_rfl
 sizeByte:=by kernel_rfl
 neB5:=by decide}
open Go.RowKit in
theorem Tryz.strings_Join_none(a:Option Addr)(c:Nat)(sep:ByteArray)(w:World):
  Calls Tryz.prog 73 #[.slice a 0 c,.string sep] w fun e w'=>e= .returned (.string ⟨#[]⟩)∧w'=w:=Any.strings_Join_none Tryz.aiJ Tryz.nP a c sep w
open Go.RowKit in
theorem Tryz.strings_Join(bk o c:Nat)(xs:List ByteArray)(sep:ByteArray)(w:World)(hcells:∀(j:Nat) x,xs[j]? =some x→w.cell? ⟨bk,o+j,none⟩=some (.string x))(hbk:bk < w.heap.size)(hN:xs.length≤140737488355328)(hcap:xs.length≤c)(hlen:(Lib.join (xs.map (·.data.toList)) sep.data.toList).length≤140737488355328):
  Calls Tryz.prog 73 #[.slice (some ⟨bk,o,none⟩) xs.length c,.string sep] w fun e w'=>e= .returned (.string ⟨(Lib.join (xs.map (·.data.toList)) sep.data.toList).toArray⟩)∧Below w.heap.size w w':=Any.strings_Join Tryz.aiJ Tryz.nP bk o c xs sep w hcells hbk hN hcap hlen
def Tryz.aeu:Go.Shelf.Ren:=⟨fun|161=>104|231=>150|227=>151|233=>152|235=>153|228=>189|197=>190|151=>191|260=>219|152=>220|137=>115|119=>260|224=>261|225=>262|217=>162|266=>200|n=>n,fun|9=>9|4=>4|3=>3|5=>5|117=>185|116=>184|0=>0|124=>188|105=>215|21=>21|119=>264|46=>194|139=>267|138=>266|n=>n,fun|3=>1|4=>2|n=>n⟩
theorem Tryz.aqD:Go.Proofs.Lays.n161 Tryz.prog Tryz.aeu:={
 mixed:=by kernel_rfl
 f119:=Tryz.func260.trans (congrArg some (by kernel_rfl))
 f137:=Tryz.func115.trans (congrArg some (by kernel_rfl))
 f151:=Tryz.func191.trans (congrArg some (by kernel_rfl))
 f152:=Tryz.func220.trans (congrArg some (by kernel_rfl))
 f161:=Tryz.func104.trans (congrArg some (by kernel_rfl))
 f197:=Tryz.func190.trans (congrArg some (by kernel_rfl))
 f217:=Tryz.func162.trans (congrArg some (by kernel_rfl))
 f224:=Tryz.func261.trans (congrArg some (by kernel_rfl))
 f225:=Tryz.func262.trans (congrArg some (by kernel_rfl))
 f227:=Tryz.func151.trans (congrArg some (by kernel_rfl))
 f228:=Tryz.func189.trans (congrArg some (by kernel_rfl))
 f231:=Tryz.func150.trans (congrArg some (by kernel_rfl))
 f233:=Tryz.func152.trans (congrArg some (by kernel_rfl))
 f235:=Tryz.func153.trans (congrArg some (by kernel_rfl))
 f260:=Tryz.func219.trans (congrArg some (by kernel_rfl))
 f266:=Tryz.func200.trans (congrArg some (by kernel_rfl))
 t0:=Tryz.underlying0
 a0:=Tryz.isAgg0
 z0:=Tryz.sizeOf0
 v0:=Tryz.zeroValue0
 t3:=Tryz.underlying3
 a3:=Tryz.isAgg3
 z3:=Tryz.sizeOf3
 v3:=Tryz.zeroValue3
 t4:=Tryz.underlying4
 a4:=Tryz.isAgg4
 z4:=Tryz.sizeOf4
 v4:=Tryz.zeroValue4
 t5:=Tryz.underlying5
 a5:=Tryz.isAgg5
 z5:=Tryz.sizeOf5
 v5:=Tryz.zeroValue5
 t9:=Tryz.underlying9
 a9:=Tryz.isAgg9
 z9:=Tryz.sizeOf9
 v9:=Tryz.zeroValue9
 t21:=Tryz.underlying21
 a21:=Tryz.isAgg21
 z21:=Tryz.sizeOf21
 v21:=Tryz.zeroValue21
 t46:=Tryz.underlying194
 a46:=Tryz.isAgg194
 z46:=Tryz.sizeOf194
 v46:=Tryz.zeroValue194
 t105:=Tryz.underlying215
 a105:=Tryz.isAgg215
 z105:=Tryz.sizeOf215
 v105:=Tryz.zeroValue215
 t116:=Tryz.underlying184
 a116:=Tryz.isAgg184
 z116:=Tryz.sizeOf184
 t117:=Tryz.underlying185
 a117:=Tryz.isAgg185
 z117:=Tryz.sizeOf185
 v117:=Tryz.zeroValue185
 t119:=Tryz.underlying264
 a119:=Tryz.isAgg264
 z119:=Tryz.sizeOf264
 t124:=Tryz.underlying188
 a124:=Tryz.isAgg188
 z124:=Tryz.sizeOf188
 v124:=Tryz.zeroValue188
 t138:=Tryz.underlying266
 a138:=Tryz.isAgg266
 z138:=Tryz.sizeOf266
 v138:=Tryz.zeroValue266
 t139:=Tryz.underlying267
 a139:=Tryz.isAgg267
 z139:=Tryz.sizeOf267
 v139:=Tryz.zeroValue267
 g3:=by kernel_rfl
 g4:=by kernel_rfl}
open Go.RowKit in
theorem Tryz.strings_TrimLeft_one(s:ByteArray)(c:UInt8)(hc:c.toNat < 128)(w:World):
  Calls Tryz.prog 104 #[.string s,.string ⟨#[c]⟩] w fun e w'=>e= .returned (.string ⟨(Lib.trimLeftB s.data.toList c).toArray⟩)∧w'=w:=Any.strings_TrimLeft_one Tryz.aqD s c hc w
def Tryz.agd:Go.Shelf.Ren:=⟨fun|137=>115|217=>162|266=>200|n=>n,fun|9=>9|5=>5|3=>3|n=>n,fun|n=>n⟩
theorem Tryz.ap2:Go.Proofs.Lays.n137 Tryz.prog Tryz.agd:={
 mixed:=by kernel_rfl
 f137:=Tryz.func115.trans (congrArg some (by kernel_rfl))
 f217:=Tryz.func162.trans (congrArg some (by kernel_rfl))
 f266:=Tryz.func200.trans (congrArg some (by kernel_rfl))
 t3:=Tryz.underlying3
 a3:=Tryz.isAgg3
 z3:=Tryz.sizeOf3
 v3:=Tryz.zeroValue3
 t5:=Tryz.underlying5
 a5:=Tryz.isAgg5
 z5:=Tryz.sizeOf5
 v5:=Tryz.zeroValue5
 t9:=Tryz.underlying9
 a9:=Tryz.isAgg9
 z9:=Tryz.sizeOf9
 v9:=Tryz.zeroValue9}
open Go.RowKit in
theorem Tryz.strings_IndexByte(s:ByteArray)(c:Int)(w:World):
  Calls Tryz.prog 115 #[.string s,.int .u8 c] w fun e w'=>e= .returned (.int .i64 (Lib.indexByte s.data.toList c.toNat.toUInt8))∧w'=w:=Any.strings_IndexByte Tryz.ap2 s c w
def Tryz.ae1:Go.Shelf.Ren:=⟨fun|144=>164|143=>201|219=>230|217=>162|225=>262|224=>261|267=>266|266=>200|314=>354|n=>n,fun|9=>9|4=>4|3=>3|5=>5|46=>194|146=>353|51=>352|n=>n,fun|1=>0|n=>n⟩
theorem Tryz.aiX:Go.Proofs.Lays.n144 Tryz.prog Tryz.ae1:={
 mixed:=by kernel_rfl
 f143:=Tryz.func201.trans (congrArg some (by kernel_rfl))
 f144:=Tryz.func164.trans (congrArg some (by kernel_rfl))
 f217:=Tryz.func162.trans (congrArg some (by kernel_rfl))
 f219:=Tryz.func230.trans (congrArg some (by kernel_rfl))
 f224:=Tryz.func261.trans (congrArg some (by kernel_rfl))
 f225:=Tryz.func262.trans (congrArg some (by kernel_rfl))
 f266:=Tryz.func200.trans (congrArg some (by kernel_rfl))
 f267:=Tryz.func266.trans (congrArg some (by kernel_rfl))
 f314:=Tryz.func354.trans (congrArg some (by kernel_rfl))
 t3:=Tryz.underlying3
 a3:=Tryz.isAgg3
 z3:=Tryz.sizeOf3
 v3:=Tryz.zeroValue3
 t4:=Tryz.underlying4
 a4:=Tryz.isAgg4
 z4:=Tryz.sizeOf4
 v4:=Tryz.zeroValue4
 t5:=Tryz.underlying5
 a5:=Tryz.isAgg5
 z5:=Tryz.sizeOf5
 v5:=Tryz.zeroValue5
 t9:=Tryz.underlying9
 a9:=Tryz.isAgg9
 z9:=Tryz.sizeOf9
 v9:=Tryz.zeroValue9
 t46:=Tryz.underlying194
 a46:=Tryz.isAgg194
 z46:=Tryz.sizeOf194
 v46:=Tryz.zeroValue194
 t51:=Tryz.underlying352
 a51:=Tryz.isAgg352
 z51:=Tryz.sizeOf352
 v51:=Tryz.zeroValue352
 t146:=Tryz.underlying353
 a146:=Tryz.isAgg353
 z146:=Tryz.sizeOf353
 v146:=Tryz.zeroValue353
 g1:=by kernel_rfl}
open Go.RowKit Go.Lib in
theorem Tryz.strings_Contains_one(s:ByteArray)(c:UInt8)(w:World):
  Calls Tryz.prog 164 #[.string s,.string ⟨#[c]⟩] w fun e w'=>e= .returned (.bool (decide (0≤Lib.indexByte s.data.toList c)))∧w'=w:=Any.strings_Contains_one Tryz.aiX s c w
open Go.RowKit Go.Lib in
theorem Tryz.strings_Contains(s sub:ByteArray)(m:Int)(w:World)(hs:s.size < 4294967281)(hm:w.cell? ⟨0,0,none⟩=some (.int .i64 m)):
  Calls Tryz.prog 164 #[.string s,.string sub] w fun e w'=>e= .returned (.bool (Lib.contains s.data.toList sub.data.toList))∧w'=w:=Any.strings_Contains Tryz.aiX s sub m w hs hm
def Tryz.acY:Go.Shelf.Ren:=⟨fun|144=>164|143=>201|219=>230|217=>162|225=>262|224=>261|267=>266|266=>200|314=>354|n=>n,fun|9=>9|4=>4|3=>3|5=>5|46=>194|146=>353|51=>352|n=>n,fun|1=>0|n=>n⟩
theorem Tryz.laysM144:Go.Proofs.LaysM.n144 Tryz.prog Tryz.acY:={
 mixed:=by kernel_rfl
 f143:=Tryz.func201.trans (congrArg some (by kernel_rfl))
 f144:=Tryz.func164.trans (congrArg some (by kernel_rfl))
 f217:=Tryz.func162.trans (congrArg some (by kernel_rfl))
 f219:=Tryz.func230.trans (congrArg some (by kernel_rfl))
 f224:=Tryz.func261.trans (congrArg some (by kernel_rfl))
 f225:=Tryz.func262.trans (congrArg some (by kernel_rfl))
 f266:=Tryz.func200.trans (congrArg some (by kernel_rfl))
 f267:=Tryz.func266.trans (congrArg some (by kernel_rfl))
 f314:=Tryz.func354.trans (congrArg some (by kernel_rfl))
 t3:=Tryz.underlying3
 a3:=Tryz.isAgg3
 z3:=Tryz.sizeOf3
 v3:=Tryz.zeroValue3
 t4:=Tryz.underlying4
 a4:=Tryz.isAgg4
 z4:=Tryz.sizeOf4
 v4:=Tryz.zeroValue4
 t5:=Tryz.underlying5
 a5:=Tryz.isAgg5
 z5:=Tryz.sizeOf5
 v5:=Tryz.zeroValue5
 t9:=Tryz.underlying9
 a9:=Tryz.isAgg9
 z9:=Tryz.sizeOf9
 v9:=Tryz.zeroValue9
 t46:=Tryz.underlying194
 a46:=Tryz.isAgg194
 z46:=Tryz.sizeOf194
 v46:=Tryz.zeroValue194
 t51:=Tryz.underlying352
 a51:=Tryz.isAgg352
 z51:=Tryz.sizeOf352
 v51:=Tryz.zeroValue352
 t146:=Tryz.underlying353
 a146:=Tryz.isAgg353
 z146:=Tryz.sizeOf353
 v146:=Tryz.zeroValue353
 g1:=by kernel_rfl
 i3:=by kernel_rfl
 i4:=by kernel_rfl
 i5:=by kernel_rfl
 i9:=by kernel_rfl
 i46:=by kernel_rfl
 i51:=by kernel_rfl
 i146:=by kernel_rfl
 m1:=by kernel_rfl
 s1_3:=fun w h=>Go.Proofs.cell_of_shapedOpen_int (zero:= #[.int .i64 0]) (t:=3) h (of_decide_eq_true (by kernel_rfl)) (by kernel_rfl) rfl (by kernel_rfl) (by kernel_rfl) Tryz.underlying3}
end Go.Proofs