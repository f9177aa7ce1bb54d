import Derived.Shelf.Strings.Builder1
import Derived.Shelf.Strings.Builder2
import Derived.Shelf.Strings.OnBuilder
import Derived.Shelf.Strings.Trim
import Derived.Shelf.Small.Utf8
import Derived.Shelf.Small.Bits
import Derived.Shelf.Small.Strs
import Derived.Shelf.Strconv.Itoa0
import Derived.Shelf.Strings.Search1
import Derived.Shelf.Strings.Search2
import Derived.Shelf.Strings.Search3
import Derived.Shelf.LaysM
import Derived.Shelf.Strings.Shaped
import Derived.Shelf.Unicode.Decode
import Derived.Shelf.Strings.Runes
import Derived.Shelf.Strings.AsciiSet
import Derived.Shelf.Bits.Mul64
import Derived.Shelf.Unicode.DecodeSlow
import Derived.Shelf.Unicode.DecodeAny
import Derived.Ground.SlgnProg
import Derived.Shelf.SlicesE.Clone
import Derived.Test.YtegehclknhmkgaaGreatDoorProg
set_option linter.unusedVariables false
set_option linter.unusedSimpArgs false
namespace Go.Proofs
open Go.Shelf
def Tryz.xX:Go.Shelf.Ren:=⟨fun|156=>62|165=>103|166=>104|169=>21|240=>156|241=>157|276=>200|277=>201|n=>n,fun|31=>110|9=>9|3=>3|4=>4|0=>0|20=>20|72=>70|76=>156|70=>67|37=>68|75=>155|127=>99|164=>224|5=>5|80=>73|n=>n,fun|n=>n⟩
theorem Tryz.ajo:Go.Proofs.Lays.n156 Tryz.prog Tryz.xX:={
 mixed:=by kernel_rfl
 f156:=Tryz.func62.trans (congrArg some (by kernel_rfl))
 f165:=Tryz.func103.trans (congrArg some (by kernel_rfl))
 f166:=Tryz.func104.trans (congrArg some (by kernel_rfl))
 f169:=Tryz.func21.trans (congrArg some (by kernel_rfl))
 f240:=Tryz.func156.trans (congrArg some (by kernel_rfl))
 f241:=Tryz.func157.trans (congrArg some (by kernel_rfl))
 f276:=Tryz.func200.trans (congrArg some (by kernel_rfl))
 f277:=Tryz.func201.trans (congrArg some (by kernel_rfl))
 t0:=Tryz.underlying0
 a0:=Tryz.isAgg0
 z0:=Tryz.sizeOf0
 v0:=Tryz.zeroValue0
 t3:=Tryz.underlying3
 a3:=Tryz.isAgg3
 z3:=Tryz.sizeOf3
 v3:=Tryz.zeroValue3
 t4:=Tryz.underlying4
 a4:=Tryz.isAgg4
 z4:=Tryz.sizeOf4
 v4:=Tryz.zeroValue4
 t9:=Tryz.underlying9
 a9:=Tryz.isAgg9
 z9:=Tryz.sizeOf9
 v9:=Tryz.zeroValue9
 t20:=Tryz.underlying20
 a20:=Tryz.isAgg20
 z20:=Tryz.sizeOf20
 v20:=Tryz.zeroValue20
 t31:=Tryz.underlying110
 a31:=Tryz.isAgg110
 z31:=Tryz.sizeOf110
 v31:=Tryz.zeroValue110
 t37:=Tryz.underlying68
 a37:=Tryz.isAgg68
 z37:=Tryz.sizeOf68
 v37:=Tryz.zeroValue68
 t70:=Tryz.underlying67
 a70:=Tryz.isAgg67
 z70:=Tryz.sizeOf67
 v70:=Tryz.zeroValue67
 t72:=Tryz.underlying70
 a72:=Tryz.isAgg70
 z72:=Tryz.sizeOf70
 v72:=Tryz.zeroValue70
 t75:=Tryz.underlying155
 a75:=Tryz.isAgg155
 z75:=Tryz.sizeOf155
 v75:=Tryz.zeroValue155
 t76:=Tryz.underlying156
 a76:=Tryz.isAgg156
 z76:=Tryz.sizeOf156
 v76:=Tryz.zeroValue156
 t127:=Tryz.underlying99
 a127:=Tryz.isAgg99
 z127:=Tryz.sizeOf99
 v127:=Tryz.zeroValue99
 t164:=Tryz.underlying224
 a164:=Tryz.isAgg224
 z164:=Tryz.sizeOf224
 v164:=Tryz.zeroValue224}
theorem Tryz.mP:Builder.Extra Tryz.prog Tryz.xX:={
 sizeBuilder:=by kernel_rfl
 liesBuilder:=by kernel_rfl
 t5:=Tryz.underlying5
 a5:=Tryz.isAgg5
 z5:=Tryz.sizeOf5
 v5:=Tryz.zeroValue5
 infoByte:=by kernel_rfl
 cellsByte:=by kernel_rfl
 sizeByte:=by kernel_rfl
 neB5:=by decide}
open Go.RowKit in
theorem Tryz.strings_Join_none(a:Option Addr)(c:Nat)(sep:ByteArray)(w:World):
  Calls Tryz.prog 62 #[.slice a 0 c,.string sep] w fun e w'=>e= .returned (.string ⟨#[]⟩)∧w'=w:=Any.strings_Join_none Tryz.ajo Tryz.mP a c sep w
open Go.RowKit in
theorem Tryz.strings_Join(bk o c:Nat)(xs:List ByteArray)(sep:ByteArray)(w:World)(hcells:∀(j:Nat) x,xs[j]? =some x→w.cell? ⟨bk,o+j,none⟩=some (.string x))(hbk:bk < w.heap.size)(hN:xs.length≤140737488355328)(hcap:xs.length≤c)(hlen:(Lib.join (xs.map (·.data.toList)) sep.data.toList).length≤140737488355328):
  Calls Tryz.prog 62 #[.slice (some ⟨bk,o,none⟩) xs.length c,.string sep] w fun e w'=>e= .returned (.string ⟨(Lib.join (xs.map (·.data.toList)) sep.data.toList).toArray⟩)∧Below w.heap.size w w':=Any.strings_Join Tryz.ajo Tryz.mP bk o c xs sep w hcells hbk hN hcap hlen
def Tryz.agq:Go.Shelf.Ren:=⟨fun|161=>36|231=>72|227=>73|233=>74|235=>75|228=>116|197=>117|151=>118|260=>163|152=>164|137=>127|119=>205|224=>206|225=>207|217=>175|266=>214|n=>n,fun|9=>9|4=>4|3=>3|5=>5|117=>125|116=>124|0=>0|124=>128|105=>171|21=>21|119=>229|46=>169|139=>232|138=>231|n=>n,fun|3=>0|4=>1|n=>n⟩
theorem Tryz.aqm:Go.Proofs.Lays.n161 Tryz.prog Tryz.agq:={
 mixed:=by kernel_rfl
 f119:=Tryz.func205.trans (congrArg some (by kernel_rfl))
 f137:=Tryz.func127.trans (congrArg some (by kernel_rfl))
 f151:=Tryz.func118.trans (congrArg some (by kernel_rfl))
 f152:=Tryz.func164.trans (congrArg some (by kernel_rfl))
 f161:=Tryz.func36.trans (congrArg some (by kernel_rfl))
 f197:=Tryz.func117.trans (congrArg some (by kernel_rfl))
 f217:=Tryz.func175.trans (congrArg some (by kernel_rfl))
 f224:=Tryz.func206.trans (congrArg some (by kernel_rfl))
 f225:=Tryz.func207.trans (congrArg some (by kernel_rfl))
 f227:=Tryz.func73.trans (congrArg some (by kernel_rfl))
 f228:=Tryz.func116.trans (congrArg some (by kernel_rfl))
 f231:=Tryz.func72.trans (congrArg some (by kernel_rfl))
 f233:=Tryz.func74.trans (congrArg some (by kernel_rfl))
 f235:=Tryz.func75.trans (congrArg some (by kernel_rfl))
 f260:=Tryz.func163.trans (congrArg some (by kernel_rfl))
 f266:=Tryz.func214.trans (congrArg some (by kernel_rfl))
 t0:=Tryz.underlying0
 a0:=Tryz.isAgg0
 z0:=Tryz.sizeOf0
 v0:=Tryz.zeroValue0
 t3:=Tryz.underlying3
 a3:=Tryz.isAgg3
 z3:=Tryz.sizeOf3
 v3:=Tryz.zeroValue3
 t4:=Tryz.underlying4
 a4:=Tryz.isAgg4
 z4:=Tryz.sizeOf4
 v4:=Tryz.zeroValue4
 t5:=Tryz.underlying5
 a5:=Tryz.isAgg5
 z5:=Tryz.sizeOf5
 v5:=Tryz.zeroValue5
 t9:=Tryz.underlying9
 a9:=Tryz.isAgg9
 z9:=Tryz.sizeOf9
 v9:=Tryz.zeroValue9
 t21:=Tryz.underlying21
 a21:=Tryz.isAgg21
 z21:=Tryz.sizeOf21
 v21:=Tryz.zeroValue21
 t46:=Tryz.underlying169
 a46:=Tryz.isAgg169
 z46:=Tryz.sizeOf169
 v46:=Tryz.zeroValue169
 t105:=Tryz.underlying171
 a105:=Tryz.isAgg171
 z105:=Tryz.sizeOf171
 v105:=Tryz.zeroValue171
 t116:=Tryz.underlying124
 a116:=Tryz.isAgg124
 z116:=Tryz.sizeOf124
 t117:=Tryz.underlying125
 a117:=Tryz.isAgg125
 z117:=Tryz.sizeOf125
 v117:=Tryz.zeroValue125
 t119:=Tryz.underlying229
 a119:=Tryz.isAgg229
 z119:=Tryz.sizeOf229
 t124:=Tryz.underlying128
 a124:=Tryz.isAgg128
 z124:=Tryz.sizeOf128
 v124:=Tryz.zeroValue128
 t138:=Tryz.underlying231
 a138:=Tryz.isAgg231
 z138:=Tryz.sizeOf231
 v138:=Tryz.zeroValue231
 t139:=Tryz.underlying232
 a139:=Tryz.isAgg232
 z139:=Tryz.sizeOf232
 v139:=Tryz.zeroValue232
 g3:=by kernel_rfl
 g4:=by kernel_rfl}
open Go.RowKit in
theorem Tryz.strings_TrimLeft_one(s:ByteArray)(c:UInt8)(hc:c.toNat < 128)(w:World):
  Calls Tryz.prog 36 #[.string s,.string ⟨#[c]⟩] w fun e w'=>e= .returned (.string ⟨(Lib.trimLeftB s.data.toList c).toArray⟩)∧w'=w:=Any.strings_TrimLeft_one Tryz.aqm s c hc w
def Tryz.afG:Go.Shelf.Ren:=⟨fun|137=>127|217=>175|266=>214|n=>n,fun|9=>9|5=>5|3=>3|n=>n,fun|n=>n⟩
theorem Tryz.ar6:Go.Proofs.Lays.n137 Tryz.prog Tryz.afG:={
 mixed:=by kernel_rfl
 f137:=Tryz.func127.trans (congrArg some (by kernel_rfl))
 f217:=Tryz.func175.trans (congrArg some (by kernel_rfl))
 f266:=Tryz.func214.trans (congrArg some (by kernel_rfl))
 t3:=Tryz.underlying3
 a3:=Tryz.isAgg3
 z3:=Tryz.sizeOf3
 v3:=Tryz.zeroValue3
 t5:=Tryz.underlying5
 a5:=Tryz.isAgg5
 z5:=Tryz.sizeOf5
 v5:=Tryz.zeroValue5
 t9:=Tryz.underlying9
 a9:=Tryz.isAgg9
 z9:=Tryz.sizeOf9
 v9:=Tryz.zeroValue9}
open Go.RowKit in
theorem Tryz.strings_IndexByte(s:ByteArray)(c:Int)(w:World):
  Calls Tryz.prog 127 #[.string s,.int .u8 c] w fun e w'=>e= .returned (.int .i64 (Lib.indexByte s.data.toList c.toNat.toUInt8))∧w'=w:=Any.strings_IndexByte Tryz.ar6 s c w
def Tryz.aeL:Go.Shelf.Ren:=⟨fun|144=>177|143=>215|219=>233|217=>175|225=>207|224=>206|267=>261|266=>214|314=>349|n=>n,fun|9=>9|4=>4|3=>3|5=>5|46=>169|146=>353|51=>352|n=>n,fun|1=>4|n=>n⟩
theorem Tryz.aiw:Go.Proofs.Lays.n144 Tryz.prog Tryz.aeL:={
 mixed:=by kernel_rfl
 f143:=Tryz.func215.trans (congrArg some (by kernel_rfl))
 f144:=Tryz.func177.trans (congrArg some (by kernel_rfl))
 f217:=Tryz.func175.trans (congrArg some (by kernel_rfl))
 f219:=Tryz.func233.trans (congrArg some (by kernel_rfl))
 f224:=Tryz.func206.trans (congrArg some (by kernel_rfl))
 f225:=Tryz.func207.trans (congrArg some (by kernel_rfl))
 f266:=Tryz.func214.trans (congrArg some (by kernel_rfl))
 f267:=Tryz.func261.trans (congrArg some (by kernel_rfl))
 f314:=Tryz.func349.trans (congrArg some (by kernel_rfl))
 t3:=Tryz.underlying3
 a3:=Tryz.isAgg3
 z3:=Tryz.sizeOf3
 v3:=Tryz.zeroValue3
 t4:=Tryz.underlying4
 a4:=Tryz.isAgg4
 z4:=Tryz.sizeOf4
 v4:=Tryz.zeroValue4
 t5:=Tryz.underlying5
 a5:=Tryz.isAgg5
 z5:=Tryz.sizeOf5
 v5:=Tryz.zeroValue5
 t9:=Tryz.underlying9
 a9:=Tryz.isAgg9
 z9:=Tryz.sizeOf9
 v9:=Tryz.zeroValue9
 t46:=Tryz.underlying169
 a46:=Tryz.isAgg169
 z46:=Tryz.sizeOf169
 v46:=Tryz.zeroValue169
 t51:=Tryz.underlying352
 a51:=Tryz.isAgg352
 z51:=Tryz.sizeOf352
 v51:=Tryz.zeroValue352
 t146:=Tryz.underlying353
 a146:=Tryz.isAgg353
 z146:=Tryz.sizeOf353
 v146:=Tryz.zeroValue353
 g1:=by kernel_rfl}
open Go.RowKit Go.Lib in
theorem Tryz.strings_Contains_one(s:ByteArray)(c:UInt8)(w:World):
  Calls Tryz.prog 177 #[.string s,.string ⟨#[c]⟩] w fun e w'=>e= .returned (.bool (decide (0≤Lib.indexByte s.data.toList c)))∧w'=w:=Any.strings_Contains_one Tryz.aiw s c w
open Go.RowKit Go.Lib in
theorem Tryz.strings_Contains(s sub:ByteArray)(m:Int)(w:World)(hs:s.size < 4294967281)(hm:w.cell? ⟨4,0,none⟩=some (.int .i64 m)):
  Calls Tryz.prog 177 #[.string s,.string sub] w fun e w'=>e= .returned (.bool (Lib.contains s.data.toList sub.data.toList))∧w'=w:=Any.strings_Contains Tryz.aiw s sub m w hs hm
def Tryz.adP:Go.Shelf.Ren:=⟨fun|144=>177|143=>215|219=>233|217=>175|225=>207|224=>206|267=>261|266=>214|314=>349|n=>n,fun|9=>9|4=>4|3=>3|5=>5|46=>169|146=>353|51=>352|n=>n,fun|1=>4|n=>n⟩
theorem Tryz.laysM144:Go.Proofs.LaysM.n144 Tryz.prog Tryz.adP:={
 mixed:=by kernel_rfl
 f143:=Tryz.func215.trans (congrArg some (by kernel_rfl))
 f144:=Tryz.func177.trans (congrArg some (by kernel_rfl))
 f217:=Tryz.func175.trans (congrArg some (by kernel_rfl))
 f219:=Tryz.func233.trans (congrArg some (by kernel_rfl))
 f224:=Tryz.func206.trans (congrArg some (by kernel_rfl))
 f225:=Tryz.func207.trans (congrArg some (by kernel_rfl))
 f266:=Tryz.func214.trans (congrArg some (by kernel_rfl))
 f267:=Tryz.func261.trans (congrArg some (by kernel_rfl))
 f314:=Tryz.func349.trans (congrArg some (by kernel_rfl))
 t3:=Tryz.underlying3
 a3:=Tryz.isAgg3
 z3:=Tryz.sizeOf3
 v3:=Tryz.zeroValue3
 t4:=Tryz.underlying4
 a4:=Tryz.isAgg4
 z4:=Tryz.sizeOf4
 v4:=Tryz.zeroValue4
 t5:=Tryz.underlying5
 a5:=Tryz.isAgg5
 z5:=Tryz.sizeOf5
 v5:=Tryz.zeroValue5
 t9:=Tryz.underlying9
 a9:=Tryz.isAgg9
 z9:=Tryz.sizeOf9
 v9:=Tryz.zeroValue9
 t46:=Tryz.underlying169
 a46:=Tryz.isAgg169
 z46:=Tryz.sizeOf169
 v46:=Tryz.zeroValue169
 t51:=Tryz.underlying352
 a51:=Tryz.isAgg352
 z51:=Tryz.sizeOf352
 v51:=Tryz.zeroValue352
 t146:=Tryz.underlying353
 a146:=Tryz.isAgg353
 z146:=Tryz.sizeOf353
 v146:=Tryz.zeroValue353
 g1:=by kernel_rfl
 i3:=by kernel_rfl
 i4:=by kernel_rfl
 i5:=by kernel_rfl
 i9:=by kernel_rfl
 i46:=by kernel_rfl
 i51:=by kernel_rfl
 i146:=by kernel_rfl
 m1:=by kernel_rfl
 s1_3:=fun w h=>Go.Proofs.cell_of_shapedOpen_int (zero:= #[.int .i64 0]) (t:=3) h (of_decide_eq_true (by kernel_rfl)) (by kernel_rfl) rfl (by kernel_rfl) (by kernel_rfl) Tryz.underlying3}
end Go.Proofs