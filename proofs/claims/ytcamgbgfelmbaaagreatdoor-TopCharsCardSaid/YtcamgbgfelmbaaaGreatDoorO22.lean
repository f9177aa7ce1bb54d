import Derived.Shelf.Strings.Builder1
import Derived.Shelf.Strings.Builder2
import Derived.Shelf.Strings.OnBuilder
import Derived.Shelf.Strings.Trim
import Derived.Shelf.Small.Utf8
import Derived.Shelf.Small.Strs
import Derived.Shelf.Strings.Search1
import Derived.Shelf.Strings.Search2
import Derived.Shelf.Strings.Search3
import Derived.Shelf.LaysM
import Derived.Shelf.Strings.Shaped
import Derived.Shelf.Strings.Runes
import Derived.Shelf.Strings.AsciiSet
import Derived.Shelf.Bits.Mul64
import Derived.Shelf.Unicode.DecodeSlow
import Derived.Test.YtcamgbgfelmbaaaGreatDoorProg
set_option linter.unusedVariables false
set_option linter.unusedSimpArgs false
namespace Go.Proofs
open Go.Shelf
def Tryz.aaM:Go.Shelf.Ren:=⟨fun|156=>81|165=>125|166=>126|169=>24|240=>175|241=>176|276=>204|277=>205|n=>n,fun|31=>142|9=>9|3=>3|4=>4|0=>0|20=>20|72=>77|76=>176|70=>74|37=>75|75=>175|127=>99|164=>238|5=>5|80=>80|n=>n,fun|n=>n⟩
theorem Tryz.alZ:Go.Proofs.Lays.n156 Tryz.prog Tryz.aaM:={
 mixed:=by kernel_rfl
 f156:=Tryz.func81.trans (congrArg some (by kernel_rfl))
 f165:=Tryz.func125.trans (congrArg some (by kernel_rfl))
 f166:=Tryz.func126.trans (congrArg some (by kernel_rfl))
 f169:=Tryz.func24.trans (congrArg some (by kernel_rfl))
 f240:=Tryz.func175.trans (congrArg some (by kernel_rfl))
 f241:=Tryz.func176.trans (congrArg some (by kernel_rfl))
 f276:=Tryz.func204.trans (congrArg some (by kernel_rfl))
 f277:=Tryz.func205.trans (congrArg some (by kernel_rfl))
 t0:=Tryz.underlying0
 a0:=Tryz.isAgg0
 z0:=Tryz.sizeOf0
 v0:=Tryz.zeroValue0
 t3:=Tryz.underlying3
 a3:=Tryz.isAgg3
 z3:=Tryz.sizeOf3
 v3:=Tryz.zeroValue3
 t4:=Tryz.underlying4
 a4:=Tryz.isAgg4
 z4:=Tryz.sizeOf4
 v4:=Tryz.zeroValue4
 t9:=Tryz.underlying9
 a9:=Tryz.isAgg9
 z9:=Tryz.sizeOf9
 v9:=Tryz.zeroValue9
 t20:=Tryz.underlying20
 a20:=Tryz.isAgg20
 z20:=Tryz.sizeOf20
 v20:=Tryz.zeroValue20
 t31:=Tryz.underlying142
 a31:=Tryz.isAgg142
 z31:=Tryz.sizeOf142
 v31:=Tryz.zeroValue142
 t37:=Tryz.underlying75
 a37:=Tryz.isAgg75
 z37:=Tryz.sizeOf75
 v37:=Tryz.zeroValue75
 t70:=Tryz.underlying74
 a70:=Tryz.isAgg74
 z70:=Tryz.sizeOf74
 v70:=Tryz.zeroValue74
 t72:=Tryz.underlying77
 a72:=Tryz.isAgg77
 z72:=Tryz.sizeOf77
 v72:=Tryz.zeroValue77
 t75:=Tryz.underlying175
 a75:=Tryz.isAgg175
 z75:=Tryz.sizeOf175
 v75:=Tryz.zeroValue175
 t76:=Tryz.underlying176
 a76:=Tryz.isAgg176
 z76:=Tryz.sizeOf176
 v76:=Tryz.zeroValue176
 t127:=Tryz.underlying99
 a127:=Tryz.isAgg99
 z127:=Tryz.sizeOf99
 v127:=Tryz.zeroValue99
 t164:=Tryz.underlying238
 a164:=Tryz.isAgg238
 z164:=Tryz.sizeOf238
 v164:=Tryz.zeroValue238}
theorem Tryz.oV:Builder.Extra Tryz.prog Tryz.aaM:={
 sizeBuilder:=by kernel_rfl
 liesBuilder:=by kernel_rfl
 t5:=Tryz.underlying5
 a5:=Tryz.isAgg5
 z5:=Tryz.sizeOf5
 v5:=Tryz.zeroValue5
 infoByte:=by kernel_rfl
 cellsByte:=by kernel_rfl
 sizeByte:=by kernel_rfl
 neB5:=by decide}
open Go.RowKit in
theorem Tryz.strings_Join_none(a:Option Addr)(c:Nat)(sep:ByteArray)(w:World):
  Calls Tryz.prog 81 #[.slice a 0 c,.string sep] w fun e w'=>e= .returned (.string ⟨#[]⟩)/\w'=w:=Any.strings_Join_none Tryz.alZ Tryz.oV a c sep w
open Go.RowKit in
theorem Tryz.strings_Join(bk o c:Nat)(xs:List ByteArray)(sep:ByteArray)(w:World)(hcells:∀(j:Nat) x,xs[j]? =some x->w.cell? ⟨bk,o+j,none⟩=some (.string x))(hbk:bk < w.heap.size)(hN:xs.length<=140737488355328)(hcap:xs.length<=c)(hlen:(Lib.join (xs.map (·.data.toList)) sep.data.toList).length<=140737488355328):
  Calls Tryz.prog 81 #[.slice (some ⟨bk,o,none⟩) xs.length c,.string sep] w fun e w'=>e= .returned (.string ⟨(Lib.join (xs.map (·.data.toList)) sep.data.toList).toArray⟩)/\Below w.heap.size w w':=Any.strings_Join Tryz.alZ Tryz.oV bk o c xs sep w hcells hbk hN hcap hlen
def Tryz.aiY:Go.Shelf.Ren:=⟨fun|161=>32|231=>51|227=>52|233=>53|235=>54|228=>86|197=>87|151=>88|260=>138|152=>139|137=>96|119=>181|224=>182|225=>183|217=>144|266=>185|n=>n,fun|9=>9|4=>4|3=>3|5=>5|117=>110|116=>109|0=>0|124=>113|105=>151|21=>21|119=>214|46=>149|139=>217|138=>216|n=>n,fun|3=>0|4=>1|n=>n⟩
theorem Tryz.aw6:Go.Proofs.Lays.n161 Tryz.prog Tryz.aiY:={
 mixed:=by kernel_rfl
 f119:=Tryz.func181.trans (congrArg some (by kernel_rfl))
 f137:=Tryz.func96.trans (congrArg some (by kernel_rfl))
 f151:=Tryz.func88.trans (congrArg some (by kernel_rfl))
 f152:=Tryz.func139.trans (congrArg some (by kernel_rfl))
 f161:=Tryz.func32.trans (congrArg some (by kernel_rfl))
 f197:=Tryz.func87.trans (congrArg some (by kernel_rfl))
 f217:=Tryz.func144.trans (congrArg some (by kernel_rfl))
 f224:=Tryz.func182.trans (congrArg some (by kernel_rfl))
 f225:=Tryz.func183.trans (congrArg some (by kernel_rfl))
 f227:=Tryz.func52.trans (congrArg some (by kernel_rfl))
 f228:=Tryz.func86.trans (congrArg some (by kernel_rfl))
 f231:=Tryz.func51.trans (congrArg some (by kernel_rfl))
 f233:=Tryz.func53.trans (congrArg some (by kernel_rfl))
 f235:=Tryz.func54.trans (congrArg some (by kernel_rfl))
 f260:=Tryz.func138.trans (congrArg some (by kernel_rfl))
 f266:=Tryz.func185.trans (congrArg some (by kernel_rfl))
 t0:=Tryz.underlying0
 a0:=Tryz.isAgg0
 z0:=Tryz.sizeOf0
 v0:=Tryz.zeroValue0
 t3:=Tryz.underlying3
 a3:=Tryz.isAgg3
 z3:=Tryz.sizeOf3
 v3:=Tryz.zeroValue3
 t4:=Tryz.underlying4
 a4:=Tryz.isAgg4
 z4:=Tryz.sizeOf4
 v4:=Tryz.zeroValue4
 t5:=Tryz.underlying5
 a5:=Tryz.isAgg5
 z5:=Tryz.sizeOf5
 v5:=Tryz.zeroValue5
 t9:=Tryz.underlying9
 a9:=Tryz.isAgg9
 z9:=Tryz.sizeOf9
 v9:=Tryz.zeroValue9
 t21:=Tryz.underlying21
 a21:=Tryz.isAgg21
 z21:=Tryz.sizeOf21
 v21:=Tryz.zeroValue21
 t46:=Tryz.underlying149
 a46:=Tryz.isAgg149
 z46:=Tryz.sizeOf149
 v46:=Tryz.zeroValue149
 t105:=Tryz.underlying151
 a105:=Tryz.isAgg151
 z105:=Tryz.sizeOf151
 v105:=Tryz.zeroValue151
 t116:=Tryz.underlying109
 a116:=Tryz.isAgg109
 z116:=Tryz.sizeOf109
 t117:=Tryz.underlying110
 a117:=Tryz.isAgg110
 z117:=Tryz.sizeOf110
 v117:=Tryz.zeroValue110
 t119:=Tryz.underlying214
 a119:=Tryz.isAgg214
 z119:=Tryz.sizeOf214
 t124:=Tryz.underlying113
 a124:=Tryz.isAgg113
 z124:=Tryz.sizeOf113
 v124:=Tryz.zeroValue113
 t138:=Tryz.underlying216
 a138:=Tryz.isAgg216
 z138:=Tryz.sizeOf216
 v138:=Tryz.zeroValue216
 t139:=Tryz.underlying217
 a139:=Tryz.isAgg217
 z139:=Tryz.sizeOf217
 v139:=Tryz.zeroValue217
 g3:=by kernel_rfl
 g4:=by kernel_rfl}
open Go.RowKit in
theorem Tryz.strings_TrimLeft_one(s:ByteArray)(c:UInt8)(hc:c.toNat < 128)(w:World):
  Calls Tryz.prog 32 #[.string s,.string ⟨#[c]⟩] w fun e w'=>e= .returned (.string ⟨(Lib.trimLeftB s.data.toList c).toArray⟩)/\w'=w:=Any.strings_TrimLeft_one Tryz.aw6 s c hc w
def Tryz.aiH:Go.Shelf.Ren:=⟨fun|137=>96|217=>144|266=>185|n=>n,fun|9=>9|5=>5|3=>3|n=>n,fun|n=>n⟩
theorem Tryz.avA:Go.Proofs.Lays.n137 Tryz.prog Tryz.aiH:={
 mixed:=by kernel_rfl
 f137:=Tryz.func96.trans (congrArg some (by kernel_rfl))
 f217:=Tryz.func144.trans (congrArg some (by kernel_rfl))
 f266:=Tryz.func185.trans (congrArg some (by kernel_rfl))
 t3:=Tryz.underlying3
 a3:=Tryz.isAgg3
 z3:=Tryz.sizeOf3
 v3:=Tryz.zeroValue3
 t5:=Tryz.underlying5
 a5:=Tryz.isAgg5
 z5:=Tryz.sizeOf5
 v5:=Tryz.zeroValue5
 t9:=Tryz.underlying9
 a9:=Tryz.isAgg9
 z9:=Tryz.sizeOf9
 v9:=Tryz.zeroValue9}
open Go.RowKit in
theorem Tryz.strings_IndexByte(s:ByteArray)(c:Int)(w:World):
  Calls Tryz.prog 96 #[.string s,.int .u8 c] w fun e w'=>e= .returned (.int .i64 (Lib.indexByte s.data.toList c.toNat.toUInt8))/\w'=w:=Any.strings_IndexByte Tryz.avA s c w
def Tryz.aiF:Go.Shelf.Ren:=⟨fun|144=>146|143=>186|219=>207|217=>144|225=>183|224=>182|267=>235|266=>185|314=>331|n=>n,fun|9=>9|4=>4|3=>3|5=>5|46=>149|146=>347|51=>346|n=>n,fun|1=>4|n=>n⟩
theorem Tryz.am0:Go.Proofs.Lays.n144 Tryz.prog Tryz.aiF:={
 mixed:=by kernel_rfl
 f143:=Tryz.func186.trans (congrArg some (by kernel_rfl))
 f144:=Tryz.func146.trans (congrArg some (by kernel_rfl))
 f217:=Tryz.func144.trans (congrArg some (by kernel_rfl))
 f219:=Tryz.func207.trans (congrArg some (by kernel_rfl))
 f224:=Tryz.func182.trans (congrArg some (by kernel_rfl))
 f225:=Tryz.func183.trans (congrArg some (by kernel_rfl))
 f266:=Tryz.func185.trans (congrArg some (by kernel_rfl))
 f267:=Tryz.func235.trans (congrArg some (by kernel_rfl))
 f314:=Tryz.func331.trans (congrArg some (by kernel_rfl))
 t3:=Tryz.underlying3
 a3:=Tryz.isAgg3
 z3:=Tryz.sizeOf3
 v3:=Tryz.zeroValue3
 t4:=Tryz.underlying4
 a4:=Tryz.isAgg4
 z4:=Tryz.sizeOf4
 v4:=Tryz.zeroValue4
 t5:=Tryz.underlying5
 a5:=Tryz.isAgg5
 z5:=Tryz.sizeOf5
 v5:=Tryz.zeroValue5
 t9:=Tryz.underlying9
 a9:=Tryz.isAgg9
 z9:=Tryz.sizeOf9
 v9:=Tryz.zeroValue9
 t46:=Tryz.underlying149
 a46:=Tryz.isAgg149
 z46:=Tryz.sizeOf149
 v46:=Tryz.zeroValue149
 t51:=Tryz.underlying346
 a51:=Tryz.isAgg346
 z51:=Tryz.sizeOf346
 v51:=Tryz.zeroValue346
 t146:=Tryz.underlying347
 a146:=Tryz.isAgg347
 z146:=Tryz.sizeOf347
 v146:=Tryz.zeroValue347
 g1:=by kernel_rfl}
open Go.RowKit Go.Lib in
theorem Tryz.strings_Contains_one(s:ByteArray)(c:UInt8)(w:World):
  Calls Tryz.prog 146 #[.string s,.string ⟨#[c]⟩] w fun e w'=>e= .returned (.bool (decide (0<=Lib.indexByte s.data.toList c)))/\w'=w:=Any.strings_Contains_one Tryz.am0 s c w
open Go.RowKit Go.Lib in
theorem Tryz.strings_Contains(s sub:ByteArray)(m:Int)(w:World)(hs:s.size < 4294967281)(hm:w.cell? ⟨4,0,none⟩=some (.int .i64 m)):
  Calls Tryz.prog 146 #[.string s,.string sub] w fun e w'=>e= .returned (.bool (Lib.contains s.data.toList sub.data.toList))/\w'=w:=Any.strings_Contains Tryz.am0 s sub m w hs hm
def Tryz.agH:Go.Shelf.Ren:=⟨fun|144=>146|143=>186|219=>207|217=>144|225=>183|224=>182|267=>235|266=>185|314=>331|n=>n,fun|9=>9|4=>4|3=>3|5=>5|46=>149|146=>347|51=>346|n=>n,fun|1=>4|n=>n⟩
theorem Tryz.laysM144:Go.Proofs.LaysM.n144 Tryz.prog Tryz.agH:={
 mixed:=by kernel_rfl
 f143:=Tryz.func186.trans (congrArg some (by kernel_rfl))
 f144:=Tryz.func146.trans (congrArg some (by kernel_rfl))
 f217:=Tryz.func144.trans (congrArg some (by kernel_rfl))
 f219:=Tryz.func207.trans (congrArg some (by kernel_rfl))
 f224:=Tryz.func182.trans (congrArg some (by kernel_rfl))
 f225:=Tryz.func183.trans (congrArg some (by kernel_rfl))
 f266:=Tryz.func185.trans (congrArg some (by kernel_rfl))
 f267:=Tryz.func235.trans (congrArg some (by kernel_rfl))
 f314:=Tryz.func331.trans (congrArg some (by kernel_rfl))
 t3:=Tryz.underlying3
 a3:=Tryz.isAgg3
 z3:=Tryz.sizeOf3
 v3:=Tryz.zeroValue3
 t4:=Tryz.underlying4
 a4:=Tryz.isAgg4
 z4:=Tryz.sizeOf4
 v4:=Tryz.zeroValue4
 t5:=Tryz.underlying5
 a5:=Tryz.isAgg5
 z5:=Tryz.sizeOf5
 v5:=Tryz.zeroValue5
 t9:=Tryz.underlying9
 a9:=Tryz.isAgg9
 z9:=Tryz.sizeOf9
 v9:=Tryz.zeroValue9
 t46:=Tryz.underlying149
 a46:=Tryz.isAgg149
 z46:=Tryz.sizeOf149
 v46:=Tryz.zeroValue149
 t51:=Tryz.underlying346
 a51:=Tryz.isAgg346
 z51:=Tryz.sizeOf346
 v51:=Tryz.zeroValue346
 t146:=Tryz.underlying347
 a146:=Tryz.isAgg347
 z146:=Tryz.sizeOf347
 v146:=Tryz.zeroValue347
 g1:=by kernel_rfl
 i3:=by kernel_rfl
 i4:=by kernel_rfl
 i5:=by kernel_rfl
 i9:=by kernel_rfl
 i46:=by kernel_rfl
 i51:=by kernel_rfl
 i146:=by kernel_rfl
 m1:=by kernel_rfl
 s1_3:=fun w h=>Go.Proofs.cell_of_shapedOpen_int (zero:= #[.int .i64 0]) (t:=3) h (of_decide_eq_true (by kernel_rfl)) (by kernel_rfl) rfl (by kernel_rfl) (by kernel_rfl) Tryz.underlying3}
