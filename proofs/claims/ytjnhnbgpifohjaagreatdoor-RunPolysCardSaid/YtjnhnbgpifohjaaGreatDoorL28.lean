import Derived.Shelf.Strings.Builder1
import Derived.Shelf.Strings.Builder2
import Derived.Shelf.Strings.OnBuilder
import Derived.Shelf.Strings.Trim
import Derived.Shelf.Small.Utf8
import Derived.Shelf.Small.Strs
import Derived.Shelf.Strings.Search1
import Derived.Shelf.Strings.Search2
import Derived.Shelf.Strings.Search3
import Derived.Shelf.LaysM
import Derived.Shelf.Strings.Shaped
import Derived.Shelf.Strings.Runes
import Derived.Shelf.Strings.AsciiSet
import Derived.Shelf.Bits.Mul64
import Derived.Shelf.Unicode.DecodeSlow
import Derived.Test.YtjnhnbgpifohjaaGreatDoorProg
set_option linter.unusedVariables false
set_option linter.unusedSimpArgs false
namespace Go.Proofs
open Go.Shelf
def Tryz.ah7:Go.Shelf.Ren:=⟨fun|161=>559|231=>567|227=>568|233=>569|235=>570|228=>579|197=>580|151=>581|260=>582|152=>583|137=>381|119=>584|224=>323|225=>322|217=>321|266=>404|n=>n,fun|9=>9|4=>4|3=>3|5=>5|117=>540|116=>539|0=>0|124=>543|105=>547|21=>21|119=>551|46=>345|139=>554|138=>553|n=>n,fun|3=>3|4=>4|n=>n⟩
theorem Tryz.au7:Go.Proofs.Lays.n161 Tryz.prog Tryz.ah7:={
 mixed:=by kernel_rfl
 f119:=Tryz.func584.trans (congrArg some (by kernel_rfl))
 f137:=Tryz.func381.trans (congrArg some (by kernel_rfl))
 f151:=Tryz.func581.trans (congrArg some (by kernel_rfl))
 f152:=Tryz.func583.trans (congrArg some (by kernel_rfl))
 f161:=Tryz.func559.trans (congrArg some (by kernel_rfl))
 f197:=Tryz.func580.trans (congrArg some (by kernel_rfl))
 f217:=Tryz.func321.trans (congrArg some (by kernel_rfl))
 f224:=Tryz.func323.trans (congrArg some (by kernel_rfl))
 f225:=Tryz.func322.trans (congrArg some (by kernel_rfl))
 f227:=Tryz.func568.trans (congrArg some (by kernel_rfl))
 f228:=Tryz.func579.trans (congrArg some (by kernel_rfl))
 f231:=Tryz.func567.trans (congrArg some (by kernel_rfl))
 f233:=Tryz.func569.trans (congrArg some (by kernel_rfl))
 f235:=Tryz.func570.trans (congrArg some (by kernel_rfl))
 f260:=Tryz.func582.trans (congrArg some (by kernel_rfl))
 f266:=Tryz.func404.trans (congrArg some (by kernel_rfl))
 t0:=Tryz.underlying0
 a0:=Tryz.isAgg0
 z0:=Tryz.sizeOf0
 v0:=Tryz.zeroValue0
 t3:=Tryz.underlying3
 a3:=Tryz.isAgg3
 z3:=Tryz.sizeOf3
 v3:=Tryz.zeroValue3
 t4:=Tryz.underlying4
 a4:=Tryz.isAgg4
 z4:=Tryz.sizeOf4
 v4:=Tryz.zeroValue4
 t5:=Tryz.underlying5
 a5:=Tryz.isAgg5
 z5:=Tryz.sizeOf5
 v5:=Tryz.zeroValue5
 t9:=Tryz.underlying9
 a9:=Tryz.isAgg9
 z9:=Tryz.sizeOf9
 v9:=Tryz.zeroValue9
 t21:=Tryz.underlying21
 a21:=Tryz.isAgg21
 z21:=Tryz.sizeOf21
 v21:=Tryz.zeroValue21
 t46:=Tryz.underlying345
 a46:=Tryz.isAgg345
 z46:=Tryz.sizeOf345
 v46:=Tryz.zeroValue345
 t105:=Tryz.underlying547
 a105:=Tryz.isAgg547
 z105:=Tryz.sizeOf547
 v105:=Tryz.zeroValue547
 t116:=Tryz.underlying539
 a116:=Tryz.isAgg539
 z116:=Tryz.sizeOf539
 t117:=Tryz.underlying540
 a117:=Tryz.isAgg540
 z117:=Tryz.sizeOf540
 v117:=Tryz.zeroValue540
 t119:=Tryz.underlying551
 a119:=Tryz.isAgg551
 z119:=Tryz.sizeOf551
 t124:=Tryz.underlying543
 a124:=Tryz.isAgg543
 z124:=Tryz.sizeOf543
 v124:=Tryz.zeroValue543
 t138:=Tryz.underlying553
 a138:=Tryz.isAgg553
 z138:=Tryz.sizeOf553
 v138:=Tryz.zeroValue553
 t139:=Tryz.underlying554
 a139:=Tryz.isAgg554
 z139:=Tryz.sizeOf554
 v139:=Tryz.zeroValue554
 g3:=by kernel_rfl
 g4:=by kernel_rfl}
open Go.RowKit in
theorem Tryz.strings_TrimLeft_one(s:ByteArray)(c:UInt8)(hc:c.toNat < 128)(w:World):
  Calls Tryz.prog 559 #[.string s,.string ⟨#[c]⟩] w fun e w'=>e= .returned (.string ⟨(Lib.trimLeftB s.data.toList c).toArray⟩)/\w'=w:=Any.strings_TrimLeft_one Tryz.au7 s c hc w
def Tryz.ajh:Go.Shelf.Ren:=⟨fun|137=>381|217=>321|266=>404|n=>n,fun|9=>9|5=>5|3=>3|n=>n,fun|n=>n⟩
theorem Tryz.avl:Go.Proofs.Lays.n137 Tryz.prog Tryz.ajh:={
 mixed:=by kernel_rfl
 f137:=Tryz.func381.trans (congrArg some (by kernel_rfl))
 f217:=Tryz.func321.trans (congrArg some (by kernel_rfl))
 f266:=Tryz.func404.trans (congrArg some (by kernel_rfl))
 t3:=Tryz.underlying3
 a3:=Tryz.isAgg3
 z3:=Tryz.sizeOf3
 v3:=Tryz.zeroValue3
 t5:=Tryz.underlying5
 a5:=Tryz.isAgg5
 z5:=Tryz.sizeOf5
 v5:=Tryz.zeroValue5
 t9:=Tryz.underlying9
 a9:=Tryz.isAgg9
 z9:=Tryz.sizeOf9
 v9:=Tryz.zeroValue9}
open Go.RowKit in
theorem Tryz.strings_IndexByte(s:ByteArray)(c:Int)(w:World):
  Calls Tryz.prog 381 #[.string s,.int .u8 c] w fun e w'=>e= .returned (.int .i64 (Lib.indexByte s.data.toList c.toNat.toUInt8))/\w'=w:=Any.strings_IndexByte Tryz.avl s c w
def Tryz.aiF:Go.Shelf.Ren:=⟨fun|144=>79|143=>124|219=>227|217=>321|225=>322|224=>323|267=>324|266=>404|314=>405|n=>n,fun|9=>9|4=>4|3=>3|5=>5|46=>345|146=>427|51=>426|n=>n,fun|1=>0|n=>n⟩
theorem Tryz.amt:Go.Proofs.Lays.n144 Tryz.prog Tryz.aiF:={
 mixed:=by kernel_rfl
 f143:=Tryz.func124.trans (congrArg some (by kernel_rfl))
 f144:=Tryz.func79.trans (congrArg some (by kernel_rfl))
 f217:=Tryz.func321.trans (congrArg some (by kernel_rfl))
 f219:=Tryz.func227.trans (congrArg some (by kernel_rfl))
 f224:=Tryz.func323.trans (congrArg some (by kernel_rfl))
 f225:=Tryz.func322.trans (congrArg some (by kernel_rfl))
 f266:=Tryz.func404.trans (congrArg some (by kernel_rfl))
 f267:=Tryz.func324.trans (congrArg some (by kernel_rfl))
 f314:=Tryz.func405.trans (congrArg some (by kernel_rfl))
 t3:=Tryz.underlying3
 a3:=Tryz.isAgg3
 z3:=Tryz.sizeOf3
 v3:=Tryz.zeroValue3
 t4:=Tryz.underlying4
 a4:=Tryz.isAgg4
 z4:=Tryz.sizeOf4
 v4:=Tryz.zeroValue4
 t5:=Tryz.underlying5
 a5:=Tryz.isAgg5
 z5:=Tryz.sizeOf5
 v5:=Tryz.zeroValue5
 t9:=Tryz.underlying9
 a9:=Tryz.isAgg9
 z9:=Tryz.sizeOf9
 v9:=Tryz.zeroValue9
 t46:=Tryz.underlying345
 a46:=Tryz.isAgg345
 z46:=Tryz.sizeOf345
 v46:=Tryz.zeroValue345
 t51:=Tryz.underlying426
 a51:=Tryz.isAgg426
 z51:=Tryz.sizeOf426
 v51:=Tryz.zeroValue426
 t146:=Tryz.underlying427
 a146:=Tryz.isAgg427
 z146:=Tryz.sizeOf427
 v146:=Tryz.zeroValue427
 g1:=by kernel_rfl}
open Go.RowKit Go.Lib in
theorem Tryz.strings_Contains_one(s:ByteArray)(c:UInt8)(w:World):
  Calls Tryz.prog 79 #[.string s,.string ⟨#[c]⟩] w fun e w'=>e= .returned (.bool (decide (0<=Lib.indexByte s.data.toList c)))/\w'=w:=Any.strings_Contains_one Tryz.amt s c w
open Go.RowKit Go.Lib in
theorem Tryz.strings_Contains(s sub:ByteArray)(m:Int)(w:World)(hs:s.size < 4294967281)(hm:w.cell? ⟨0,0,none⟩=some (.int .i64 m)):
  Calls Tryz.prog 79 #[.string s,.string sub] w fun e w'=>e= .returned (.bool (Lib.contains s.data.toList sub.data.toList))/\w'=w:=Any.strings_Contains Tryz.amt s sub m w hs hm
def Tryz.afH:Go.Shelf.Ren:=⟨fun|144=>79|143=>124|219=>227|217=>321|225=>322|224=>323|267=>324|266=>404|314=>405|n=>n,fun|9=>9|4=>4|3=>3|5=>5|46=>345|146=>427|51=>426|n=>n,fun|1=>0|n=>n⟩
theorem Tryz.laysM144:Go.Proofs.LaysM.n144 Tryz.prog Tryz.afH:={
 mixed:=by kernel_rfl
 f143:=Tryz.func124.trans (congrArg some (by kernel_rfl))
 f144:=Tryz.func79.trans (congrArg some (by kernel_rfl))
 f217:=Tryz.func321.trans (congrArg some (by kernel_rfl))
 f219:=Tryz.func227.trans (congrArg some (by kernel_rfl))
 f224:=Tryz.func323.trans (congrArg some (by kernel_rfl))
 f225:=Tryz.func322.trans (congrArg some (by kernel_rfl))
 f266:=Tryz.func404.trans (congrArg some (by kernel_rfl))
 f267:=Tryz.func324.trans (congrArg some (by kernel_rfl))
 f314:=Tryz.func405.trans (congrArg some (by kernel_rfl))
 t3:=Tryz.underlying3
 a3:=Tryz.isAgg3
 z3:=Tryz.sizeOf3
 v3:=Tryz.zeroValue3
 t4:=Tryz.underlying4
 a4:=Tryz.isAgg4
 z4:=Tryz.sizeOf4
 v4:=Tryz.zeroValue4
 t5:=Tryz.underlying5
 a5:=Tryz.isAgg5
 z5:=Tryz.sizeOf5
 v5:=Tryz.zeroValue5
 t9:=Tryz.underlying9
 a9:=Tryz.isAgg9
 z9:=Tryz.sizeOf9
 v9:=Tryz.zeroValue9
 t46:=Tryz.underlying345
 a46:=Tryz.isAgg345
 z46:=Tryz.sizeOf345
 v46:=Tryz.zeroValue345
 t51:=Tryz.underlying426
 a51:=Tryz.isAgg426
 z51:=Tryz.sizeOf426
 v51:=Tryz.zeroValue426
 t146:=Tryz.underlying427
 a146:=Tryz.isAgg427
 z146:=Tryz.sizeOf427
 v146:=Tryz.zeroValue427
 g1:=by kernel_rfl
 i3:=by kernel_rfl
 i4:=by kernel_rfl
 i5:=by kernel_rfl
 i9:=by kernel_rfl
 i46:=by kernel_rfl
 i51:=by kernel_rfl
 i146:=by kernel_rfl
 m1:=by kernel_rfl
 s1_3:=fun w h=>Go.Proofs.cell_of_shapedOpen_int (zero:= #[.int .i64 0]) (t:=3) h (of_decide_eq_true (by kernel_rfl)) (by kernel_rfl) rfl (by kernel_rfl) (by kernel_rfl) Tryz.underlying3}
