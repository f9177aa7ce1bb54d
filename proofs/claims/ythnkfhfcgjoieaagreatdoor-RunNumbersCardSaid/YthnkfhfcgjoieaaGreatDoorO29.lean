import Derived.Shelf.Strings.Builder1
import Derived.Shelf.Strings.Builder2
import Derived.Shelf.Strings.OnBuilder
import Derived.Shelf.Strings.Trim
import Derived.Shelf.Small.Utf8
import Derived.Shelf.Small.Strs
import Derived.Shelf.Strings.Search1
import Derived.Shelf.Strings.Search2
import Derived.Shelf.Strings.Search3
import Derived.Shelf.LaysM
import Derived.Shelf.Strings.Shaped
import Derived.Shelf.Strings.Runes
import Derived.Shelf.Strings.AsciiSet
import Derived.Shelf.Bits.Mul64
import Derived.Shelf.Unicode.DecodeSlow
import Derived.Test.YthnkfhfcgjoieaaGreatDoorProg
set_option linter.unusedVariables false
set_option linter.unusedSimpArgs false
namespace Go.Proofs
open Go.Shelf
def Tryz.afF:Go.Shelf.Ren:=⟨fun|161=>551|231=>559|227=>560|233=>561|235=>562|228=>571|197=>572|151=>573|260=>574|152=>575|137=>280|119=>576|224=>314|225=>313|217=>312|266=>403|n=>n,fun|9=>9|4=>4|3=>3|5=>5|117=>534|116=>533|0=>0|124=>537|105=>541|21=>21|119=>545|46=>146|139=>548|138=>547|n=>n,fun|3=>3|4=>4|n=>n⟩
theorem Tryz.ar1:Go.Proofs.Lays.n161 Tryz.prog Tryz.afF:={
 mixed:=by kernel_rfl
 f119:=Tryz.func576.trans (congrArg some (by kernel_rfl))
 f137:=Tryz.func280.trans (congrArg some (by kernel_rfl))
 f151:=Tryz.func573.trans (congrArg some (by kernel_rfl))
 f152:=Tryz.func575.trans (congrArg some (by kernel_rfl))
 f161:=Tryz.func551.trans (congrArg some (by kernel_rfl))
 f197:=Tryz.func572.trans (congrArg some (by kernel_rfl))
 f217:=Tryz.func312.trans (congrArg some (by kernel_rfl))
 f224:=Tryz.func314.trans (congrArg some (by kernel_rfl))
 f225:=Tryz.func313.trans (congrArg some (by kernel_rfl))
 f227:=Tryz.func560.trans (congrArg some (by kernel_rfl))
 f228:=Tryz.func571.trans (congrArg some (by kernel_rfl))
 f231:=Tryz.func559.trans (congrArg some (by kernel_rfl))
 f233:=Tryz.func561.trans (congrArg some (by kernel_rfl))
 f235:=Tryz.func562.trans (congrArg some (by kernel_rfl))
 f260:=Tryz.func574.trans (congrArg some (by kernel_rfl))
 f266:=Tryz.func403.trans (congrArg some (by kernel_rfl))
 t0:=Tryz.underlying0
 a0:=Tryz.isAgg0
 z0:=Tryz.sizeOf0
 v0:=Tryz.zeroValue0
 t3:=Tryz.underlying3
 a3:=Tryz.isAgg3
 z3:=Tryz.sizeOf3
 v3:=Tryz.zeroValue3
 t4:=Tryz.underlying4
 a4:=Tryz.isAgg4
 z4:=Tryz.sizeOf4
 v4:=Tryz.zeroValue4
 t5:=Tryz.underlying5
 a5:=Tryz.isAgg5
 z5:=Tryz.sizeOf5
 v5:=Tryz.zeroValue5
 t9:=Tryz.underlying9
 a9:=Tryz.isAgg9
 z9:=Tryz.sizeOf9
 v9:=Tryz.zeroValue9
 t21:=Tryz.underlying21
 a21:=Tryz.isAgg21
 z21:=Tryz.sizeOf21
 v21:=Tryz.zeroValue21
 t46:=Tryz.underlying146
 a46:=Tryz.isAgg146
 z46:=Tryz.sizeOf146
 v46:=Tryz.zeroValue146
 t105:=Tryz.underlying541
 a105:=Tryz.isAgg541
 z105:=Tryz.sizeOf541
 v105:=Tryz.zeroValue541
 t116:=Tryz.underlying533
 a116:=Tryz.isAgg533
 z116:=Tryz.sizeOf533
 t117:=Tryz.underlying534
 a117:=Tryz.isAgg534
 z117:=Tryz.sizeOf534
 v117:=Tryz.zeroValue534
 t119:=Tryz.underlying545
 a119:=Tryz.isAgg545
 z119:=Tryz.sizeOf545
 t124:=Tryz.underlying537
 a124:=Tryz.isAgg537
 z124:=Tryz.sizeOf537
 v124:=Tryz.zeroValue537
 t138:=Tryz.underlying547
 a138:=Tryz.isAgg547
 z138:=Tryz.sizeOf547
 v138:=Tryz.zeroValue547
 t139:=Tryz.underlying548
 a139:=Tryz.isAgg548
 z139:=Tryz.sizeOf548
 v139:=Tryz.zeroValue548
 g3:=by kernel_rfl
 g4:=by kernel_rfl}
open Go.RowKit in
theorem Tryz.strings_TrimLeft_one(s:ByteArray)(c:UInt8)(hc:c.toNat < 128)(w:World):
  Calls Tryz.prog 551 #[.string s,.string ⟨#[c]⟩] w fun e w'=>e= .returned (.string ⟨(Lib.trimLeftB s.data.toList c).toArray⟩)/\w'=w:=Any.strings_TrimLeft_one Tryz.ar1 s c hc w
def Tryz.afm:Go.Shelf.Ren:=⟨fun|137=>280|217=>312|266=>403|n=>n,fun|9=>9|5=>5|3=>3|n=>n,fun|n=>n⟩
theorem Tryz.aro:Go.Proofs.Lays.n137 Tryz.prog Tryz.afm:={
 mixed:=by kernel_rfl
 f137:=Tryz.func280.trans (congrArg some (by kernel_rfl))
 f217:=Tryz.func312.trans (congrArg some (by kernel_rfl))
 f266:=Tryz.func403.trans (congrArg some (by kernel_rfl))
 t3:=Tryz.underlying3
 a3:=Tryz.isAgg3
 z3:=Tryz.sizeOf3
 v3:=Tryz.zeroValue3
 t5:=Tryz.underlying5
 a5:=Tryz.isAgg5
 z5:=Tryz.sizeOf5
 v5:=Tryz.zeroValue5
 t9:=Tryz.underlying9
 a9:=Tryz.isAgg9
 z9:=Tryz.sizeOf9
 v9:=Tryz.zeroValue9}
open Go.RowKit in
theorem Tryz.strings_IndexByte(s:ByteArray)(c:Int)(w:World):
  Calls Tryz.prog 280 #[.string s,.int .u8 c] w fun e w'=>e= .returned (.int .i64 (Lib.indexByte s.data.toList c.toNat.toUInt8))/\w'=w:=Any.strings_IndexByte Tryz.aro s c w
def Tryz.ae8:Go.Shelf.Ren:=⟨fun|144=>66|143=>93|219=>188|217=>312|225=>313|224=>314|267=>315|266=>403|314=>404|n=>n,fun|9=>9|4=>4|3=>3|5=>5|46=>146|146=>437|51=>436|n=>n,fun|1=>0|n=>n⟩
theorem Tryz.ajK:Go.Proofs.Lays.n144 Tryz.prog Tryz.ae8:={
 mixed:=by kernel_rfl
 f143:=Tryz.func93.trans (congrArg some (by kernel_rfl))
 f144:=Tryz.func66.trans (congrArg some (by kernel_rfl))
 f217:=Tryz.func312.trans (congrArg some (by kernel_rfl))
 f219:=Tryz.func188.trans (congrArg some (by kernel_rfl))
 f224:=Tryz.func314.trans (congrArg some (by kernel_rfl))
 f225:=Tryz.func313.trans (congrArg some (by kernel_rfl))
 f266:=Tryz.func403.trans (congrArg some (by kernel_rfl))
 f267:=Tryz.func315.trans (congrArg some (by kernel_rfl))
 f314:=Tryz.func404.trans (congrArg some (by kernel_rfl))
 t3:=Tryz.underlying3
 a3:=Tryz.isAgg3
 z3:=Tryz.sizeOf3
 v3:=Tryz.zeroValue3
 t4:=Tryz.underlying4
 a4:=Tryz.isAgg4
 z4:=Tryz.sizeOf4
 v4:=Tryz.zeroValue4
 t5:=Tryz.underlying5
 a5:=Tryz.isAgg5
 z5:=Tryz.sizeOf5
 v5:=Tryz.zeroValue5
 t9:=Tryz.underlying9
 a9:=Tryz.isAgg9
 z9:=Tryz.sizeOf9
 v9:=Tryz.zeroValue9
 t46:=Tryz.underlying146
 a46:=Tryz.isAgg146
 z46:=Tryz.sizeOf146
 v46:=Tryz.zeroValue146
 t51:=Tryz.underlying436
 a51:=Tryz.isAgg436
 z51:=Tryz.sizeOf436
 v51:=Tryz.zeroValue436
 t146:=Tryz.underlying437
 a146:=Tryz.isAgg437
 z146:=Tryz.sizeOf437
 v146:=Tryz.zeroValue437
 g1:=by kernel_rfl}
open Go.RowKit Go.Lib in
theorem Tryz.strings_Contains_one(s:ByteArray)(c:UInt8)(w:World):
  Calls Tryz.prog 66 #[.string s,.string ⟨#[c]⟩] w fun e w'=>e= .returned (.bool (decide (0<=Lib.indexByte s.data.toList c)))/\w'=w:=Any.strings_Contains_one Tryz.ajK s c w
open Go.RowKit Go.Lib in
theorem Tryz.strings_Contains(s sub:ByteArray)(m:Int)(w:World)(hs:s.size < 4294967281)(hm:w.cell? ⟨0,0,none⟩=some (.int .i64 m)):
  Calls Tryz.prog 66 #[.string s,.string sub] w fun e w'=>e= .returned (.bool (Lib.contains s.data.toList sub.data.toList))/\w'=w:=Any.strings_Contains Tryz.ajK s sub m w hs hm
def Tryz.adO:Go.Shelf.Ren:=⟨fun|144=>66|143=>93|219=>188|217=>312|225=>313|224=>314|267=>315|266=>403|314=>404|n=>n,fun|9=>9|4=>4|3=>3|5=>5|46=>146|146=>437|51=>436|n=>n,fun|1=>0|n=>n⟩
theorem Tryz.laysM144:Go.Proofs.LaysM.n144 Tryz.prog Tryz.adO:={
 mixed:=by kernel_rfl
 f143:=Tryz.func93.trans (congrArg some (by kernel_rfl))
 f144:=Tryz.func66.trans (congrArg some (by kernel_rfl))
 f217:=Tryz.func312.trans (congrArg some (by kernel_rfl))
 f219:=Tryz.func188.trans (congrArg some (by kernel_rfl))
 f224:=Tryz.func314.trans (congrArg some (by kernel_rfl))
 f225:=Tryz.func313.trans (congrArg some (by kernel_rfl))
 f266:=Tryz.func403.trans (congrArg some (by kernel_rfl))
 f267:=Tryz.func315.trans (congrArg some (by kernel_rfl))
 f314:=Tryz.func404.trans (congrArg some (by kernel_rfl))
 t3:=Tryz.underlying3
 a3:=Tryz.isAgg3
 z3:=Tryz.sizeOf3
 v3:=Tryz.zeroValue3
 t4:=Tryz.underlying4
 a4:=Tryz.isAgg4
 z4:=Tryz.sizeOf4
 v4:=Tryz.zeroValue4
 t5:=Tryz.underlying5
 a5:=Tryz.isAgg5
 z5:=Tryz.sizeOf5
 v5:=Tryz.zeroValue5
 t9:=Tryz.underlying9
 a9:=Tryz.isAgg9
 z9:=Tryz.sizeOf9
 v9:=Tryz.zeroValue9
 t46:=Tryz.underlying146
 a46:=Tryz.isAgg146
 z46:=Tryz.sizeOf146
 v46:=Tryz.zeroValue146
 t51:=Tryz.underlying436
 a51:=Tryz.isAgg436
 z51:=Tryz.sizeOf436
 v51:=Tryz.zeroValue436
 t146:=Tryz.underlying437
 a146:=Tryz.isAgg437
 z146:=Tryz.sizeOf437
 v146:=Tryz.zeroValue437
 g1:=by kernel_rfl
 i3:=by kernel_rfl
 i4:=by kernel_rfl
 i5:=by kernel_rfl
 i9:=by kernel_rfl
 i46:=by kernel_rfl
 i51:=by kernel_rfl
 i146:=by kernel_rfl
 m1:=by kernel_rfl
 s1_3:=fun w h=>Go.Proofs.cell_of_shapedOpen_int (zero:= #[.int .i64 0]) (t:=3) h (of_decide_eq_true (by kernel_rfl)) (by kernel_rfl) rfl (by kernel_rfl) (by kernel_rfl) Tryz.underlying3}
