/- asm -/
import Derived.Shelf.Strings.Trim
import Derived.Shelf.Small.Utf8
import Derived.Shelf.Small.Strs
import Derived.Shelf.Small.Wraps
import Derived.Shelf.Strings.Search1
import Derived.Shelf.Strings.Search2
import Derived.Shelf.Strings.Search3
import Derived.Shelf.Strings.Cut
import Derived.Shelf.Strings.Count
import Derived.Shelf.LaysM
import Derived.Shelf.Strings.Shaped
import Derived.Shelf.Strings.Prefix
import Derived.Shelf.Strings.Split
import Derived.Shelf.Strings.SplitShaped
import Derived.Shelf.Strings.Runes
import Derived.Shelf.Strings.AsciiSet
import Derived.Shelf.Unicode.DecodeSlow
import Derived.Shelf.Unicode.DecodeAny
import Derived.Test.YtclpkipaehpkdaaGreatDoorProg
set_option linter.unusedVariables false
set_option linter.unusedSimpArgs false
set_option maxRecDepth 100000
set_option maxHeartbeats 64000000
namespace Go.Proofs.YtclpkipaehpkdaaGreatDoor
end Go.Proofs.YtclpkipaehpkdaaGreatDoor
namespace Go.Proofs
open Go.Shelf
def Tryz.lays161_ren:Go.Shelf.Ren:=⟨fun|161=>95|231=>140|227=>141|233=>142|235=>143|228=>170|197=>171|151=>172|260=>184|152=>185|137=>187|119=>188|224=>164|225=>163|217=>162|266=>179|n=>n,fun|9=>9|4=>4|3=>3|5=>5|117=>200|116=>199|0=>0|124=>203|105=>226|21=>21|119=>163|46=>210|139=>244|138=>243|n=>n,fun|3=>1|4=>2|n=>n⟩
theorem Tryz.lays161:Go.Proofs.Lays.n161 Tryz.prog Tryz.lays161_ren:={
 mixed:=by kernel_rfl
 f119:=Tryz.func188.trans (congrArg some (by kernel_rfl))
 f137:=Tryz.func187.trans (congrArg some (by kernel_rfl))
 f151:=Tryz.func172.trans (congrArg some (by kernel_rfl))
 f152:=Tryz.func185.trans (congrArg some (by kernel_rfl))
 f161:=Tryz.func95.trans (congrArg some (by kernel_rfl))
 f197:=Tryz.func171.trans (congrArg some (by kernel_rfl))
 f217:=Tryz.func162.trans (congrArg some (by kernel_rfl))
 f224:=Tryz.func164.trans (congrArg some (by kernel_rfl))
 f225:=Tryz.func163.trans (congrArg some (by kernel_rfl))
 f227:=Tryz.func141.trans (congrArg some (by kernel_rfl))
 f228:=Tryz.func170.trans (congrArg some (by kernel_rfl))
 f231:=Tryz.func140.trans (congrArg some (by kernel_rfl))
 f233:=Tryz.func142.trans (congrArg some (by kernel_rfl))
 f235:=Tryz.func143.trans (congrArg some (by kernel_rfl))
 f260:=Tryz.func184.trans (congrArg some (by kernel_rfl))
 f266:=Tryz.func179.trans (congrArg some (by kernel_rfl))
 t0:=Tryz.underlying0
 a0:=Tryz.isAgg0
 z0:=Tryz.sizeOf0
 v0:=Tryz.zeroValue0
 t3:=Tryz.underlying3
 a3:=Tryz.isAgg3
 z3:=Tryz.sizeOf3
 v3:=Tryz.zeroValue3
 t4:=Tryz.underlying4
 a4:=Tryz.isAgg4
 z4:=Tryz.sizeOf4
 v4:=Tryz.zeroValue4
 t5:=Tryz.underlying5
 a5:=Tryz.isAgg5
 z5:=Tryz.sizeOf5
 v5:=Tryz.zeroValue5
 t9:=Tryz.underlying9
 a9:=Tryz.isAgg9
 z9:=Tryz.sizeOf9
 v9:=Tryz.zeroValue9
 t21:=Tryz.underlying21
 a21:=Tryz.isAgg21
 z21:=Tryz.sizeOf21
 v21:=Tryz.zeroValue21
 t46:=Tryz.underlying210
 a46:=Tryz.isAgg210
 z46:=Tryz.sizeOf210
 v46:=Tryz.zeroValue210
 t105:=Tryz.underlying226
 a105:=Tryz.isAgg226
 z105:=Tryz.sizeOf226
 v105:=Tryz.zeroValue226
 t116:=Tryz.underlying199
 a116:=Tryz.isAgg199
 z116:=Tryz.sizeOf199
 t117:=Tryz.underlying200
 a117:=Tryz.isAgg200
 z117:=Tryz.sizeOf200
 v117:=Tryz.zeroValue200
 t119:=Tryz.underlying163
 a119:=Tryz.isAgg163
 z119:=Tryz.sizeOf163
 t124:=Tryz.underlying203
 a124:=Tryz.isAgg203
 z124:=Tryz.sizeOf203
 v124:=Tryz.zeroValue203
 t138:=Tryz.underlying243
 a138:=Tryz.isAgg243
 z138:=Tryz.sizeOf243
 v138:=Tryz.zeroValue243
 t139:=Tryz.underlying244
 a139:=Tryz.isAgg244
 z139:=Tryz.sizeOf244
 v139:=Tryz.zeroValue244
 g3:=by kernel_rfl
 g4:=by kernel_rfl}
open Go.RowKit in
theorem Tryz.strings_TrimLeft_one(s:ByteArray)(c:UInt8)(hc:c.toNat<128)(w:World):
  Calls Tryz.prog 95 #[.string s,.string ⟨#[c]⟩] w fun e w'=>e= .returned (.string ⟨(Lib.trimLeftB s.data.toList c).toArray⟩)/\w'=w:=Any.strings_TrimLeft_one Tryz.lays161 s c hc w
def Tryz.lays103_ren:Go.Shelf.Ren:=⟨fun|103=>145|210=>173|206=>139|n=>n,fun|9=>9|4=>4|24=>79|3=>3|n=>n,fun|n=>n⟩
theorem Tryz.lays103:Go.Proofs.Lays.n103 Tryz.prog Tryz.lays103_ren:={
 mixed:=by kernel_rfl
 f103:=Tryz.func145.trans (congrArg some (by kernel_rfl))
 f206:=Tryz.func139.trans (congrArg some (by kernel_rfl))
 f210:=Tryz.func173.trans (congrArg some (by kernel_rfl))
 t3:=Tryz.underlying3
 a3:=Tryz.isAgg3
 z3:=Tryz.sizeOf3
 v3:=Tryz.zeroValue3
 t4:=Tryz.underlying4
 a4:=Tryz.isAgg4
 z4:=Tryz.sizeOf4
 v4:=Tryz.zeroValue4
 t9:=Tryz.underlying9
 a9:=Tryz.isAgg9
 z9:=Tryz.sizeOf9
 v9:=Tryz.zeroValue9
 t24:=Tryz.underlying79
 a24:=Tryz.isAgg79
 z24:=Tryz.sizeOf79
 v24:=Tryz.zeroValue79}
open Go.RowKit in
theorem Tryz.strings_CutPrefix(s p:ByteArray)(w:World):
  Calls Tryz.prog 145 #[.string s,.string p] w fun e w'=>e= .returned (.tuple #[.string ⟨(Lib.trimPrefix s.data.toList p.data.toList).toArray⟩,.bool (Lib.hasPrefix s.data.toList p.data.toList)])/\w'=w:=Any.strings_CutPrefix Tryz.lays103 s p w
def Tryz.lays144_ren:Go.Shelf.Ren:=⟨fun|144=>41|143=>82|219=>131|217=>162|225=>163|224=>164|267=>165|266=>179|314=>180|n=>n,fun|9=>9|4=>4|3=>3|5=>5|46=>210|146=>235|51=>234|n=>n,fun|1=>0|n=>n⟩
theorem Tryz.lays144:Go.Proofs.Lays.n144 Tryz.prog Tryz.lays144_ren:={
 mixed:=by kernel_rfl
 f143:=Tryz.func82.trans (congrArg some (by kernel_rfl))
 f144:=Tryz.func41.trans (congrArg some (by kernel_rfl))
 f217:=Tryz.func162.trans (congrArg some (by kernel_rfl))
 f219:=Tryz.func131.trans (congrArg some (by kernel_rfl))
 f224:=Tryz.func164.trans (congrArg some (by kernel_rfl))
 f225:=Tryz.func163.trans (congrArg some (by kernel_rfl))
 f266:=Tryz.func179.trans (congrArg some (by kernel_rfl))
 f267:=Tryz.func165.trans (congrArg some (by kernel_rfl))
 f314:=Tryz.func180.trans (congrArg some (by kernel_rfl))
 t3:=Tryz.underlying3
 a3:=Tryz.isAgg3
 z3:=Tryz.sizeOf3
 v3:=Tryz.zeroValue3
 t4:=Tryz.underlying4
 a4:=Tryz.isAgg4
 z4:=Tryz.sizeOf4
 v4:=Tryz.zeroValue4
 t5:=Tryz.underlying5
 a5:=Tryz.isAgg5
 z5:=Tryz.sizeOf5
 v5:=Tryz.zeroValue5
 t9:=Tryz.underlying9
 a9:=Tryz.isAgg9
 z9:=Tryz.sizeOf9
 v9:=Tryz.zeroValue9
 t46:=Tryz.underlying210
 a46:=Tryz.isAgg210
 z46:=Tryz.sizeOf210
 v46:=Tryz.zeroValue210
 t51:=Tryz.underlying234
 a51:=Tryz.isAgg234
 z51:=Tryz.sizeOf234
 v51:=Tryz.zeroValue234
 t146:=Tryz.underlying235
 a146:=Tryz.isAgg235
 z146:=Tryz.sizeOf235
 v146:=Tryz.zeroValue235
 g1:=by kernel_rfl}
open Go.RowKit Go.Lib in
theorem Tryz.strings_Contains_one(s:ByteArray)(c:UInt8)(w:World):
  Calls Tryz.prog 41 #[.string s,.string ⟨#[c]⟩] w fun e w'=>e= .returned (.bool (decide (0<=Lib.indexByte s.data.toList c)))/\w'=w:=Any.strings_Contains_one Tryz.lays144 s c w
def Tryz.lays145_ren:Go.Shelf.Ren:=⟨fun|145=>96|220=>144|219=>131|217=>162|225=>163|224=>164|267=>165|266=>179|314=>180|n=>n,fun|9=>9|4=>4|59=>159|3=>3|5=>5|46=>210|146=>235|51=>234|n=>n,fun|1=>0|n=>n⟩
theorem Tryz.lays145:Go.Proofs.Lays.n145 Tryz.prog Tryz.lays145_ren:={
 mixed:=by kernel_rfl
 f145:=Tryz.func96.trans (congrArg some (by kernel_rfl))
 f217:=Tryz.func162.trans (congrArg some (by kernel_rfl))
 f219:=Tryz.func131.trans (congrArg some (by kernel_rfl))
 f220:=Tryz.func144.trans (congrArg some (by kernel_rfl))
 f224:=Tryz.func164.trans (congrArg some (by kernel_rfl))
 f225:=Tryz.func163.trans (congrArg some (by kernel_rfl))
 f266:=Tryz.func179.trans (congrArg some (by kernel_rfl))
 f267:=Tryz.func165.trans (congrArg some (by kernel_rfl))
 f314:=Tryz.func180.trans (congrArg some (by kernel_rfl))
 t3:=Tryz.underlying3
 a3:=Tryz.isAgg3
 z3:=Tryz.sizeOf3
 v3:=Tryz.zeroValue3
 t4:=Tryz.underlying4
 a4:=Tryz.isAgg4
 z4:=Tryz.sizeOf4
 v4:=Tryz.zeroValue4
 t5:=Tryz.underlying5
 a5:=Tryz.isAgg5
 z5:=Tryz.sizeOf5
 v5:=Tryz.zeroValue5
 t9:=Tryz.underlying9
 a9:=Tryz.isAgg9
 z9:=Tryz.sizeOf9
 v9:=Tryz.zeroValue9
 t46:=Tryz.underlying210
 a46:=Tryz.isAgg210
 z46:=Tryz.sizeOf210
 v46:=Tryz.zeroValue210
 t51:=Tryz.underlying234
 a51:=Tryz.isAgg234
 z51:=Tryz.sizeOf234
 v51:=Tryz.zeroValue234
 t59:=Tryz.underlying159
 a59:=Tryz.isAgg159
 z59:=Tryz.sizeOf159
 v59:=Tryz.zeroValue159
 t146:=Tryz.underlying235
 a146:=Tryz.isAgg235
 z146:=Tryz.sizeOf235
 v146:=Tryz.zeroValue235
 g1:=by kernel_rfl}
open Go.RowKit Go.Lib in
theorem Tryz.strings_Cut(s sep:ByteArray)(m:Int)(w:World)(hs:s.size<4294967281)(hm:w.cell? ⟨0,0,none⟩=some (.int .i64 m)):
  Calls Tryz.prog 96 #[.string s,.string sep] w fun e w'=>e= .returned (.tuple #[.string ⟨(Lib.cut s.data.toList sep.data.toList).1.toArray⟩,.string ⟨(Lib.cut s.data.toList sep.data.toList).2.1.toArray⟩,.bool (Lib.cut s.data.toList sep.data.toList).2.2])/\∃n,w'=w.drewN n:=Any.strings_Cut Tryz.lays145 s sep m w hs hm
def Tryz.lays99_ren:Go.Shelf.Ren:=⟨fun|99=>94|206=>139|n=>n,fun|9=>9|4=>4|3=>3|n=>n,fun|n=>n⟩
theorem Tryz.lays99:Go.Proofs.Lays.n99 Tryz.prog Tryz.lays99_ren:={
 mixed:=by kernel_rfl
 f99:=Tryz.func94.trans (congrArg some (by kernel_rfl))
 f206:=Tryz.func139.trans (congrArg some (by kernel_rfl))
 t3:=Tryz.underlying3
 a3:=Tryz.isAgg3
 z3:=Tryz.sizeOf3
 v3:=Tryz.zeroValue3
 t4:=Tryz.underlying4
 a4:=Tryz.isAgg4
 z4:=Tryz.sizeOf4
 v4:=Tryz.zeroValue4
 t9:=Tryz.underlying9
 a9:=Tryz.isAgg9
 z9:=Tryz.sizeOf9
 v9:=Tryz.zeroValue9}
open Go.RowKit Go.Lib in
theorem Tryz.strings_HasPrefix(s p:ByteArray)(w:World):
  Calls Tryz.prog 94 #[.string s,.string p] w fun e w'=>e= .returned (.bool (Lib.hasPrefix s.data.toList p.data.toList))/\w'=w:=Any.strings_HasPrefix Tryz.lays99 s p w
def Tryz.lays100_ren:Go.Shelf.Ren:=⟨fun|100=>158|207=>177|n=>n,fun|9=>9|4=>4|3=>3|n=>n,fun|n=>n⟩
theorem Tryz.lays100:Go.Proofs.Lays.n100 Tryz.prog Tryz.lays100_ren:={
 mixed:=by kernel_rfl
 f100:=Tryz.func158.trans (congrArg some (by kernel_rfl))
 f207:=Tryz.func177.trans (congrArg some (by kernel_rfl))
 t3:=Tryz.underlying3
 a3:=Tryz.isAgg3
 z3:=Tryz.sizeOf3
 v3:=Tryz.zeroValue3
 t4:=Tryz.underlying4
 a4:=Tryz.isAgg4
 z4:=Tryz.sizeOf4
 v4:=Tryz.zeroValue4
 t9:=Tryz.underlying9
 a9:=Tryz.isAgg9
 z9:=Tryz.sizeOf9
 v9:=Tryz.zeroValue9}
open Go.RowKit Go.Lib in
theorem Tryz.strings_HasSuffix(s p:ByteArray)(w:World)(hs:s.size<=9223372036854775807):
  Calls Tryz.prog 158 #[.string s,.string p] w fun e w'=>e= .returned (.bool (Lib.hasSuffix s.data.toList p.data.toList))/\w'=w:=Any.strings_HasSuffix Tryz.lays100 s p w hs
def Tryz.lays146_ren:Go.Shelf.Ren:=⟨fun|146=>84|221=>133|268=>166|138=>167|143=>82|195=>181|197=>171|218=>182|219=>131|260=>184|217=>162|225=>163|224=>164|267=>165|266=>179|314=>180|n=>n,fun|9=>9|31=>86|3=>3|4=>4|0=>0|105=>226|21=>21|5=>5|46=>210|119=>163|139=>244|138=>243|146=>235|51=>234|n=>n,fun|1=>0|3=>1|4=>2|n=>n⟩
theorem Tryz.lays146:Go.Proofs.Lays.n146 Tryz.prog Tryz.lays146_ren:={
 mixed:=by kernel_rfl
 f138:=Tryz.func167.trans (congrArg some (by kernel_rfl))
 f143:=Tryz.func82.trans (congrArg some (by kernel_rfl))
 f146:=Tryz.func84.trans (congrArg some (by kernel_rfl))
 f195:=Tryz.func181.trans (congrArg some (by kernel_rfl))
 f197:=Tryz.func171.trans (congrArg some (by kernel_rfl))
 f217:=Tryz.func162.trans (congrArg some (by kernel_rfl))
 f218:=Tryz.func182.trans (congrArg some (by kernel_rfl))
 f219:=Tryz.func131.trans (congrArg some (by kernel_rfl))
 f221:=Tryz.func133.trans (congrArg some (by kernel_rfl))
 f224:=Tryz.func164.trans (congrArg some (by kernel_rfl))
 f225:=Tryz.func163.trans (congrArg some (by kernel_rfl))
 f260:=Tryz.func184.trans (congrArg some (by kernel_rfl))
 f266:=Tryz.func179.trans (congrArg some (by kernel_rfl))
 f267:=Tryz.func165.trans (congrArg some (by kernel_rfl))
 f268:=Tryz.func166.trans (congrArg some (by kernel_rfl))
 f314:=Tryz.func180.trans (congrArg some (by kernel_rfl))
 t0:=Tryz.underlying0
 a0:=Tryz.isAgg0
 z0:=Tryz.sizeOf0
 v0:=Tryz.zeroValue0
 t3:=Tryz.underlying3
 a3:=Tryz.isAgg3
 z3:=Tryz.sizeOf3
 v3:=Tryz.zeroValue3
 t4:=Tryz.underlying4
 a4:=Tryz.isAgg4
 z4:=Tryz.sizeOf4
 v4:=Tryz.zeroValue4
 t5:=Tryz.underlying5
 a5:=Tryz.isAgg5
 z5:=Tryz.sizeOf5
 v5:=Tryz.zeroValue5
 t9:=Tryz.underlying9
 a9:=Tryz.isAgg9
 z9:=Tryz.sizeOf9
 v9:=Tryz.zeroValue9
 t21:=Tryz.underlying21
 a21:=Tryz.isAgg21
 z21:=Tryz.sizeOf21
 v21:=Tryz.zeroValue21
 t31:=Tryz.underlying86
 a31:=Tryz.isAgg86
 z31:=Tryz.sizeOf86
 v31:=Tryz.zeroValue86
 t46:=Tryz.underlying210
 a46:=Tryz.isAgg210
 z46:=Tryz.sizeOf210
 v46:=Tryz.zeroValue210
 t51:=Tryz.underlying234
 a51:=Tryz.isAgg234
 z51:=Tryz.sizeOf234
 v51:=Tryz.zeroValue234
 t105:=Tryz.underlying226
 a105:=Tryz.isAgg226
 z105:=Tryz.sizeOf226
 v105:=Tryz.zeroValue226
 t119:=Tryz.underlying163
 a119:=Tryz.isAgg163
 z119:=Tryz.sizeOf163
 t138:=Tryz.underlying243
 a138:=Tryz.isAgg243
 z138:=Tryz.sizeOf243
 v138:=Tryz.zeroValue243
 t139:=Tryz.underlying244
 a139:=Tryz.isAgg244
 z139:=Tryz.sizeOf244
 v139:=Tryz.zeroValue244
 t146:=Tryz.underlying235
 a146:=Tryz.isAgg235
 z146:=Tryz.sizeOf235
 v146:=Tryz.zeroValue235
 g1:=by kernel_rfl
 g3:=by kernel_rfl
 g4:=by kernel_rfl}
open Go.RowKit Go.Lib in
theorem Tryz.strings_Split(s sep:ByteArray)(m:Int)(w:World)(hs:s.size<4294967281)(hm:w.cell? ⟨0,0,none⟩=some (.int .i64 m))(h1:1<=sep.size):
  Calls Tryz.prog 84 #[.string s,.string sep] w fun e w'=>
   e= .returned (.slice (some ⟨w.heap.size,0,none⟩) (Lib.countB s sep+1) (Lib.countB s sep+1))/\w'=w.alloc (.cells ((Lib.splitB sep 0 (Lib.countB s sep) s).map Value.string).toArray 9):=Any.strings_Split Tryz.lays146 (by kernel_rfl) s sep m w hs hm h1
end Go.Proofs
namespace Go.Proofs.YtclpkipaehpkdaaGreatDoor
end Go.Proofs.YtclpkipaehpkdaaGreatDoor
