/- asm -/
import Derived.Shelf.Strings.Trim
import Derived.Shelf.Small.Utf8
import Derived.Shelf.Small.Strs
import Derived.Shelf.Small.Wraps
import Derived.Shelf.Strings.Search1
import Derived.Shelf.Strings.Search2
import Derived.Shelf.Strings.Search3
import Derived.Shelf.Strings.Cut
import Derived.Shelf.Strings.Count
import Derived.Shelf.LaysM
import Derived.Shelf.Strings.Shaped
import Derived.Shelf.Strings.Prefix
import Derived.Shelf.Strings.Split
import Derived.Shelf.Strings.SplitShaped
import Derived.Shelf.Strings.Runes
import Derived.Shelf.Strings.AsciiSet
import Derived.Shelf.Unicode.DecodeSlow
import Derived.Shelf.Unicode.DecodeAny
import Derived.Test.YtclpkipaehpkdaaGreatDoorProg
set_option linter.unusedVariables false
set_option linter.unusedSimpArgs false
set_option maxRecDepth 100000
set_option maxHeartbeats 64000000
open Go.Proofs.Tryz
namespace Go.Proofs.YtclpkipaehpkdaaGreatDoor
end Go.Proofs.YtclpkipaehpkdaaGreatDoor
namespace Go.Proofs
open Go.Shelf
def Tryz.lays161_ren:Go.Shelf.Ren:=⟨fun|161=>95|231=>140|227=>141|233=>142|235=>143|228=>170|197=>171|151=>172|260=>184|152=>185|137=>187|119=>188|224=>164|225=>163|217=>162|266=>179|n=>n,fun|9=>9|4=>4|3=>3|5=>5|117=>200|116=>199|0=>0|124=>203|105=>226|21=>21|119=>163|46=>210|139=>244|138=>243|n=>n,fun|3=>1|4=>2|n=>n⟩
theorem Tryz.lays161:Go.Proofs.Lays.n161 prog Tryz.lays161_ren:={
 mixed:=by kernel_rfl
 f119:=func188.trans (congrArg some (by kernel_rfl))
 f137:=func187.trans (congrArg some (by kernel_rfl))
 f151:=func172.trans (congrArg some (by kernel_rfl))
 f152:=func185.trans (congrArg some (by kernel_rfl))
 f161:=func95.trans (congrArg some (by kernel_rfl))
 f197:=func171.trans (congrArg some (by kernel_rfl))
 f217:=func162.trans (congrArg some (by kernel_rfl))
 f224:=func164.trans (congrArg some (by kernel_rfl))
 f225:=func163.trans (congrArg some (by kernel_rfl))
 f227:=func141.trans (congrArg some (by kernel_rfl))
 f228:=func170.trans (congrArg some (by kernel_rfl))
 f231:=func140.trans (congrArg some (by kernel_rfl))
 f233:=func142.trans (congrArg some (by kernel_rfl))
 f235:=func143.trans (congrArg some (by kernel_rfl))
 f260:=func184.trans (congrArg some (by kernel_rfl))
 f266:=func179.trans (congrArg some (by kernel_rfl))
 t0:=underlying0
 a0:=isAgg0
 z0:=sizeOf0
 v0:=zeroValue0
 t3:=underlying3
 a3:=isAgg3
 z3:=sizeOf3
 v3:=zeroValue3
 t4:=underlying4
 a4:=isAgg4
 z4:=sizeOf4
 v4:=zeroValue4
 t5:=underlying5
 a5:=isAgg5
 z5:=sizeOf5
 v5:=zeroValue5
 t9:=underlying9
 a9:=isAgg9
 z9:=sizeOf9
 v9:=zeroValue9
 t21:=underlying21
 a21:=isAgg21
 z21:=sizeOf21
 v21:=zeroValue21
 t46:=underlying210
 a46:=isAgg210
 z46:=sizeOf210
 v46:=zeroValue210
 t105:=underlying226
 a105:=isAgg226
 z105:=sizeOf226
 v105:=zeroValue226
 t116:=underlying199
 a116:=isAgg199
 z116:=sizeOf199
 t117:=underlying200
 a117:=isAgg200
 z117:=sizeOf200
 v117:=zeroValue200
 t119:=underlying163
 a119:=isAgg163
 z119:=sizeOf163
 t124:=underlying203
 a124:=isAgg203
 z124:=sizeOf203
 v124:=zeroValue203
 t138:=underlying243
 a138:=isAgg243
 z138:=sizeOf243
 v138:=zeroValue243
 t139:=underlying244
 a139:=isAgg244
 z139:=sizeOf244
 v139:=zeroValue244
 g3:=by kernel_rfl
 g4:=by kernel_rfl}
open Go.RowKit in
theorem Tryz.strings_TrimLeft_one(s:ByteArray)(c:UInt8)(hc:c.toNat<128)(w:World):
  Calls prog 95 #[.string s,.string ⟨#[c]⟩] w fun e w'=>e= .returned (.string ⟨(Lib.trimLeftB s.data.toList c).toArray⟩)/\w'=w:=Any.strings_TrimLeft_one Tryz.lays161 s c hc w
def Tryz.lays103_ren:Go.Shelf.Ren:=⟨fun|103=>145|210=>173|206=>139|n=>n,fun|9=>9|4=>4|24=>79|3=>3|n=>n,fun|n=>n⟩
theorem Tryz.lays103:Go.Proofs.Lays.n103 prog Tryz.lays103_ren:={
 mixed:=by kernel_rfl
 f103:=func145.trans (congrArg some (by kernel_rfl))
 f206:=func139.trans (congrArg some (by kernel_rfl))
 f210:=func173.trans (congrArg some (by kernel_rfl))
 t3:=underlying3
 a3:=isAgg3
 z3:=sizeOf3
 v3:=zeroValue3
 t4:=underlying4
 a4:=isAgg4
 z4:=sizeOf4
 v4:=zeroValue4
 t9:=underlying9
 a9:=isAgg9
 z9:=sizeOf9
 v9:=zeroValue9
 t24:=underlying79
 a24:=isAgg79
 z24:=sizeOf79
 v24:=zeroValue79}
open Go.RowKit in
theorem Tryz.strings_CutPrefix(s p:ByteArray)(w:World):
  Calls prog 145 #[.string s,.string p] w fun e w'=>e= .returned (.tuple #[.string ⟨(Lib.trimPrefix s.data.toList p.data.toList).toArray⟩,.bool (Lib.hasPrefix s.data.toList p.data.toList)])/\w'=w:=Any.strings_CutPrefix Tryz.lays103 s p w
def Tryz.lays144_ren:Go.Shelf.Ren:=⟨fun|144=>41|143=>82|219=>131|217=>162|225=>163|224=>164|267=>165|266=>179|314=>180|n=>n,fun|9=>9|4=>4|3=>3|5=>5|46=>210|146=>235|51=>234|n=>n,fun|1=>0|n=>n⟩
theorem Tryz.lays144:Go.Proofs.Lays.n144 prog Tryz.lays144_ren:={
 mixed:=by kernel_rfl
 f143:=func82.trans (congrArg some (by kernel_rfl))
 f144:=func41.trans (congrArg some (by kernel_rfl))
 f217:=func162.trans (congrArg some (by kernel_rfl))
 f219:=func131.trans (congrArg some (by kernel_rfl))
 f224:=func164.trans (congrArg some (by kernel_rfl))
 f225:=func163.trans (congrArg some (by kernel_rfl))
 f266:=func179.trans (congrArg some (by kernel_rfl))
 f267:=func165.trans (congrArg some (by kernel_rfl))
 f314:=func180.trans (congrArg some (by kernel_rfl))
 t3:=underlying3
 a3:=isAgg3
 z3:=sizeOf3
 v3:=zeroValue3
 t4:=underlying4
 a4:=isAgg4
 z4:=sizeOf4
 v4:=zeroValue4
 t5:=underlying5
 a5:=isAgg5
 z5:=sizeOf5
 v5:=zeroValue5
 t9:=underlying9
 a9:=isAgg9
 z9:=sizeOf9
 v9:=zeroValue9
 t46:=underlying210
 a46:=isAgg210
 z46:=sizeOf210
 v46:=zeroValue210
 t51:=underlying234
 a51:=isAgg234
 z51:=sizeOf234
 v51:=zeroValue234
 t146:=underlying235
 a146:=isAgg235
 z146:=sizeOf235
 v146:=zeroValue235
 g1:=by kernel_rfl}
open Go.RowKit Go.Lib in
theorem Tryz.strings_Contains_one(s:ByteArray)(c:UInt8)(w:World):
  Calls prog 41 #[.string s,.string ⟨#[c]⟩] w fun e w'=>e= .returned (.bool (decide (0<=Lib.indexByte s.data.toList c)))/\w'=w:=Any.strings_Contains_one Tryz.lays144 s c w
def Tryz.lays145_ren:Go.Shelf.Ren:=⟨fun|145=>96|220=>144|219=>131|217=>162|225=>163|224=>164|267=>165|266=>179|314=>180|n=>n,fun|9=>9|4=>4|59=>159|3=>3|5=>5|46=>210|146=>235|51=>234|n=>n,fun|1=>0|n=>n⟩
theorem Tryz.lays145:Go.Proofs.Lays.n145 prog Tryz.lays145_ren:={
 mixed:=by kernel_rfl
 f145:=func96.trans (congrArg some (by kernel_rfl))
 f217:=func162.trans (congrArg some (by kernel_rfl))
 f219:=func131.trans (congrArg some (by kernel_rfl))
 f220:=func144.trans (congrArg some (by kernel_rfl))
 f224:=func164.trans (congrArg some (by kernel_rfl))
 f225:=func163.trans (congrArg some (by kernel_rfl))
 f266:=func179.trans (congrArg some (by kernel_rfl))
 f267:=func165.trans (congrArg some (by kernel_rfl))
 f314:=func180.trans (congrArg some (by kernel_rfl))
 t3:=underlying3
 a3:=isAgg3
 z3:=sizeOf3
 v3:=zeroValue3
 t4:=underlying4
 a4:=isAgg4
 z4:=sizeOf4
 v4:=zeroValue4
 t5:=underlying5
 a5:=isAgg5
 z5:=sizeOf5
 v5:=zeroValue5
 t9:=underlying9
 a9:=isAgg9
 z9:=sizeOf9
 v9:=zeroValue9
 t46:=underlying210
 a46:=isAgg210
 z46:=sizeOf210
 v46:=zeroValue210
 t51:=underlying234
 a51:=isAgg234
 z51:=sizeOf234
 v51:=zeroValue234
 t59:=underlying159
 a59:=isAgg159
 z59:=sizeOf159
 v59:=zeroValue159
 t146:=underlying235
 a146:=isAgg235
 z146:=sizeOf235
 v146:=zeroValue235
 g1:=by kernel_rfl}
open Go.RowKit Go.Lib in
theorem Tryz.strings_Cut(s sep:ByteArray)(m:Int)(w:World)(hs:s.size<4294967281)(hm:w.cell? ⟨0,0,none⟩=some (.int .i64 m)):
  Calls prog 96 #[.string s,.string sep] w fun e w'=>e= .returned (.tuple #[.string ⟨(Lib.cut s.data.toList sep.data.toList).1.toArray⟩,.string ⟨(Lib.cut s.data.toList sep.data.toList).2.1.toArray⟩,.bool (Lib.cut s.data.toList sep.data.toList).2.2])/\∃n,w'=w.drewN n:=Any.strings_Cut Tryz.lays145 s sep m w hs hm
def Tryz.lays99_ren:Go.Shelf.Ren:=⟨fun|99=>94|206=>139|n=>n,fun|9=>9|4=>4|3=>3|n=>n,fun|n=>n⟩
theorem Tryz.lays99:Go.Proofs.Lays.n99 prog Tryz.lays99_ren:={
 mixed:=by kernel_rfl
 f99:=func94.trans (congrArg some (by kernel_rfl))
 f206:=func139.trans (congrArg some (by kernel_rfl))
 t3:=underlying3
 a3:=isAgg3
 z3:=sizeOf3
 v3:=zeroValue3
 t4:=underlying4
 a4:=isAgg4
 z4:=sizeOf4
 v4:=zeroValue4
 t9:=underlying9
 a9:=isAgg9
 z9:=sizeOf9
 v9:=zeroValue9}
open Go.RowKit Go.Lib in
theorem Tryz.strings_HasPrefix(s p:ByteArray)(w:World):
  Calls prog 94 #[.string s,.string p] w fun e w'=>e= .returned (.bool (Lib.hasPrefix s.data.toList p.data.toList))/\w'=w:=Any.strings_HasPrefix Tryz.lays99 s p w
def Tryz.lays100_ren:Go.Shelf.Ren:=⟨fun|100=>158|207=>177|n=>n,fun|9=>9|4=>4|3=>3|n=>n,fun|n=>n⟩
theorem Tryz.lays100:Go.Proofs.Lays.n100 prog Tryz.lays100_ren:={
 mixed:=by kernel_rfl
 f100:=func158.trans (congrArg some (by kernel_rfl))
 f207:=func177.trans (congrArg some (by kernel_rfl))
 t3:=underlying3
 a3:=isAgg3
 z3:=sizeOf3
 v3:=zeroValue3
 t4:=underlying4
 a4:=isAgg4
 z4:=sizeOf4
 v4:=zeroValue4
 t9:=underlying9
 a9:=isAgg9
 z9:=sizeOf9
 v9:=zeroValue9}
open Go.RowKit Go.Lib in
theorem Tryz.strings_HasSuffix(s p:ByteArray)(w:World)(hs:s.size<=9223372036854775807):
  Calls prog 158 #[.string s,.string p] w fun e w'=>e= .returned (.bool (Lib.hasSuffix s.data.toList p.data.toList))/\w'=w:=Any.strings_HasSuffix Tryz.lays100 s p w hs
def Tryz.lays146_ren:Go.Shelf.Ren:=⟨fun|146=>84|221=>133|268=>166|138=>167|143=>82|195=>181|197=>171|218=>182|219=>131|260=>184|217=>162|225=>163|224=>164|267=>165|266=>179|314=>180|n=>n,fun|9=>9|31=>86|3=>3|4=>4|0=>0|105=>226|21=>21|5=>5|46=>210|119=>163|139=>244|138=>243|146=>235|51=>234|n=>n,fun|1=>0|3=>1|4=>2|n=>n⟩
theorem Tryz.lays146:Go.Proofs.Lays.n146 prog Tryz.lays146_ren:={
 mixed:=by kernel_rfl
 f138:=func167.trans (congrArg some (by kernel_rfl))
 f143:=func82.trans (congrArg some (by kernel_rfl))
 f146:=func84.trans (congrArg some (by kernel_rfl))
 f195:=func181.trans (congrArg some (by kernel_rfl))
 f197:=func171.trans (congrArg some (by kernel_rfl))
 f217:=func162.trans (congrArg some (by kernel_rfl))
 f218:=func182.trans (congrArg some (by kernel_rfl))
 f219:=func131.trans (congrArg some (by kernel_rfl))
 f221:=func133.trans (congrArg some (by kernel_rfl))
 f224:=func164.trans (congrArg some (by kernel_rfl))
 f225:=func163.trans (congrArg some (by kernel_rfl))
 f260:=func184.trans (congrArg some (by kernel_rfl))
 f266:=func179.trans (congrArg some (by kernel_rfl))
 f267:=func165.trans (congrArg some (by kernel_rfl))
 f268:=func166.trans (congrArg some (by kernel_rfl))
 f314:=func180.trans (congrArg some (by kernel_rfl))
 t0:=underlying0
 a0:=isAgg0
 z0:=sizeOf0
 v0:=zeroValue0
 t3:=underlying3
 a3:=isAgg3
 z3:=sizeOf3
 v3:=zeroValue3
 t4:=underlying4
 a4:=isAgg4
 z4:=sizeOf4
 v4:=zeroValue4
 t5:=underlying5
 a5:=isAgg5
 z5:=sizeOf5
 v5:=zeroValue5
 t9:=underlying9
 a9:=isAgg9
 z9:=sizeOf9
 v9:=zeroValue9
 t21:=underlying21
 a21:=isAgg21
 z21:=sizeOf21
 v21:=zeroValue21
 t31:=underlying86
 a31:=isAgg86
 z31:=sizeOf86
 v31:=zeroValue86
 t46:=underlying210
 a46:=isAgg210
 z46:=sizeOf210
 v46:=zeroValue210
 t51:=underlying234
 a51:=isAgg234
 z51:=sizeOf234
 v51:=zeroValue234
 t105:=underlying226
 a105:=isAgg226
 z105:=sizeOf226
 v105:=zeroValue226
 t119:=underlying163
 a119:=isAgg163
 z119:=sizeOf163
 t138:=underlying243
 a138:=isAgg243
 z138:=sizeOf243
 v138:=zeroValue243
 t139:=underlying244
 a139:=isAgg244
 z139:=sizeOf244
 v139:=zeroValue244
 t146:=underlying235
 a146:=isAgg235
 z146:=sizeOf235
 v146:=zeroValue235
 g1:=by kernel_rfl
 g3:=by kernel_rfl
 g4:=by kernel_rfl}
open Go.RowKit Go.Lib in
theorem Tryz.strings_Split(s sep:ByteArray)(m:Int)(w:World)(hs:s.size<4294967281)(hm:w.cell? ⟨0,0,none⟩=some (.int .i64 m))(h1:1<=sep.size):
  Calls prog 84 #[.string s,.string sep] w fun e w'=>
   e= .returned (.slice (some ⟨w.heap.size,0,none⟩) (Lib.countB s sep+1) (Lib.countB s sep+1))/\w'=w.alloc (.cells ((Lib.splitB sep 0 (Lib.countB s sep) s).map Value.string).toArray 9):=Any.strings_Split Tryz.lays146 (by kernel_rfl) s sep m w hs hm h1
end Go.Proofs
namespace Go.Proofs.YtclpkipaehpkdaaGreatDoor
end Go.Proofs.YtclpkipaehpkdaaGreatDoor
