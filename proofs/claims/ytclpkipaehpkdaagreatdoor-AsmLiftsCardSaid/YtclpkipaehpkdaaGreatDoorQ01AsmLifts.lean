/- asm: own texts, merged (wip/merge3.py). No condition. -/
import Derived.Test.YtclpkipaehpkdaaGreatDoorQ00AsmLifts
import Derived.WalkKit
import Derived.Shelf.Strings.Trim
import Derived.Shelf.Small.Utf8
import Derived.Shelf.Small.Strs
import Derived.Shelf.Small.Wraps
import Derived.Shelf.Strings.Search1
import Derived.Shelf.Strings.Search2
import Derived.Shelf.Strings.Search3
import Derived.Shelf.Strings.Cut
import Derived.Shelf.Strings.Count
import Derived.Shelf.LaysM
import Derived.Shelf.Strings.Shaped
import Derived.Shelf.Strings.Prefix
import Derived.Shelf.Strings.Split
import Derived.Shelf.Strings.SplitShaped
import Derived.Shelf.Strings.Runes
import Derived.Shelf.Strings.AsciiSet
import Derived.Shelf.Unicode.DecodeSlow
import Derived.Shelf.Unicode.DecodeAny
import Derived.Test.YtclpkipaehpkdaaGreatDoorProg
import Derived.Lib.Split
import Derived.Lib.CutLaws
set_option linter.unusedVariables false
set_option linter.unusedSimpArgs false
set_option maxRecDepth 100000
set_option maxHeartbeats 64000000
namespace Go.Proofs.YtclpkipaehpkdaaGreatDoor
section
theorem tkF{P:Program}{ops:Array Oper}{Q:Exit→Act→World→Prop}{S:World→Prop}{i:Nat}{o:Oper}{K:Act→World→Prop}{a:Act}{w:World}{v:Value}(h:K (a.put o.dst v) w)(ho:ops[i]? =some o:=by rfl)(hw:Region.wanted o (yielded ops a.tmps)=true:=by rfl)
  (hv:∀w',S w'→(execOp a.eval o).run P w'= .ok (.value v) w':=by(intro w' hS';first|(go_simp<;>with_reducible rfl)|(go_simp;go_bits;with_reducible rfl))) (hS:S w:=by assumption):A5h P ops Q S i true K a w:=D3v ho hw v hv hS h
theorem alF{P:Program}{ops:Array Oper}{Q:Exit→Act→World→Prop}{S:World→Prop}{i:Nat}{o:Oper}{K:Act→World→Prop}{a:Act}{w:World}(h:o.wp P a w (fun a' w'=>S w'∧K a' w') Q)(ho:ops[i]? =some o:=by rfl)(hw:Region.wanted o (yielded ops a.tmps)=true:=by rfl):A5h P ops Q S i false K a w:=C9k ho hw h
theorem skF{P:Program}{ops:Array Oper}{Q:Exit→Act→World→Prop}{S:World→Prop}{i:Nat}{b:Bool}{o:Oper}{K:Act→World→Prop}{a:Act}{w:World}(h:K (a.put o.dst undef) w)(ho:ops[i]? =some o:=by rfl)(hw:Region.wanted o (yielded ops a.tmps)=false:=by rfl)(hS:S w:=by assumption):A5h P ops Q S i b K a w:=D3c ho hw hS h
theorem tkX{P:Program}{ops:Array Oper}{S:World→Prop}{i:Nat}{o:Oper}{K:Act→Prop}{a:Act}{v:Value}(h:K (a.put o.dst v))(ho:ops[i]? =some o:=by rfl)(hw:Region.wanted o (yielded ops a.tmps)=true:=by rfl)
  (hv:∀w',S w'→(execOp a.eval o).run P w'= .ok (.value v) w':=by(intro w' hS';first|(go_simp<;>with_reducible rfl)|(go_simp;go_bits;with_reducible rfl))):A2r P ops S i true K a:=by
 unfold A2r;rw[ho];simp only[];rw[if_pos hw];exact⟨v,hv,h⟩
theorem skX{P:Program}{ops:Array Oper}{S:World→Prop}{i:Nat}{b:Bool}{o:Oper}{K:Act→Prop}{a:Act}(h:K (a.put o.dst undef))(ho:ops[i]? =some o:=by rfl)(hw:Region.wanted o (yielded ops a.tmps)=false:=by rfl):A2r P ops S i b K a:=by
 unfold A2r;rw[ho];simp only[];rw[if_neg (by rw[hw];decide)];exact h
theorem laF{P:Program}{ops:Array Oper}{Q:Exit→Act→World→Prop}{n:Nat}{o:Oper}{a:Act}{w:World}(h:o.wp P a w (fun a' w'=>Q .normal a' w') Q)(ho:ops[n]? =some o:=by rfl)(hw:Region.wanted o (yielded ops a.tmps)=true:=by rfl):B6r P ops Q n a w:=by
 unfold B6r;rw[ho];simp only[];rw[if_pos hw];exact h
end
end Go.Proofs.YtclpkipaehpkdaaGreatDoor
namespace Go.Proofs
open Go.Shelf
def Tryz.lays161_ren:Go.Shelf.Ren:=⟨fun|161=>95|231=>140|227=>141|233=>142|235=>143|228=>170|197=>171|151=>172|260=>184|152=>185|137=>187|119=>188|224=>164|225=>163|217=>162|266=>179|n=>n,fun|9=>9|4=>4|3=>3|5=>5|117=>200|116=>199|0=>0|124=>203|105=>226|21=>21|119=>163|46=>210|139=>244|138=>243|n=>n,fun|3=>1|4=>2|n=>n⟩
theorem Tryz.lays161:Go.Proofs.Lays.n161 Tryz.prog Tryz.lays161_ren:={
 mixed:=by kernel_rfl
 f119:=Tryz.func188.trans (congrArg some (by kernel_rfl))
 f137:=Tryz.func187.trans (congrArg some (by kernel_rfl))
 f151:=Tryz.func172.trans (congrArg some (by kernel_rfl))
 f152:=Tryz.func185.trans (congrArg some (by kernel_rfl))
 f161:=Tryz.func95.trans (congrArg some (by kernel_rfl))
 f197:=Tryz.func171.trans (congrArg some (by kernel_rfl))
 f217:=Tryz.func162.trans (congrArg some (by kernel_rfl))
 f224:=Tryz.func164.trans (congrArg some (by kernel_rfl))
 f225:=Tryz.func163.trans (congrArg some (by kernel_rfl))
 f227:=Tryz.func141.trans (congrArg some (by kernel_rfl))
 f228:=Tryz.func170.trans (congrArg some (by kernel_rfl))
 f231:=Tryz.func140.trans (congrArg some (by kernel_rfl))
 f233:=Tryz.func142.trans (congrArg some (by kernel_rfl))
 f235:=Tryz.func143.trans (congrArg some (by kernel_rfl))
 f260:=Tryz.func184.trans (congrArg some (by kernel_rfl))
 f266:=Tryz.func179.trans (congrArg some (by kernel_rfl))
 t0:=Tryz.underlying0
 a0:=Tryz.isAgg0
 z0:=Tryz.sizeOf0
 v0:=Tryz.zeroValue0
 t3:=Tryz.underlying3
 a3:=Tryz.isAgg3
 z3:=Tryz.sizeOf3
 v3:=Tryz.zeroValue3
 t4:=Tryz.underlying4
 a4:=Tryz.isAgg4
 z4:=Tryz.sizeOf4
 v4:=Tryz.zeroValue4
 t5:=Tryz.underlying5
 a5:=Tryz.isAgg5
 z5:=Tryz.sizeOf5
 v5:=Tryz.zeroValue5
 t9:=Tryz.underlying9
 a9:=Tryz.isAgg9
 z9:=Tryz.sizeOf9
 v9:=Tryz.zeroValue9
 t21:=Tryz.underlying21
 a21:=Tryz.isAgg21
 z21:=Tryz.sizeOf21
 v21:=Tryz.zeroValue21
 t46:=Tryz.underlying210
 a46:=Tryz.isAgg210
 z46:=Tryz.sizeOf210
 v46:=Tryz.zeroValue210
 t105:=Tryz.underlying226
 a105:=Tryz.isAgg226
 z105:=Tryz.sizeOf226
 v105:=Tryz.zeroValue226
 t116:=Tryz.underlying199
 a116:=Tryz.isAgg199
 z116:=Tryz.sizeOf199
 t117:=Tryz.underlying200
 a117:=Tryz.isAgg200
 z117:=Tryz.sizeOf200
 v117:=Tryz.zeroValue200
 t119:=Tryz.underlying163
 a119:=Tryz.isAgg163
 z119:=Tryz.sizeOf163
 t124:=Tryz.underlying203
 a124:=Tryz.isAgg203
 z124:=Tryz.sizeOf203
 v124:=Tryz.zeroValue203
 t138:=Tryz.underlying243
 a138:=Tryz.isAgg243
 z138:=Tryz.sizeOf243
 v138:=Tryz.zeroValue243
 t139:=Tryz.underlying244
 a139:=Tryz.isAgg244
 z139:=Tryz.sizeOf244
 v139:=Tryz.zeroValue244
 g3:=by kernel_rfl
 g4:=by kernel_rfl}
open Go.RowKit in
theorem Tryz.strings_TrimLeft_one(s:ByteArray)(c:UInt8)(hc:c.toNat<128)(w:World):
  Calls Tryz.prog 95 #[.string s,.string ⟨#[c]⟩] w fun e w'=>e= .returned (.string ⟨(Lib.trimLeftB s.data.toList c).toArray⟩)∧w'=w:=Any.strings_TrimLeft_one Tryz.lays161 s c hc w
def Tryz.lays103_ren:Go.Shelf.Ren:=⟨fun|103=>145|210=>173|206=>139|n=>n,fun|9=>9|4=>4|24=>79|3=>3|n=>n,fun|n=>n⟩
theorem Tryz.lays103:Go.Proofs.Lays.n103 Tryz.prog Tryz.lays103_ren:={
 mixed:=by kernel_rfl
 f103:=Tryz.func145.trans (congrArg some (by kernel_rfl))
 f206:=Tryz.func139.trans (congrArg some (by kernel_rfl))
 f210:=Tryz.func173.trans (congrArg some (by kernel_rfl))
 t3:=Tryz.underlying3
 a3:=Tryz.isAgg3
 z3:=Tryz.sizeOf3
 v3:=Tryz.zeroValue3
 t4:=Tryz.underlying4
 a4:=Tryz.isAgg4
 z4:=Tryz.sizeOf4
 v4:=Tryz.zeroValue4
 t9:=Tryz.underlying9
 a9:=Tryz.isAgg9
 z9:=Tryz.sizeOf9
 v9:=Tryz.zeroValue9
 t24:=Tryz.underlying79
 a24:=Tryz.isAgg79
 z24:=Tryz.sizeOf79
 v24:=Tryz.zeroValue79}
open Go.RowKit in
theorem Tryz.strings_CutPrefix(s p:ByteArray)(w:World):
  Calls Tryz.prog 145 #[.string s,.string p] w fun e w'=>e= .returned (.tuple #[.string ⟨(Lib.trimPrefix s.data.toList p.data.toList).toArray⟩,.bool (Lib.hasPrefix s.data.toList p.data.toList)])∧w'=w:=Any.strings_CutPrefix Tryz.lays103 s p w
def Tryz.lays144_ren:Go.Shelf.Ren:=⟨fun|144=>41|143=>82|219=>131|217=>162|225=>163|224=>164|267=>165|266=>179|314=>180|n=>n,fun|9=>9|4=>4|3=>3|5=>5|46=>210|146=>235|51=>234|n=>n,fun|1=>0|n=>n⟩
theorem Tryz.lays144:Go.Proofs.Lays.n144 Tryz.prog Tryz.lays144_ren:={
 mixed:=by kernel_rfl
 f143:=Tryz.func82.trans (congrArg some (by kernel_rfl))
 f144:=Tryz.func41.trans (congrArg some (by kernel_rfl))
 f217:=Tryz.func162.trans (congrArg some (by kernel_rfl))
 f219:=Tryz.func131.trans (congrArg some (by kernel_rfl))
 f224:=Tryz.func164.trans (congrArg some (by kernel_rfl))
 f225:=Tryz.func163.trans (congrArg some (by kernel_rfl))
 f266:=Tryz.func179.trans (congrArg some (by kernel_rfl))
 f267:=Tryz.func165.trans (congrArg some (by kernel_rfl))
 f314:=Tryz.func180.trans (congrArg some (by kernel_rfl))
 t3:=Tryz.underlying3
 a3:=Tryz.isAgg3
 z3:=Tryz.sizeOf3
 v3:=Tryz.zeroValue3
 t4:=Tryz.underlying4
 a4:=Tryz.isAgg4
 z4:=Tryz.sizeOf4
 v4:=Tryz.zeroValue4
 t5:=Tryz.underlying5
 a5:=Tryz.isAgg5
 z5:=Tryz.sizeOf5
 v5:=Tryz.zeroValue5
 t9:=Tryz.underlying9
 a9:=Tryz.isAgg9
 z9:=Tryz.sizeOf9
 v9:=Tryz.zeroValue9
 t46:=Tryz.underlying210
 a46:=Tryz.isAgg210
 z46:=Tryz.sizeOf210
 v46:=Tryz.zeroValue210
 t51:=Tryz.underlying234
 a51:=Tryz.isAgg234
 z51:=Tryz.sizeOf234
 v51:=Tryz.zeroValue234
 t146:=Tryz.underlying235
 a146:=Tryz.isAgg235
 z146:=Tryz.sizeOf235
 v146:=Tryz.zeroValue235
 g1:=by kernel_rfl}
open Go.RowKit Go.Lib in
theorem Tryz.strings_Contains_one(s:ByteArray)(c:UInt8)(w:World):
  Calls Tryz.prog 41 #[.string s,.string ⟨#[c]⟩] w fun e w'=>e= .returned (.bool (decide (0≤Lib.indexByte s.data.toList c)))∧w'=w:=Any.strings_Contains_one Tryz.lays144 s c w
def Tryz.lays145_ren:Go.Shelf.Ren:=⟨fun|145=>96|220=>144|219=>131|217=>162|225=>163|224=>164|267=>165|266=>179|314=>180|n=>n,fun|9=>9|4=>4|59=>159|3=>3|5=>5|46=>210|146=>235|51=>234|n=>n,fun|1=>0|n=>n⟩
theorem Tryz.lays145:Go.Proofs.Lays.n145 Tryz.prog Tryz.lays145_ren:={
 mixed:=by kernel_rfl
 f145:=Tryz.func96.trans (congrArg some (by kernel_rfl))
 f217:=Tryz.func162.trans (congrArg some (by kernel_rfl))
 f219:=Tryz.func131.trans (congrArg some (by kernel_rfl))
 f220:=Tryz.func144.trans (congrArg some (by kernel_rfl))
 f224:=Tryz.func164.trans (congrArg some (by kernel_rfl))
 f225:=Tryz.func163.trans (congrArg some (by kernel_rfl))
 f266:=Tryz.func179.trans (congrArg some (by kernel_rfl))
 f267:=Tryz.func165.trans (congrArg some (by kernel_rfl))
 f314:=Tryz.func180.trans (congrArg some (by kernel_rfl))
 t3:=Tryz.underlying3
 a3:=Tryz.isAgg3
 z3:=Tryz.sizeOf3
 v3:=Tryz.zeroValue3
 t4:=Tryz.underlying4
 a4:=Tryz.isAgg4
 z4:=Tryz.sizeOf4
 v4:=Tryz.zeroValue4
 t5:=Tryz.underlying5
 a5:=Tryz.isAgg5
 z5:=Tryz.sizeOf5
 v5:=Tryz.zeroValue5
 t9:=Tryz.underlying9
 a9:=Tryz.isAgg9
 z9:=Tryz.sizeOf9
 v9:=Tryz.zeroValue9
 t46:=Tryz.underlying210
 a46:=Tryz.isAgg210
 z46:=Tryz.sizeOf210
 v46:=Tryz.zeroValue210
 t51:=Tryz.underlying234
 a51:=Tryz.isAgg234
 z51:=Tryz.sizeOf234
 v51:=Tryz.zeroValue234
 t59:=Tryz.underlying159
 a59:=Tryz.isAgg159
 z59:=Tryz.sizeOf159
 v59:=Tryz.zeroValue159
 t146:=Tryz.underlying235
 a146:=Tryz.isAgg235
 z146:=Tryz.sizeOf235
 v146:=Tryz.zeroValue235
 g1:=by kernel_rfl}
open Go.RowKit Go.Lib in
theorem Tryz.strings_Cut(s sep:ByteArray)(m:Int)(w:World)(hs:s.size<4294967281)(hm:w.cell? ⟨0,0,none⟩=some (.int .i64 m)):
  Calls Tryz.prog 96 #[.string s,.string sep] w fun e w'=>e= .returned (.tuple #[.string ⟨(Lib.cut s.data.toList sep.data.toList).1.toArray⟩,.string ⟨(Lib.cut s.data.toList sep.data.toList).2.1.toArray⟩,.bool (Lib.cut s.data.toList sep.data.toList).2.2])∧∃n,w'=w.drewN n:=Any.strings_Cut Tryz.lays145 s sep m w hs hm
def Tryz.lays99_ren:Go.Shelf.Ren:=⟨fun|99=>94|206=>139|n=>n,fun|9=>9|4=>4|3=>3|n=>n,fun|n=>n⟩
theorem Tryz.lays99:Go.Proofs.Lays.n99 Tryz.prog Tryz.lays99_ren:={
 mixed:=by kernel_rfl
 f99:=Tryz.func94.trans (congrArg some (by kernel_rfl))
 f206:=Tryz.func139.trans (congrArg some (by kernel_rfl))
 t3:=Tryz.underlying3
 a3:=Tryz.isAgg3
 z3:=Tryz.sizeOf3
 v3:=Tryz.zeroValue3
 t4:=Tryz.underlying4
 a4:=Tryz.isAgg4
 z4:=Tryz.sizeOf4
 v4:=Tryz.zeroValue4
 t9:=Tryz.underlying9
 a9:=Tryz.isAgg9
 z9:=Tryz.sizeOf9
 v9:=Tryz.zeroValue9}
open Go.RowKit Go.Lib in
theorem Tryz.strings_HasPrefix(s p:ByteArray)(w:World):
  Calls Tryz.prog 94 #[.string s,.string p] w fun e w'=>e= .returned (.bool (Lib.hasPrefix s.data.toList p.data.toList))∧w'=w:=Any.strings_HasPrefix Tryz.lays99 s p w
def Tryz.lays100_ren:Go.Shelf.Ren:=⟨fun|100=>158|207=>177|n=>n,fun|9=>9|4=>4|3=>3|n=>n,fun|n=>n⟩
theorem Tryz.lays100:Go.Proofs.Lays.n100 Tryz.prog Tryz.lays100_ren:={
 mixed:=by kernel_rfl
 f100:=Tryz.func158.trans (congrArg some (by kernel_rfl))
 f207:=Tryz.func177.trans (congrArg some (by kernel_rfl))
 t3:=Tryz.underlying3
 a3:=Tryz.isAgg3
 z3:=Tryz.sizeOf3
 v3:=Tryz.zeroValue3
 t4:=Tryz.underlying4
 a4:=Tryz.isAgg4
 z4:=Tryz.sizeOf4
 v4:=Tryz.zeroValue4
 t9:=Tryz.underlying9
 a9:=Tryz.isAgg9
 z9:=Tryz.sizeOf9
 v9:=Tryz.zeroValue9}
open Go.RowKit Go.Lib in
theorem Tryz.strings_HasSuffix(s p:ByteArray)(w:World)(hs:s.size≤9223372036854775807):
  Calls Tryz.prog 158 #[.string s,.string p] w fun e w'=>e= .returned (.bool (Lib.hasSuffix s.data.toList p.data.toList))∧w'=w:=Any.strings_HasSuffix Tryz.lays100 s p w hs
def Tryz.lays146_ren:Go.Shelf.Ren:=⟨fun|146=>84|221=>133|268=>166|138=>167|143=>82|195=>181|197=>171|218=>182|219=>131|260=>184|217=>162|225=>163|224=>164|267=>165|266=>179|314=>180|n=>n,fun|9=>9|31=>86|3=>3|4=>4|0=>0|105=>226|21=>21|5=>5|46=>210|119=>163|139=>244|138=>243|146=>235|51=>234|n=>n,fun|1=>0|3=>1|4=>2|n=>n⟩
theorem Tryz.lays146:Go.Proofs.Lays.n146 Tryz.prog Tryz.lays146_ren:={
 mixed:=by kernel_rfl
 f138:=Tryz.func167.trans (congrArg some (by kernel_rfl))
 f143:=Tryz.func82.trans (congrArg some (by kernel_rfl))
 f146:=Tryz.func84.trans (congrArg some (by kernel_rfl))
 f195:=Tryz.func181.trans (congrArg some (by kernel_rfl))
 f197:=Tryz.func171.trans (congrArg some (by kernel_rfl))
 f217:=Tryz.func162.trans (congrArg some (by kernel_rfl))
 f218:=Tryz.func182.trans (congrArg some (by kernel_rfl))
 f219:=Tryz.func131.trans (congrArg some (by kernel_rfl))
 f221:=Tryz.func133.trans (congrArg some (by kernel_rfl))
 f224:=Tryz.func164.trans (congrArg some (by kernel_rfl))
 f225:=Tryz.func163.trans (congrArg some (by kernel_rfl))
 f260:=Tryz.func184.trans (congrArg some (by kernel_rfl))
 f266:=Tryz.func179.trans (congrArg some (by kernel_rfl))
 f267:=Tryz.func165.trans (congrArg some (by kernel_rfl))
 f268:=Tryz.func166.trans (congrArg some (by kernel_rfl))
 f314:=Tryz.func180.trans (congrArg some (by kernel_rfl))
 t0:=Tryz.underlying0
 a0:=Tryz.isAgg0
 z0:=Tryz.sizeOf0
 v0:=Tryz.zeroValue0
 t3:=Tryz.underlying3
 a3:=Tryz.isAgg3
 z3:=Tryz.sizeOf3
 v3:=Tryz.zeroValue3
 t4:=Tryz.underlying4
 a4:=Tryz.isAgg4
 z4:=Tryz.sizeOf4
 v4:=Tryz.zeroValue4
 t5:=Tryz.underlying5
 a5:=Tryz.isAgg5
 z5:=Tryz.sizeOf5
 v5:=Tryz.zeroValue5
 t9:=Tryz.underlying9
 a9:=Tryz.isAgg9
 z9:=Tryz.sizeOf9
 v9:=Tryz.zeroValue9
 t21:=Tryz.underlying21
 a21:=Tryz.isAgg21
 z21:=Tryz.sizeOf21
 v21:=Tryz.zeroValue21
 t31:=Tryz.underlying86
 a31:=Tryz.isAgg86
 z31:=Tryz.sizeOf86
 v31:=Tryz.zeroValue86
 t46:=Tryz.underlying210
 a46:=Tryz.isAgg210
 z46:=Tryz.sizeOf210
 v46:=Tryz.zeroValue210
 t51:=Tryz.underlying234
 a51:=Tryz.isAgg234
 z51:=Tryz.sizeOf234
 v51:=Tryz.zeroValue234
 t105:=Tryz.underlying226
 a105:=Tryz.isAgg226
 z105:=Tryz.sizeOf226
 v105:=Tryz.zeroValue226
 t119:=Tryz.underlying163
 a119:=Tryz.isAgg163
 z119:=Tryz.sizeOf163
 t138:=Tryz.underlying243
 a138:=Tryz.isAgg243
 z138:=Tryz.sizeOf243
 v138:=Tryz.zeroValue243
 t139:=Tryz.underlying244
 a139:=Tryz.isAgg244
 z139:=Tryz.sizeOf244
 v139:=Tryz.zeroValue244
 t146:=Tryz.underlying235
 a146:=Tryz.isAgg235
 z146:=Tryz.sizeOf235
 v146:=Tryz.zeroValue235
 g1:=by kernel_rfl
 g3:=by kernel_rfl
 g4:=by kernel_rfl}
open Go.RowKit Go.Lib in
theorem Tryz.strings_Split(s sep:ByteArray)(m:Int)(w:World)(hs:s.size<4294967281)(hm:w.cell? ⟨0,0,none⟩=some (.int .i64 m))(h1:1≤sep.size):
  Calls Tryz.prog 84 #[.string s,.string sep] w fun e w'=>
   e= .returned (.slice (some ⟨w.heap.size,0,none⟩) (Lib.countB s sep+1) (Lib.countB s sep+1))∧w'=w.alloc (.cells ((Lib.splitB sep 0 (Lib.countB s sep) s).map Value.string).toArray 9):=Any.strings_Split Tryz.lays146 (by kernel_rfl) s sep m w hs hm h1
end Go.Proofs
namespace Go.Proofs.YtclpkipaehpkdaaGreatDoor
section
def A6t(v n:Nat):List UInt8:=(List.range n).map fun i=>UInt8.ofNat (v/256^(n-1-i)%256)
theorem A1z(v n:Nat):(A6t v n).length=n:=by simp[A6t]
theorem C0k(v n k:Nat)(h:k<n):(A6t v n).take (k+1)=(A6t v n).take k++[UInt8.ofNat (v/256^(n-1-k)%256)]:=by
 rw[List.take_succ_eq_append_getElem (by rw[A1z];exact h)];simp[A6t]
theorem B8z(x:Nat):A5f (UInt8.ofNat (x%256))= .int .u8 ((x:Int)%256):=by
 unfold A5f;rw[UInt8.toNat_ofNat_of_lt' (by show x%256<256;omega)];rw[Int.natCast_emod];rfl
def B5z(bs:List UInt8):Nat:=bs.foldl (fun v c=>v*256+c.toNat) 0
theorem B9m(bs:List UInt8)(k:Nat)(h:k<bs.length):B5z (bs.take (k+1))=B5z (bs.take k)*256+bs[k].toNat:=C8g _ _ bs k h
theorem B5p(bs:List UInt8)(c:UInt8):B5z (bs++[c])=B5z bs*256+c.toNat:=by simp[B5z]
theorem B7e(bs:List UInt8):B5z bs<256^bs.length:=by
 generalize hn:bs.length=n
 induction n generalizing bs with
 |zero=>have:bs=[]:=List.length_eq_zero_iff.1 hn;subst this;simp[B5z]
 |succ n ih=>
  have h1:bs≠[]:=by intro h;rw[h]at hn;simp at hn
  obtain⟨as',c,rfl⟩:∃as' c,bs=as'++[c]:=⟨bs.dropLast,bs.getLast h1,(List.dropLast_concat_getLast h1).symm⟩;have h2:=ih as' (by simpa using hn);rw[B5p,Nat.pow_succ];have:=c.toNat_lt
  omega
theorem B3i(bs:List UInt8)(k:Nat)(h:k≤7):B5z (bs.take k)<72057594037927936:=by
 have h1:=B7e (bs.take k);have h2:256^(bs.take k).length≤256^7:=Nat.pow_le_pow_right (by decide) (by simp;omega);omega
theorem C8e{x y:Nat}(hx:x%256=0)(hy:y<256)(h:x+y<18446744073709551616):bits .or .u64 (x:Int) (y:Int)=(x:Int)+y:=by
 rw[u64_or_nat x y (by omega) (by omega),nat_join 8 x y hx hy]
 push_cast;rfl
def A5s(bs:List UInt8)(at_ n:Int):Int×Int:=
 if n<1∨8<n then(0,1)
 else if at_<0∨(bs.length:Int)<at_∨(bs.length:Int) -at_<n then(0,6)
 else(B5z ((bs.drop at_.toNat).take n.toNat),0)
theorem C4q(v e:Nat):((v:Int)/2^(8*e))=((v/256^e:Nat):Int):=by
 rw[Int.natCast_ediv,Int.natCast_pow,Int.pow_mul];rfl
theorem C7p(v n:Nat)(h:0<n):(A6t v n).take (0+1)=[UInt8.ofNat (v/256^(n-1)%256)]:=by
 rw[C0k v n 0 h];rfl
end
section
open Go.ChangeShapes Go.WideShapes Go.ChangeAt Go.RowKit
theorem B5c{t e:TypeId}{z:Value}{bytes:Nat}(hO:C9e t e z bytes){α:Type}{enc:α→Value}(base:Nat){w:World}(tx ty:TypeId){a:Option Addr}{n cap:Nat}{xs:List α}(hsl:Sl enc w a n xs)
  (y:Value) (m:Nat) (news:List Value) (hs:Src Tryz.prog 1 tx y m news w) (hfull:cap<n+m) (hnc:n≤cap) (hlen:(n+m)*bytes≤140737488355328) (hm:n+m≤maxLen) (hbase:base≤w.heap.size):
  ∃v' w',(Builtin.append_ #[t,tx] ty #[.slice a n cap,y]).run Tryz.prog w= .ok v' w'∧w'.ownsRow base e 1 v' (n+m) (xs.map enc++news)∧Below base w w':=by
 obtain⟨ht,hinf,hz⟩:=hO;obtain⟨i,hi,hz0,hz1,hz2⟩:=info_parts hinf;have hl:=hs.newsLen
 have hfc:(Builtin.firstCells i.size n (.slice a n cap)).run Tryz.prog w.drew= .ok (xs.map enc).toArray w.drew:=by
  rw[hz1];by_cases hn:0<n
  ·obtain⟨b,off,rfl,_,hc⟩:=hsl.2 hn;refine run_firstCells_some w.drew 1 n _ n cap _ (by simp[hsl.1]) (fun j u hu=> ?_);rw[List.getElem?_map]at hu
   have hj:j<xs.length:=by
    rcases Nat.lt_or_ge j xs.length with h|h
    ·exact h
    ·rw[List.getElem?_eq_none h]at hu;simp at hu
   rw[List.getElem?_eq_getElem hj]at hu;simp only[Option.map_some,Option.some.injEq]at hu;subst hu;have hadd:(⟨b,off,none⟩:Addr).add j=⟨b,off+j,none⟩:=by unfold Addr.add;split<;>simp_all
   rw[hadd];exact hc j hj
  ·have h0:n=0:=by omega
   subst h0;have hx:xs=[]:=List.eq_nil_of_length_eq_zero hsl.1;subst hx
   cases a with
   |none=>simp[Builtin.firstCells]
   |some ad=>exact run_firstCells_some w.drew 1 0 ad 0 cap [] rfl (fun j u hu=>by simp at hu)
 have hsmall:n+m≤9223372036854775807:=by simp only[maxLen]at hm;omega
 subst hz2;have hr:=run_append_grow_src (P:=Tryz.prog) w t tx ty e i z ht hi hz0 a n cap (xs.map enc) hfc y m news (by rw[hz1];exact hs) hfull (by omega) (growslice_fits (by omega) hlen)
 refine⟨_,_,hr,?_,?_⟩
 ·have hlen2:(xs.map enc++news).length=(n+m)*1:=by simp[hsl.1,hl]
  have hge:=grownCap_ge w (n+m) cap e;have hcm:grownCap w (n+m) cap e≤maxLen:=grownCap_le_maxLen w (n+m) cap e hm
  refine⟨hlen2,.inr ⟨w.heap.size,_,_,rfl,hbase,heap_alloc_new w.drew _,hge,hcm,?_,?_⟩⟩
  ·simp only[Array.size_append,List.size_toArray,size_zeroCells,hz,hlen2];omega
  ·simp only[Array.toList_append];rw[←hlen2];exact List.take_left
 ·exact⟨rfl,rfl,rfl,by simp,fun k hk=>Below.heap_alloc w.drew _ k (by show k<w.heap.size;omega)⟩
theorem B4e{t e:TypeId}{z:Value}{bytes:Nat}(hO:C9e t e z bytes){α:Type}{enc:α→Value}{w:World}{ops:Array Oper}{rest:List Oper}{o:Oper}{a:Act}{Q:Exit→Act→World→Prop}(hgd:Region.wanted o (yielded ops a.tmps)=true)(s x:Operand)(tx:TypeId)
  (ho:o.op= .call {callee:= .builtin .append,args:= #[s,x],argTypes:= #[t,tx]})
  (base:Nat) (ad:Option Addr) (n cap:Nat) (xs:List α) (hv:a.eval s= .slice ad n cap) (hsl:Sl enc w ad n xs)
  (y:Value) (m:Nat) (news:List Value) (hy:a.eval x=y) (hs:Src Tryz.prog 1 tx y m news w) (hfull:cap<n+m) (hnc:n≤cap) (hlen:(n+m)*bytes≤140737488355328) (hm:n+m≤maxLen) (hbase:base≤w.heap.size)
  (h:∀v' w',w'.ownsRow base e 1 v' (n+m) (xs.map enc++news)→Below base w w'→wpList Tryz.prog ops Q rest (a.put o.dst v') w'):wpList Tryz.prog ops Q (o::rest) a w:=by
 obtain⟨v',w',hr,h2,h3⟩:=B5c hO base tx o.type hsl y m news hs hfull hnc hlen hm hbase;refine wpList_step fun K hK=> ?_
 rw[if_pos hgd];unfold Oper.wp execOp;simp only[ho,resolve,invoke,builtin,Sem.run_bind,Sem.run_pure,Result.andThen_ok,List.map_toArray,List.map_cons,List.map_nil,hv,hy,hr];exact hK _ _ (h v' w' h2 h3)
theorem A6v{t e:TypeId}{z:Value}{bytes:Nat}(hO:C9e t e z bytes){α:Type}{enc:α→Value}{w:World}{ops:Array Oper}{rest:List Oper}{o:Oper}{a:Act}{Q:Exit→Act→World→Prop}(hgd:Region.wanted o (yielded ops a.tmps)=true)(s x:Operand)
  (ho:o.op= .call {callee:= .builtin .append,args:= #[s,x],argTypes:= #[t,t]})
  (base:Nat) (ad:Option Addr) (n cap:Nat) (xs:List α) (hv:a.eval s= .slice ad n cap) (hsl:Sl enc w ad n xs)
  (C:Array Value) (m c:Nat) (hy:a.eval x= .slice (some ⟨w.heap.size,0,none⟩) m c) (hC:C.size=m) (hone:C.toList.all (·.oneCell')=true) (hfull:cap<n+m) (hnc:n≤cap) (hlen:(n+m)*bytes≤140737488355328) (hm:n+m≤maxLen) (hbase:base≤w.heap.size)
  (h:∀v' w',w'.ownsRow base e 1 v' (n+m) (xs.map enc++C.toList)→Below base w w'→wpList Tryz.prog ops Q rest (a.put o.dst v') w'):wpList Tryz.prog ops Q (o::rest) a (w.alloc (.cells C e)):=
 B4e hO hgd s x t ho base ad n cap xs hv (hsl.below ((Below.refl _ _).alloc (Nat.le_refl _) _)) _ m _ hy (Src.lit (heap_alloc_last w _) hC hone hO.1) hfull hnc hlen hm (by simp;omega)
  (fun v' w' h1 h3=>h v' w' h1 (((Below.refl _ _).alloc hbase _).trans h3))
theorem A2k{w:World}{B B':Nat}{e:TypeId}{size:Nat}{v:Value}{n:Nat}{xs:List Value}(h:w.ownsRow B e size v n xs)(hB:B'≤B):w.ownsRow B' e size v n xs:=by
 obtain⟨h1,h2⟩:=h;refine⟨h1,?_⟩
 rcases h2 with h2|⟨g,cap,cur,hv,hb,hg,h3⟩
 ·exact .inl h2
 ·exact .inr ⟨g,cap,cur,hv,Nat.le_trans hB hb,hg,h3⟩
theorem A0d{P:Program}{fn:Func}{p u:Tmp}{ty:TypeId}(h:fn.results= #[.cell p ty,.tmp u])(tmps:Array Value)(w:World)(g:Nat)(t:TypeId)(cs:Array Value)(fr:Nat×Nat)(d:TypeDesc)
  (hp:tmps.getD p undef= .pointer (some ⟨g,0,none⟩)) (hg:w.heap[g]? =some (.cells cs t fr))
  (hu:P.underlying ty=some d) (hd:(match d with| .struct _| .array _ _=>true|_=>false)=true) (hi:(P.info? ty).map (·.size)=some cs.size):
  (results fn tmps).run P w= .ok (.tuple #[.agg cs,tmps.getD u undef]) w:=by
 rw[results_cell_tmp h,hp];simp[asAddr,run_loadVar_row w g t ty cs fr d hg hu hd hi,Result.andThen]
end
section
open Go.RowKit
def E{n:Nat}(v:BitVec n):Int:=(v.toNat:Int)
end
section
open Go.ChangeShapes Go.WideShapes Go.ChangeAt Go.RowKit
theorem E0r:C9e 43 5 (.int .u8 0) 1:=⟨Tryz.underlying43,by kernel_rfl,rfl⟩
def A4x(n:Int):Prop:= -9223372036854775808≤n∧n≤9223372036854775807
theorem A3i(w:World)(n:Int):Calls Tryz.prog 174 #[.int .i64 n] w fun e w'=>e= .returned (.bool (decide (1≤n∧n≤8)))∧w=w':=by
 by_cases h1:1≤n
 ·by_cases h2:n≤8
  ·rw[decide_eq_true ⟨h1,h2⟩];go_enter Tryz.func174,Tryz.ntmps174
   go_wp2
   go_ret;exact⟨rfl,rfl⟩
  ·rw[decide_eq_false (by omega)];go_enter Tryz.func174,Tryz.ntmps174
   go_wp2
   go_ret;exact⟨rfl,rfl⟩
 ·rw[decide_eq_false (by omega)];go_enter Tryz.func174,Tryz.ntmps174
  go_wp2
  go_ret;exact⟨rfl,rfl⟩
theorem A8m(w:World)(a:Option Addr)(len cap:Nat)(bs:List UInt8)(i n:Int)(hs:Sl A5f w a len bs)(hl:len≤1048576)(hcap:len≤cap)(hi:A4x i)(hn:A4x n):
  Calls Tryz.prog 147 #[.slice a len cap,.int .i64 i,.int .i64 n] w fun e w'=>e= .returned (.tuple #[.int .u64 (A5s bs i n).1,.int .i64 (A5s bs i n).2])∧w=w':=by
 have hbl:=hs.1;have HS:=Lib.hid hs;obtain⟨i1,i2⟩:=hi;obtain⟨n1,n2⟩:=hn;clear hs;by_cases c1:n<1∨8<n
 ·have hR:A5s bs i n=(0,1):=by unfold A5s;rw[if_pos c1]
  rw[hR];have hd:decide (1≤n∧n≤8)=false:=decide_eq_false (by omega);clear hR;go_enter Tryz.func147,Tryz.ntmps147
  go_wp2_with fail
  refine(A3i _ n).mono ?_;rw[hd];rintro e w' ⟨rfl,rfl⟩
  go_wp2
  go_ret2;exact⟨rfl,rfl⟩
 have hd:decide (1≤n∧n≤8)=true:=decide_eq_true (by omega);by_cases c2:i<0∨(len:Int)<i∨(len:Int) -i<n
 ·have hR:A5s bs i n=(0,6):=by unfold A5s;rw[if_neg c1,hbl,if_pos c2]
  rw[hR];clear hR;by_cases d1:i<0
  ·have e1:=decide_eq_true d1;go_enter Tryz.func147,Tryz.ntmps147
   go_wp2_with fail
   refine(A3i _ n).mono ?_;rw[hd];rintro e w' ⟨rfl,rfl⟩
   go_wp2
   go_ret2;exact⟨rfl,rfl⟩
  have e1:=decide_eq_false d1;by_cases d2:(len:Int)<i
  ·have e2:=decide_eq_true d2;go_enter Tryz.func147,Tryz.ntmps147
   go_wp2_with fail
   refine(A3i _ n).mono ?_;rw[hd];rintro e w' ⟨rfl,rfl⟩
   go_wp2
   go_ret2;exact⟨rfl,rfl⟩
  have e2:=decide_eq_false d2;have e3:=decide_eq_true (show(len:Int) -i<n by omega);go_enter Tryz.func147,Tryz.ntmps147
  go_wp2_with fail
  refine(A3i _ n).mono ?_;rw[hd];rintro e w' ⟨rfl,rfl⟩
  go_wp2
  go_ret2;exact⟨rfl,rfl⟩
 ·have hR:A5s bs i n=(((B5z ((bs.drop i.toNat).take n.toNat):Nat):Int),(0:Int)):=by unfold A5s;rw[if_neg c1,hbl,if_neg c2]
  rw[hR];clear hR;obtain⟨j,rfl⟩:∃j:Nat,i=j:=⟨i.toNat,by omega⟩;obtain⟨m,rfl⟩:∃m:Nat,n=m:=⟨n.toNat,by omega⟩;have j1:j+m≤len:=by omega
  have m1:1≤m:=by omega
  have m2:m≤8:=by omega
  clear i1 i2 n1 n2 c1 c2;simp only[Int.toNat_natCast];obtain⟨b,off,rfl,hbw,hc⟩:=HS.out.2 (by omega);have HC:=Lib.hid hc;obtain⟨cs,hcs⟩:∃cs,cs=(bs.drop j).take m:=⟨_,rfl⟩;rw[←hcs]
  have HCS:=Lib.hid hcs;have hcl:cs.length=m:=by rw[hcs];simp;omega
  have HCL:=Lib.hid hcl;clear hcs hc hcl;have e1:=decide_eq_false (show ¬(j:Int)<0 by omega);have e2:=decide_eq_false (show ¬(len:Int)<(j:Int) by omega)
  have e3:=decide_eq_false (show ¬(len:Int) -(j:Int)<(m:Int) by omega);have g1:(0:Int)≤(j:Int):=by omega
  have g2:(j:Int)≤(len:Int):=by omega
  have g3:(0:Int)≤(m:Int):=by omega
  have g4:(m:Int)≤(cap:Int) -(j:Int):=by omega
  have g5:(len:Int)≤(cap:Int):=by omega
  go_enter Tryz.func147,Tryz.ntmps147
  go_wp2_with fail
  refine(A3i _ m).mono ?_;rw[hd];rintro e w' ⟨rfl,rfl⟩
  go_wp2_with fail
  go_loopw [8,38] (fun v i wr=>∃k x:Nat,k≤m∧i= .int .i64 k∧v= .int .u64 x∧Hid (x=B5z (cs.take k))∧wr=w) (fun _ i _=>m-(intOf i).toNat)
  case atStart=>exact⟨0,0,Nat.zero_le _,rfl,rfl,rfl,rfl⟩
  case round=>
   obtain⟨k,x,hk,rfl,rfl,HX,rfl⟩:=hrel;by_cases hlt:k<m
   ·have hck:wr.cell? ⟨b,off+j+k,none⟩=some (.int .u8 ((cs[k]'(by rw[HCL.out];exact hlt)).toNat:Int)):=by
     have h1:=HC.out (j+k) (by omega);rw[Nat.add_assoc,h1];simp only[HCS.out,List.getElem_take,List.getElem_drop];rfl
    obtain⟨c,hcc⟩:∃c,c=(cs[k]'(by rw[HCL.out];exact hlt)).toNat:=⟨_,rfl⟩;rw[←hcc]at hck;have hcl:c<256:=by rw[hcc];exact(cs[k]'(by rw[HCL.out];exact hlt)).toNat_lt
    have HCC:=Lib.hid hcc;clear hcc;have hx7:x<72057594037927936:=by rw[HX.out];exact B3i _ _ (by omega)
    have hor:=C8e (x:=x*256) (y:=c) (by omega) hcl (by omega);rw[show((x*256:Nat):Int)=(x:Int)*256 by omega]at hor
    go_wp2
    go_roundw
    case rel=>exact⟨k+1,x*256+c,by omega,by go_num,by go_num,by show _=_;rw[B9m cs k (by rw[HCL.out];exact hlt),←HX.out,←HCC.out],trivial⟩
    case measure=>simp[intOf];omega
   ·obtain rfl:k=m:=by omega
    go_wp2
    go_ret2;have h1:=HX.out;rw[List.take_of_length_le (by rw[HCL.out];omega)]at h1;rw[h1];exact⟨rfl,rfl⟩
theorem A4w(w:World)(a:Option Addr)(len cap:Nat)(bs:List UInt8)(i n:Int)(hs:Sl A5f w a len bs)(hl:len≤1048576)(hcap:len≤cap)(hi:A4x i)(hn:A4x n):
  Calls Tryz.prog 112 #[.slice a len cap,.int .i64 i,.int .i64 n] w fun e w'=>e= .returned (.tuple #[.int .u64 (A5s bs i n).1,.int .i64 (A5s bs i n).2])∧w=w':=by
 have hbl:=hs.1;have HS:=Lib.hid hs;obtain⟨i1,i2⟩:=hi;obtain⟨n1,n2⟩:=hn;clear hs;by_cases c1:n<1∨8<n
 ·have hR:A5s bs i n=(0,1):=by unfold A5s;rw[if_pos c1]
  rw[hR];clear hR;by_cases d1:n<1
  ·have e1:=decide_eq_true d1;go_enter Tryz.func112,Tryz.ntmps112
   go_wp2
   go_ret2;exact⟨rfl,rfl⟩
  ·have e1:=decide_eq_false d1;have e2:=decide_eq_true (show 8<n by omega);go_enter Tryz.func112,Tryz.ntmps112
   go_wp2
   go_ret2;exact⟨rfl,rfl⟩
 have a1:=decide_eq_false (show ¬n<1 by omega);have a2:=decide_eq_false (show ¬8<n by omega);by_cases c2:i<0∨(len:Int)<i∨(len:Int) -i<n
 ·have hR:A5s bs i n=(0,6):=by unfold A5s;rw[if_neg c1,hbl,if_pos c2]
  rw[hR];clear hR;by_cases d1:i<0
  ·have e1:=decide_eq_true d1;go_enter Tryz.func112,Tryz.ntmps112
   go_wp2
   go_ret2;exact⟨rfl,rfl⟩
  have e1:=decide_eq_false d1;by_cases d2:(len:Int)<i
  ·have e2:=decide_eq_true d2;go_enter Tryz.func112,Tryz.ntmps112
   go_wp2
   go_ret2;exact⟨rfl,rfl⟩
  have e2:=decide_eq_false d2;have e3:=decide_eq_true (show(len:Int) -i<n by omega);go_enter Tryz.func112,Tryz.ntmps112
  go_wp2
  go_ret2;exact⟨rfl,rfl⟩
 ·have hR:A5s bs i n=(((B5z ((bs.drop i.toNat).take n.toNat):Nat):Int),(0:Int)):=by unfold A5s;rw[if_neg c1,hbl,if_neg c2]
  rw[hR];clear hR;obtain⟨j,rfl⟩:∃j:Nat,i=j:=⟨i.toNat,by omega⟩;obtain⟨m,rfl⟩:∃m:Nat,n=m:=⟨n.toNat,by omega⟩;have j1:j+m≤len:=by omega
  have m1:1≤m:=by omega
  have m2:m≤8:=by omega
  clear i1 i2 n1 n2 c1 c2;simp only[Int.toNat_natCast];obtain⟨b,off,rfl,hbw,hc⟩:=HS.out.2 (by omega);have HC:=Lib.hid hc;obtain⟨cs,hcs⟩:∃cs,cs=(bs.drop j).take m:=⟨_,rfl⟩;rw[←hcs]
  have HCS:=Lib.hid hcs;have hcl:cs.length=m:=by rw[hcs];simp;omega
  have HCL:=Lib.hid hcl;clear hcs hc hcl;have e1:=decide_eq_false (show ¬(j:Int)<0 by omega);have e2:=decide_eq_false (show ¬(len:Int)<(j:Int) by omega)
  have e3:=decide_eq_false (show ¬(len:Int) -(j:Int)<(m:Int) by omega);have g1:(0:Int)≤(j:Int):=by omega
  have g2:(j:Int)≤(len:Int):=by omega
  have g3:(j:Int)≤(j:Int)+(m:Int):=by omega
  have g4:(j:Int)+(m:Int)≤(cap:Int):=by omega
  have g5:(len:Int)≤(cap:Int):=by omega
  go_enter Tryz.func112,Tryz.ntmps112
  go_wp2_with fail
  go_loopw [8,40] (fun v i wr=>∃k x:Nat,k≤m∧i= .int .i64 k∧v= .int .u64 x∧Hid (x=B5z (cs.take k))∧wr=w) (fun _ i _=>m-(intOf i).toNat)
  case atStart=>exact⟨0,0,Nat.zero_le _,rfl,rfl,rfl,rfl⟩
  case round=>
   obtain⟨k,x,hk,rfl,rfl,HX,rfl⟩:=hrel;by_cases hlt:k<m
   ·have hck:wr.cell? ⟨b,off+j+k,none⟩=some (.int .u8 ((cs[k]'(by rw[HCL.out];exact hlt)).toNat:Int)):=by
     have h1:=HC.out (j+k) (by omega);rw[Nat.add_assoc,h1];simp only[HCS.out,List.getElem_take,List.getElem_drop];rfl
    obtain⟨c,hcc⟩:∃c,c=(cs[k]'(by rw[HCL.out];exact hlt)).toNat:=⟨_,rfl⟩;rw[←hcc]at hck;have hcl:c<256:=by rw[hcc];exact(cs[k]'(by rw[HCL.out];exact hlt)).toNat_lt
    have HCC:=Lib.hid hcc;clear hcc;have hx7:x<72057594037927936:=by rw[HX.out];exact B3i _ _ (by omega)
    go_wp2
    go_roundw
    case rel=>exact⟨k+1,x*256+c,by omega,by go_num,by go_num,by show _=_;rw[B9m cs k (by rw[HCL.out];exact hlt),←HX.out,←HCC.out],trivial⟩
    case measure=>simp[intOf];omega
   ·obtain rfl:k=m:=by omega
    go_wp2
    go_ret2;have h1:=HX.out;rw[List.take_of_length_le (by rw[HCL.out];omega)]at h1;rw[h1];exact⟨rfl,rfl⟩
theorem B5r(w:World)(a:Option Addr)(len cap:Nat)(bs:List UInt8)(v n:Nat)(hs:Sl A5f w a len bs)(hl:len≤1048576)(hcap:len≤cap)(hv:v<18446744073709551616)(n1:1≤n)(n2:n≤8):
  Calls Tryz.prog 157 #[.slice a len cap,.int .u64 v,.int .i64 n] w (D4z A5f 5 w.heap.size w (bs++A6t v n)):=by
 have HS:=Lib.hid hs;clear hs;have hd:decide (1≤(n:Int)∧(n:Int)≤8)=true:=decide_eq_true (by omega);have g5:(len:Int)≤(cap:Int):=by omega
 go_enter Tryz.func157,Tryz.ntmps157
 go_wp2_with fail
 refine(A3i _ n).mono ?_;rw[hd];rintro e w' ⟨rfl,rfl⟩
 go_wp2_with fail
 go_loopw [0,19] (fun s i wr=>∃k:Nat,k≤n∧i= .int .i64 k∧(k=0∧s= .slice a len len∨0<k∧Hid (wr.ownsRow w.heap.size 5 1 s (len+k) ((bs++(A6t v n).take k).map A5f)))∧Hid (Below w.heap.size w wr)) (fun _ i _=>n-(intOf i).toNat)
 case atStart=>exact⟨0,Nat.zero_le _,rfl,.inl ⟨rfl,rfl⟩,Below.refl _ _⟩
 case round=>
  obtain⟨k,hk,rfl,hor,HW⟩:=hrel;by_cases hlt:k<n
  ·rcases hor with⟨rfl,rfl⟩|⟨hk0,HO⟩
   ·go_wp2_with (at_builtin;refine A6v (enc:=A5f) E0r rfl _ _ rfl w.heap.size a len len bs rfl (HS.out.below HW.out) _ 1 _ rfl rfl rfl (by omega) (Nat.le_refl _) (by omega) (by unfold maxLen;omega) HW.out.size ?_;intro v1 w1 hown1 hb1;rw[C4q]at hown1;have HO1:=Lib.hid hown1;have HB1:=Lib.hid (HW.out.trans hb1);clear hown1 hb1)
    go_roundw
    case rel=>exact⟨1,by omega,by go_num,.inr ⟨by omega,by rw[C7p v n (by omega),List.map_append];simp only[List.map_cons,List.map_nil,B8z];exact HO1⟩,HB1⟩
    case measure=>simp[intOf];omega
   ·go_wp2_with (at_builtin;refine A6b E0r rfl _ _ rfl w.heap.size _ _ _ rfl HO.out _ 1 _ rfl rfl rfl (by omega) (by unfold maxLen;omega) HW.out.size ?_;intro v1 w1 hown1 hg1 hb1;rw[C4q]at hown1;have HO1:=Lib.hid hown1;have HB1:=Lib.hid (HW.out.trans hb1);clear hown1 hb1 hg1)
    go_roundw
    case rel=>exact⟨k+1,by omega,by go_num,.inr ⟨by omega,by rw[C0k v n k hlt,←List.append_assoc,List.map_append (l₁:=bs++_)];simp only[List.map_cons,List.map_nil,B8z];exact HO1⟩,HB1⟩
    case measure=>simp[intOf];omega
  ·obtain rfl:k=n:=by omega
   rcases hor with⟨rfl,rfl⟩|⟨hk0,HO⟩
   ·omega
   go_wp2
   go_ret;exact⟨_,_,rfl,by have h:=HO.out;rwa [List.take_of_length_le (by rw[A1z];omega)]at h,HW.out⟩
theorem D7y(w:World)(a:Option Addr)(len cap:Nat)(v n:Int)(hcap:len≤cap)(hn:n<1∨8<n):
  Calls Tryz.prog 157 #[.slice a len cap,.int .u64 v,.int .i64 n] w fun e w'=>e= .returned (.slice a len len)∧w=w':=by
 have hd:decide (1≤n∧n≤8)=false:=decide_eq_false (by omega);have g5:(len:Int)≤(cap:Int):=by omega
 go_enter Tryz.func157,Tryz.ntmps157
 go_wp2_with fail
 refine(A3i _ n).mono ?_;rw[hd];rintro e w' ⟨rfl,rfl⟩
 go_wp2
 go_ret;exact⟨rfl,rfl⟩
structure VW(w:World):Prop where
 m:∃m,w.cell? ⟨0,0,none⟩=some (.int .i64 m)
theorem B6t{w w':World}{a:Addr}{v:Value}(h:w.cell? a=some v)(hb:Below w.heap.size w w'):w'.cell? a=some v:=by
 have hlt:a.block<w.heap.size:=by
  rcases Nat.lt_or_ge a.block w.heap.size with h1|h1
  ·exact h1
  ·exfalso;have:w.heap[a.block]? =none:=Array.getElem?_eq_none (by omega);simp[World.cell?,this]at h
 rw[←h];unfold World.cell?;rw[hb.block _ hlt]
theorem VW.below{w w':World}(h:VW w)(hb:Below w.heap.size w w'):VW w':=by
 obtain⟨m,hm⟩:=h;exact⟨m,B6t hm hb⟩
theorem A7j(w:World):∀n,Below w.heap.size w (w.drewN n)
 |0=>Below.refl _ _
 |n+1=>(A7j w n).drew
theorem D0x(w:World):∀n,(w.drewN n).heap=w.heap
 |0=>rfl
 |n+1=>D0x w n
theorem C0t(s:ByteArray):(⟨s.data.toList.toArray⟩:ByteArray)=s:=by cases s;simp
def sp(c:UInt8):List UInt8→List (List UInt8)
 |[]=>[[]]
 |b::l=>if b=c then []::sp c l else match sp c l with|[]=>[[b]]|x::xs=>(b::x)::xs
theorem A6q(c:UInt8):Lib.index [] [c]= -1:=by unfold Lib.index;simp
theorem A5b(b c:UInt8)(l:List UInt8):Lib.index (b::l) [c]=if b=c then 0 else if Lib.index l [c]= -1 then-1 else Lib.index l [c]+1:=by
 rw[Lib.index];by_cases h:b=c
 ·subst h;simp
 ·have:¬c=b:=fun e=>h e.symm
  simp[h,this]
theorem C8k(c:UInt8):∀s,Lib.index s [c]= -1→sp c s=[s]
 |[],_=>rfl
 |b::l,h=>by
  rw[A5b]at h;split at h
  ·cases h
  ·next hb=>
   have hg:=Lib.index_ge l [c];split at h
   ·next h1=>simp[sp,hb,C8k c l h1]
   ·omega
theorem D5t(c:UInt8):∀s (i:Nat),Lib.index s [c]=i→sp c s=s.take i::sp c (s.drop (i+1))
 |[],i,h=>by rw[A6q]at h;omega
 |b::l,i,h=>by
  rw[A5b]at h;split at h
  ·next hb=>
         have:i=0:=by omega
         subst this;simp[sp,hb]
  ·next hb=>
   have hg:=Lib.index_ge l [c];split at h
   ·omega
   ·obtain⟨k,rfl⟩:∃k,i=k+1:=⟨i-1,by omega⟩;simp[sp,hb,D5t c l k (by omega)]
theorem D2b(c:UInt8):∀(n:Nat) (s:List UInt8),s.length≤n→Lib.splitK [c] 0 (Lib.count s [c]) s=sp c s∧(sp c s).length=Lib.count s [c]+1:=by
 intro n
 induction n with
 |zero=>
  intro s h;have:s=[]:=List.eq_nil_of_length_eq_zero (by omega);subst this;rw[Lib.count_miss (A6q c)];exact⟨rfl,rfl⟩
 |succ n ih=>
  intro s h;by_cases h1:Lib.index s [c]= -1
  ·rw[Lib.count_miss h1,C8k c s h1];exact⟨rfl,rfl⟩
  ·have hg:=Lib.index_ge s [c];obtain⟨i,hi⟩:∃i:Nat,Lib.index s [c]=i:=⟨(Lib.index s [c]).toNat,by omega⟩
   have hne:0<s.length:=by
    rcases Nat.eq_zero_or_pos s.length with h0|h0
    ·have:s=[]:=List.eq_nil_of_length_eq_zero h0;subst this;exact absurd (A6q c) h1
    ·exact h0
   obtain⟨e1,e2⟩:=ih (s.drop (i+1)) (by rw[List.length_drop];omega);rw[Lib.count_hit (by simp) hi,D5t c s i hi];constructor
   ·rw[Nat.add_comm,Lib.splitK,if_neg (by simp[hi]),hi];simp only[Int.toNat_natCast,Nat.add_zero,List.length_singleton];rw[e1]
   ·simp only[List.length_cons,List.length_nil,Nat.zero_add];rw[e2];omega
theorem D0w(w:World)(s:List UInt8)(c:UInt8)(hs:s.length≤4294967000)(hv:VW w):
  Calls Tryz.prog 84 #[.string ⟨s.toArray⟩,.string ⟨#[c]⟩] w fun e w'=>
   e= .returned (.slice (some ⟨w.heap.size,0,none⟩) (sp c s).length (sp c s).length)∧w'=w.alloc (.cells ((sp c s).map fun x=>Value.string ⟨x.toArray⟩).toArray 9):=by
 obtain⟨m,hm⟩:=hv.m;refine(Tryz.strings_Split ⟨s.toArray⟩ ⟨#[c]⟩ m w (by simp[ByteArray.size];omega) hm (Nat.le_refl 1)).mono ?_;rintro e w' ⟨rfl,rfl⟩;obtain⟨e1,e2⟩:=D2b c s.length s (Nat.le_refl _)
 have e3:=Lib.splitB_data ⟨#[c]⟩ 0 (Lib.countB ⟨s.toArray⟩ ⟨#[c]⟩) ⟨s.toArray⟩
 have e4:(Lib.splitB ⟨#[c]⟩ 0 (Lib.countB ⟨s.toArray⟩ ⟨#[c]⟩) ⟨s.toArray⟩).map Value.string=(sp c s).map fun x=>Value.string ⟨x.toArray⟩:=by
  rw[←e1];rw[show Lib.splitK [c] 0 (Lib.count s [c]) s=_ from e3.symm,List.map_map];refine List.map_congr_left fun x _=> ?_
  simp[C0t]
 rw[e2];exact⟨rfl,by rw[e4]⟩
theorem C4w(c:UInt8)(s:List UInt8)(h:Lib.index s [c]= -1):Lib.cut s [c]=(s,[],false):=by unfold Lib.cut;rw[if_neg (by omega)]
theorem C2b(c:UInt8)(s:List UInt8)(i:Nat)(h:Lib.index s [c]=i):Lib.cut s [c]=(s.take i,s.drop (i+1),true):=by unfold Lib.cut;rw[if_pos (by omega),h];simp
theorem D6a(w:World)(s:List UInt8)(c:UInt8)(hs:s.length≤4294967000)(hv:VW w):
  Calls Tryz.prog 96 #[.string ⟨s.toArray⟩,.string ⟨#[c]⟩] w fun e w'=>
   e= .returned (.tuple #[.string ⟨(Lib.cut s [c]).1.toArray⟩,.string ⟨(Lib.cut s [c]).2.1.toArray⟩,.bool (Lib.cut s [c]).2.2])∧Below w.heap.size w w'∧w'.heap=w.heap:=by
 obtain⟨m,hm⟩:=hv.m;refine(Tryz.strings_Cut ⟨s.toArray⟩ ⟨#[c]⟩ m w (by simp[ByteArray.size];omega) hm).mono ?_;rintro e w' ⟨rfl,n,rfl⟩;exact⟨rfl,A7j w n,D0x w n⟩
theorem B7x(xs ys:List UInt8):((⟨xs.toArray⟩:ByteArray)++(⟨ys.toArray⟩:ByteArray))=⟨(xs++ys).toArray⟩:=by
 apply ByteArray.ext;simp
end
end Go.Proofs.YtclpkipaehpkdaaGreatDoor
