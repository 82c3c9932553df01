/- asm: own texts, merged (wip/merge3.py). No condition. -/
import Derived.Test.YtclpkipaehpkdaaGreatDoorQ04AsmLifts
import Derived.Test.YtclpkipaehpkdaaGreatDoorQ06AsmLifts
import Derived.Test.YtclpkipaehpkdaaGreatDoorQ08AsmLifts
import Derived.StillTailTactics
import Derived.Deep.LoopGhost
import Derived.Deep.DeepCutAuto
import Derived.Test.YtclpkipaehpkdaaGreatDoorQ01AsmLifts
set_option linter.unusedVariables false
set_option linter.unusedSimpArgs false
set_option maxRecDepth 100000
set_option maxHeartbeats 64000000
namespace Go.Proofs.YtclpkipaehpkdaaGreatDoor
section
open Go.ChangeShapes Go.WideShapes Go.ChangeAt Go.RowKit
structure A0j(p:Nat→Prop)(w w':World):Prop where
 os:w'.os=w.os
 tape:w'.tape=w.tape
 output:w'.output=w.output
 size:w.heap.size≤w'.heap.size
 block:∀k,k<w.heap.size→¬p k→w'.heap[k]? =w.heap[k]?
theorem A0j.refl(p:Nat→Prop)(w:World):A0j p w w:=⟨rfl,rfl,rfl,Nat.le_refl _,fun _ _ _=>rfl⟩
theorem A0j.trans{p:Nat→Prop}{w w1 w2:World}(h:A0j p w w1)(k:A0j p w1 w2):A0j p w w2:=
 ⟨k.os.trans h.os,k.tape.trans h.tape,k.output.trans h.output,Nat.le_trans h.size k.size,fun i hi hg=>by rw[k.block i (Nat.lt_of_lt_of_le hi h.size) hg,h.block i hi hg]⟩
theorem A0j.of{p:Nat→Prop}{w w1:World}(h:Below w.heap.size w w1):A0j p w w1:=⟨h.os,h.tape,h.output,h.size,fun k hk _=>h.block k hk⟩
theorem A0j.weak{p q:Nat→Prop}{w w1:World}(h:A0j p w w1)(hpq:∀k,k<w.heap.size→p k→q k):A0j q w w1:=⟨h.os,h.tape,h.output,h.size,fun k hk hq=>h.block k hk (fun hp=>hq (hpq k hk hp))⟩
theorem A0j.set{p:Nat→Prop}{w w1:World}(h:A0j p w w1){g:Nat}(hg:p g∨w.heap.size≤g)(o:Nat)(v:Value):A0j p w (w1.setCell ⟨g,o,none⟩ v):=
 ⟨h.os,h.tape,h.output,by have:=h.size;unfold World.setCell;simpa using this,fun k hk hq=>by
  rw[←h.block k hk hq];unfold World.setCell
  have hne:¬g=k:=by
   rintro rfl
   rcases hg with h1|h1
   ·exact hq h1
   ·omega
  simp[Array.getElem?_modify,hne]⟩
theorem A0j.setg{w w1:World}{g:Nat}(h:A0j (fun x=>x=g) w w1)(o:Nat)(v:Value):A0j (fun x=>x=g) w (w1.setCell ⟨g,o,none⟩ v):=A0j.set h (Or.inl (rfl:g=g)) o v
theorem A0j.below{p:Nat→Prop}{B:Nat}{w0 w w':World}(h:A0j p w w')(hb:Below B w0 w)(hB:B≤w0.heap.size)(hp:∀k,p k→B≤k):Below B w0 w':=
 ⟨h.os.trans hb.os,h.tape.trans hb.tape,h.output.trans hb.output,Nat.le_trans hb.size h.size,fun k hk=>by
  rw[h.block k (Nat.lt_of_lt_of_le (Nat.lt_of_lt_of_le hk hB) hb.size) (fun hk2=>by have:=hp k hk2;omega)];exact hb.block k hk⟩
theorem A0j.row{p:Nat→Prop}{w w':World}(h:A0j p w w'){g:Nat}{o:Obj}(hg:w.heap[g]? =some o)(hp:¬p g):w'.heap[g]? =some o:=by
 rw[h.block g (Array.getElem?_eq_some_iff.1 hg).1 hp];exact hg
theorem A0j.ss{p:Nat→Prop}{α:Type}{z:Nat}{enc:α→List Value}{w w':World}{x:Option Addr}{n:Nat}{xs:List α}(h:A0j p w w')(hs:Ss z enc w x n xs)(h1:0<n→∀b off,x=some ⟨b,off,none⟩→¬p b):Ss z enc w' x n xs:=by
 refine⟨hs.1,fun hn=> ?_⟩;obtain⟨b,off,ha,hlt,hc⟩:=hs.2 hn;refine⟨b,off,ha,Nat.lt_of_lt_of_le hlt h.size,fun i hi j hj=> ?_⟩;rw[←hc i hi j hj];unfold World.cell?
 rw[h.block b hlt (h1 hn b off ha)]
theorem A0j.vw{p:Nat→Prop}{w w':World}(h:A0j p w w')(hv:VW w)(h0:¬p 0):VW w':=by
 obtain⟨m,hm⟩:=hv;refine⟨m,?_⟩
 have hlt:0<w.heap.size:=by
  rcases Nat.eq_zero_or_pos w.heap.size with h1|h1
  ·exfalso;have:w.heap[0]? =none:=Array.getElem?_eq_none (by omega);simp[World.cell?,this]at hm
  ·exact h1
 rw[←hm];unfold World.cell?;rw[h.block 0 hlt h0]
def B1h(x y:World):Prop:=y=x
def A2w(er:Int)(ok:Bool)(k:Int):Int:=if ok=false∧er=0 then k else er
structure LfS(w:World)(g:Nat)(a:Option Addr)(n cap:Nat)(L:List KV)(er:Int):Prop where
 k:B2b w g (.slice a n cap) (.int .i64 er) 72
 ks:Ks w a n L
 sm:n≤65536
 off:B1e a n g
 tx:∀i:Int,(kAt L i).s.length≤65536
 vw:VW w
 g0:0<g
theorem LfS.below{w w':World}{g:Nat}{a:Option Addr}{n cap:Nat}{L:List KV}{er:Int}(h:LfS w g a n cap L er)(hb:Below w.heap.size w w'):LfS w' g a n cap L er:=⟨h.k.below hb,h.ks.below hb,h.sm,h.off,h.tx,h.vw.below hb,h.g0⟩
theorem LfS.keep{p:Nat→Prop}{w w':World}{g:Nat}{a:Option Addr}{n cap:Nat}{L:List KV}{er:Int}(h:LfS w g a n cap L er)(hk:A0j p w w')(hg:¬p g)(h0:¬p 0)(ha:0<n→∀b off,a=some ⟨b,off,none⟩→¬p b):LfS w' g a n cap L er:=
 ⟨hk.row h.k hg,hk.ss h.ks ha,h.sm,h.off,h.tx,hk.vw h.vw h0,h.g0⟩
theorem LfS.lt{w:World}{g:Nat}{a:Option Addr}{n cap:Nat}{L:List KV}{er:Int}(h:LfS w g a n cap L er):g<w.heap.size:=h.k.box.lt
theorem LfS.set{w:World}{g:Nat}{a:Option Addr}{n cap:Nat}{L:List KV}{er:Int}(h:LfS w g a n cap L er)(e2:Int):LfS (w.setCell ⟨g,1,none⟩ (.int .i64 e2)) g a n cap L e2:=by
 have hk:A0j (·=g) w (w.setCell ⟨g,1,none⟩ (.int .i64 e2)):=(A0j.refl _ _).setg 1 _
 exact⟨h.k.set1,hk.ss h.ks (fun hn b off e=>h.off hn b off e),h.sm,h.off,h.tx,hk.vw h.vw (fun e=>by have:=h.g0;omega),h.g0⟩
def D6f(v:Value)(g:Nat)(a:Option Addr)(n cap:Nat)(L:List KV)(er:Int)(w:World)(e:Ending)(w':World):Prop:=e= .returned v∧LfS w' g a n cap L er∧A0j (·=g) w w'
theorem A3r{L:List KV}(h:∀i:Int,(kAt L i).s.length≤65536)(i:Int):(A1p L i).length≤65536:=by
 unfold A1p;split
 ·exact h i
 ·simp
theorem A2t{L:List KV}(h:∀i:Int,(kAt L i).s.length≤65536)(i:Int):(A0s L i).1.length≤65536:=by
 unfold A0s;split
 ·exact A3r h _
 ·simp
theorem A7g{L:List KV}(h:∀i:Int,(kAt L i).s.length≤65536)(i t:Int):(A1u L i t).1.length≤65536∧(A1u L i t).2.1.length≤65536∧(A1u L i t).2.2.1.length≤65536:=by
 unfold A1u;split
 ·exact⟨A2t h _,A3r h _,A3r h _⟩
 ·simp
theorem A4u(w:World)(g:Nat)(a:Option Addr)(n cap:Nat)(L:List KV)(er:Int)(ok:Bool)(k:Int)(h:LfS w g a n cap L er):
  Calls Tryz.prog 22 #[.pointer (some ⟨g,0,none⟩),.bool ok,.int .i64 k] w (D6f (.tuple #[]) g a n cap L (A2w er ok k) w):=by
 have H:=Lib.hid h;obtain⟨c0,c1,f0,f1,lt⟩:=h.k.box;clear h
 cases ok
 ·by_cases h0:er=0
  ·have e0:(er==0)=true:=by simpa using h0
   have HE:=Lib.hid (show A2w er false k=k by unfold A2w;rw[if_pos ⟨rfl,h0⟩]);generalize A2w er false k=E at*;obtain rfl:E=k:=HE.out;clear HE h0;go_enter Tryz.func22,Tryz.ntmps22
   go_wp2_with fail
   go_end0;exact⟨rfl,H.out.set E,(A0j.refl _ _).setg 1 _⟩
  ·have e0:(er==0)=false:=by simpa using h0
   have HE:A2w er false k=er:=by unfold A2w;rw[if_neg (fun h=>h0 h.2)]
   rw[HE];clear HE h0;go_enter Tryz.func22,Tryz.ntmps22
   go_wp2_with fail
   go_end0;exact⟨rfl,H.out,A0j.refl _ _⟩
 ·have HE:A2w er true k=er:=by unfold A2w;rw[if_neg (fun h=>absurd h.1 (by decide))]
  rw[HE];clear HE;go_enter Tryz.func22,Tryz.ntmps22
  go_wp2_with fail
  go_end0;exact⟨rfl,H.out,A0j.refl _ _⟩
theorem A9e(w:World)(g:Nat)(a:Option Addr)(n cap:Nat)(L:List KV)(er i:Int)(h:LfS w g a n cap L er):
  Calls Tryz.prog 21 #[.pointer (some ⟨g,0,none⟩),.int .i64 i] w fun e w'=>e= .returned (.string ⟨(A1p L i).toArray⟩)∧w'=w:=by
 have HT:=Lib.hid (B1t w a n cap L i h.ks h.sm);unfold A5i at HT;obtain⟨c0,c1,f0,f1,lt⟩:=h.k.box;generalize A1p L i=s at*;generalize isT L i 1=b at*;clear h
 go_enter Tryz.func21,Tryz.ntmps21
 go_wp2_with fail
 refine HT.out.mono ?_;rintro e w' ⟨rfl,rfl⟩
 go_wp2_with fail
 go_ret;exact⟨rfl,rfl⟩
def aclsB(L:List KV)(i:Int)(arr:Bool):Bool:=(A0s L i).2&&(classB (A0s L i).1||(arr&&A2z (A0s L i).1))
theorem A8d(w:World)(g:Nat)(a:Option Addr)(n cap:Nat)(L:List KV)(er i:Int)(arr:Bool)(h:LfS w g a n cap L er):
  Calls Tryz.prog 20 #[.pointer (some ⟨g,0,none⟩),.int .i64 i,.bool arr] w (D6f (.string ⟨(A0s L i).1.toArray⟩) g a n cap L (A2w er (aclsB L i arr) 8) w):=by
 have HC:=Lib.hid (B4y w a n cap L i h.ks h.sm);have HN:=Lib.hid (fun W ok (hb:Below w.heap.size w W)=>A4u W g a n cap L er ok 8 (h.below hb));have hsl:=A2t h.tx i
 have HI:=Lib.hid (fun W (hb:Below w.heap.size w W)=>A7b W (A0s L i).1 (by omega) (h.vw.below hb))
 have HA:=Lib.hid (fun W (hb:Below w.heap.size w W)=>A8r W (A0s L i).1 hsl (h.vw.below hb));have HB0:=Lib.hid (Below.refl w.heap.size w);unfold A4f at HC
 have HR:aclsB L i arr=((A0s L i).2&&(classB (A0s L i).1||(arr&&A2z (A0s L i).1))):=rfl;generalize aclsB L i arr=R at*;generalize classB (A0s L i).1=x1 at*
 generalize A2z (A0s L i).1=x2 at*;generalize(A0s L i).1=s1 at*;generalize(A0s L i).2=b1 at*;obtain⟨c0,c1,f0,f1,lt⟩:=h.k.box;clear h
 cases b1
 ·have hR:R=false:=HR;subst hR;clear HR;go_enter Tryz.func20,Tryz.ntmps20
  go_wp2_with fail
  refine HC.out.mono ?_;rintro e w1 ⟨rfl,rfl⟩
  go_wp2_with fail
  refine(HN.out w false HB0.out).mono ?_;rintro e w2 ⟨rfl,hs,hk⟩
  go_wp2_with fail
  go_ret;exact⟨rfl,hs,hk⟩
 ·cases x1
  ·cases arr
   ·have hR:R=false:=HR;subst hR;clear HR;go_enter Tryz.func20,Tryz.ntmps20
    go_wp2_with fail
    refine HC.out.mono ?_;rintro e w1 ⟨rfl,rfl⟩
    go_wp2_with fail
    refine(HI.out w HB0.out).mono ?_;rintro e w2 ⟨rfl,hb2⟩;have HB2:=Lib.hid hb2;clear hb2
    go_wp2_with fail
    refine(HN.out w2 false HB2.out).mono ?_;rintro e w3 ⟨rfl,hs,hk⟩
    go_wp2_with fail
    go_ret;exact⟨rfl,hs,(A0j.of HB2.out).trans hk⟩
   ·have hR:R=x2:=HR;subst hR;clear HR;go_enter Tryz.func20,Tryz.ntmps20
    go_wp2_with fail
    refine HC.out.mono ?_;rintro e w1 ⟨rfl,rfl⟩
    go_wp2_with fail
    refine(HI.out w HB0.out).mono ?_;rintro e w2 ⟨rfl,hb2⟩;have HB2:=Lib.hid hb2;clear hb2
    go_wp2_with fail
    refine(HA.out w2 HB2.out).mono ?_;rintro e w3 ⟨rfl,hb3⟩;have HB3:=Lib.hid (HB2.out.trans (hb3.mono HB2.out.size));clear hb3
    go_wp2_with fail
    refine(HN.out w3 R HB3.out).mono ?_;rintro e w4 ⟨rfl,hs,hk⟩
    go_wp2_with fail
    go_ret;exact⟨rfl,hs,(A0j.of HB3.out).trans hk⟩
  ·have hR:R=true:=HR;subst hR;clear HR;go_enter Tryz.func20,Tryz.ntmps20
   go_wp2_with fail
   refine HC.out.mono ?_;rintro e w1 ⟨rfl,rfl⟩
   go_wp2_with fail
   refine(HI.out w HB0.out).mono ?_;rintro e w2 ⟨rfl,hb2⟩;have HB2:=Lib.hid hb2;clear hb2
   go_wp2_with fail
   refine(HN.out w2 true HB2.out).mono ?_;rintro e w3 ⟨rfl,hs,hk⟩
   go_wp2_with fail
   go_ret;exact⟨rfl,hs,(A0j.of HB2.out).trans hk⟩
structure IN where
 op:Nat
 n:Int
 m:Int
 cl:List UInt8
 nm:List UInt8
 ds:List UInt8
 tx:List UInt8
abbrev A1f:=54
def IN.cells(x:IN):List Value:=[.int .u8 (x.op:Nat),.int .i64 x.n,.int .i64 x.m,.string ⟨x.cl.toArray⟩,.string ⟨x.nm.toArray⟩,.string ⟨x.ds.toArray⟩,.string ⟨x.tx.toArray⟩]
theorem IN.cells_length(x:IN):x.cells.length=7:=rfl
def A3w(g:Nat)(x:IN)(w:World):Prop:=w.heap[g]? =some (.cells x.cells.toArray A1f (0,0))
structure E1j(w:World)(g:Nat)(x:IN):Prop where
 c0:w.cell? ⟨g,0,none⟩=some (.int .u8 (x.op:Nat))
 c1:w.cell? ⟨g,1,none⟩=some (.int .i64 x.n)
 c2:w.cell? ⟨g,2,none⟩=some (.int .i64 x.m)
 c3:w.cell? ⟨g,3,none⟩=some (.string ⟨x.cl.toArray⟩)
 c4:w.cell? ⟨g,4,none⟩=some (.string ⟨x.nm.toArray⟩)
 c5:w.cell? ⟨g,5,none⟩=some (.string ⟨x.ds.toArray⟩)
 c6:w.cell? ⟨g,6,none⟩=some (.string ⟨x.tx.toArray⟩)
 f1:w.frozen? ⟨g,1,none⟩=false
 f2:w.frozen? ⟨g,2,none⟩=false
 f3:w.frozen? ⟨g,3,none⟩=false
 f4:w.frozen? ⟨g,4,none⟩=false
 f5:w.frozen? ⟨g,5,none⟩=false
 f6:w.frozen? ⟨g,6,none⟩=false
theorem A3w.box{g:Nat}{x:IN}{w:World}(h:A3w g x w):E1j w g x:=
 ⟨A0a h 0 rfl,A0a h 1 rfl,A0a h 2 rfl,A0a h 3 rfl,A0a h 4 rfl,A0a h 5 rfl,A0a h 6 rfl,A1a h 1,A1a h 2,A1a h 3,A1a h 4,A1a h 5,A1a h 6⟩
theorem A3w.lt{g:Nat}{x:IN}{w:World}(h:A3w g x w):g<w.heap.size:=A0u h
theorem A3w.below{g:Nat}{x:IN}{w w':World}(h:A3w g x w)(hb:Below w.heap.size w w'):A3w g x w':=A0c h hb
theorem A3w.keep{p:Nat→Prop}{g:Nat}{x:IN}{w w':World}(h:A3w g x w)(hk:A0j p w w')(hp:¬p g):A3w g x w':=hk.row h hp
theorem A3w.set1{g:Nat}{x:IN}{w:World}(h:A3w g x w)(v:Int):A3w g {x with n:=v} (w.setCell ⟨g,1,none⟩ (.int .i64 v)):=A1d h 1 _
theorem A3w.set2{g:Nat}{x:IN}{w:World}(h:A3w g x w)(v:Int):A3w g {x with m:=v} (w.setCell ⟨g,2,none⟩ (.int .i64 v)):=A1d h 2 _
theorem A3w.set3{g:Nat}{x:IN}{w:World}(h:A3w g x w)(v:List UInt8):A3w g {x with cl:=v} (w.setCell ⟨g,3,none⟩ (.string ⟨v.toArray⟩)):=A1d h 3 _
theorem A3w.set4{g:Nat}{x:IN}{w:World}(h:A3w g x w)(v:List UInt8):A3w g {x with nm:=v} (w.setCell ⟨g,4,none⟩ (.string ⟨v.toArray⟩)):=A1d h 4 _
theorem A3w.set5{g:Nat}{x:IN}{w:World}(h:A3w g x w)(v:List UInt8):A3w g {x with ds:=v} (w.setCell ⟨g,5,none⟩ (.string ⟨v.toArray⟩)):=A1d h 5 _
theorem A3w.set6{g:Nat}{x:IN}{w:World}(h:A3w g x w)(v:List UInt8):A3w g {x with tx:=v} (w.setCell ⟨g,6,none⟩ (.string ⟨v.toArray⟩)):=A1d h 6 _
def B0n(L:List KV)(x:IN)(at_:Nat):IN:=
 if(kAt L at_).tag=3 then{x with ds:=[73],n:=(kAt L at_).n}
 else if(kAt L at_).tag=5 then{x with ds:=[74],n:=(kAt L at_).n}
 else if(kAt L at_).tag=8 then{x with ds:=[83],tx:=A1p L (kAt L at_).a}
 else x
def B1d(x:IN):Bool:= !x.ds.isEmpty&&(decide (x.ds=[74])==decide (x.op=20))
structure LfI(w:World)(g:Nat)(a:Option Addr)(n cap:Nat)(L:List KV)(er:Int)(gx:Nat)(x:IN):Prop where
 k:LfS w g a n cap L er
 i:A3w gx x w
 ne:gx≠g
 z:0<gx
 off:B1e a n gx
theorem LfI.below{w w':World}{g:Nat}{a:Option Addr}{n cap:Nat}{L:List KV}{er:Int}{gx:Nat}{x:IN}(h:LfI w g a n cap L er gx x)(hb:Below w.heap.size w w'):LfI w' g a n cap L er gx x:=⟨h.k.below hb,h.i.below hb,h.ne,h.z,h.off⟩
theorem LfI.put{w:World}{g:Nat}{a:Option Addr}{n cap:Nat}{L:List KV}{er:Int}{gx:Nat}{x x':IN}(h:LfI w g a n cap L er gx x)(o:Nat)(v:Value)(hi:A3w gx x' (w.setCell ⟨gx,o,none⟩ v)):LfI (w.setCell ⟨gx,o,none⟩ v) g a n cap L er gx x':=by
 have hk:A0j (fun k=>k=gx) w (w.setCell ⟨gx,o,none⟩ v):=(A0j.refl _ _).setg o v
 exact⟨h.k.keep hk (fun e=>h.ne e.symm) (fun e=>by have:=h.z;omega) (fun hn b off e=>h.off hn b off e),hi,h.ne,h.z,h.off⟩
def D5g(g:Nat)(a:Option Addr)(n cap:Nat)(L:List KV)(er:Int)(gx:Nat)(x:IN)(w:World)(e:Ending)(w':World):Prop:=e= .returned (.tuple #[])∧LfI w' g a n cap L er gx x∧A0j (fun k=>k=g∨k=gx) w w'
def C3j(gc:Nat)(c:KV)(w:World):Prop:=w.heap[gc]? =some (.cells c.cells.toArray 61 (0,0))
structure E1h(w:World)(g:Nat)(c:KV):Prop where
 c0:w.cell? ⟨g,0,none⟩=some (.int .i64 c.tag)
 c1:w.cell? ⟨g,1,none⟩=some (.int .i64 c.a)
 c3:w.cell? ⟨g,3,none⟩=some (.int .i64 c.n)
theorem C3j.box{gc:Nat}{c:KV}{w:World}(h:C3j gc c w):E1h w gc c:=⟨A0a h 0 rfl,A0a h 1 rfl,A0a h 3 rfl⟩
def E0z(w0:World)(c:KV)(g:Nat)(a:Option Addr)(n cap:Nat)(L:List KV)(er:Int)(gx:Nat)(x:IN)(gc:Nat)(w:World):Prop:=LfI w g a n cap L er gx x∧C3j gc c w∧Below w0.heap.size w0 w∧gc=w0.heap.size
theorem C5j(w:World)(g:Nat)(a:Option Addr)(n cap:Nat)(L:List KV)(er:Int)(gx:Nat)(x:IN)(at_:Nat)(hat:at_<1048576)(h:LfI w g a n cap L er gx x):
  Calls Tryz.prog 103 #[.pointer (some ⟨g,0,none⟩),.pointer (some ⟨gx,0,none⟩),.int .i64 at_] w (D5g g a n cap L (A2w er (B1d (B0n L x at_)) 8) gx (B0n L x at_) w):=by
 have H:=Lib.hid h;have hnn:n=L.length:=h.k.ks.1.symm;have HN:=Lib.hid hnn;have hsm:=h.k.sm;obtain⟨c,hc⟩:∃c,c=kAt L at_:=⟨_,rfl⟩;have HC:=Lib.hid hc
 have HX:=Lib.hid (show B0n L x at_=if c.tag=3 then{x with ds:=[73],n:=c.n}else if c.tag=5 then{x with ds:=[74],n:=c.n}else if c.tag=8 then{x with ds:=[83],tx:=A1p L c.a}else x by rw[hc];rfl)
 obtain⟨x',hx'⟩:∃x',x'=B0n L x at_:=⟨_,rfl⟩;rw[←hx']at HX⊢;obtain⟨k0,k1,q0,q1,klt⟩:=h.k.k.box;have hb0:(0:Int)≤at_:=by omega
 have hb2:(at_:Int)<1048576:=by omega
 clear h hc hx' hnn;by_cases hlt:at_<n
 ·have hl1:(at_:Int)<n:=by omega
  obtain⟨b1,o1,rfl,hb1,p⟩:=H.out.k.ks.at at_ hlt;rw[←HC.out]at p;obtain⟨p0,p1,p2,p3,p4⟩:=p;clear hlt;go_enter Tryz.func103,Tryz.ntmps103
  go_upto_region 3 with fail
  have hbA:Below w.heap.size w (w.alloc (.cells #[.int .i64 c.tag,.int .i64 c.a,.int .i64 c.b,.int .i64 c.n,.string ⟨c.s.toArray⟩] 61)):=(Below.refl _ _).alloc (Nat.le_refl _) _
  have HCA:=Lib.hid (show E0z w c g (some ⟨b1,o1,none⟩) n cap L er gx x w.heap.size (w.alloc (.cells #[.int .i64 c.tag,.int .i64 c.a,.int .i64 c.b,.int .i64 c.n,.string ⟨c.s.toArray⟩] 61))from⟨H.out.below hbA,heap_alloc_last w _,hbA,rfl⟩)
  generalize(some ⟨b1,o1,none⟩:Option Addr)=a at*;generalize w.alloc (.cells #[.int .i64 c.tag,.int .i64 c.a,.int .i64 c.b,.int .i64 c.n,.string ⟨c.s.toArray⟩] 61)=W at*
  clear hbA p0 p1 p2 p3 p4 k0 k1 q0 q1 klt hb0 hb2 hl1 hb1;generalize w.heap.size=gc at*;have HNE:=Lib.hid (show gc≠gx by have:=HCA.out.2.2.2;have:=H.out.i.lt;omega)
  obtain⟨p0,p1,p3⟩:=HCA.out.2.1.box;by_cases h3:c.tag=3
  ·have e3:(c.tag==3)=true:=by rw[h3];rfl
   have HXE:=Lib.hid (show x'={x with ds:=[73],n:=c.n} by rw[HX.out,if_pos h3]);clear HX h3;have hlf0:=HCA.out.1;obtain⟨i0,i1,i2,i3,i4,i5,i6,f1,f2,f3,f4,f5,f6⟩:=hlf0.i.box
   have lc:∀w',C3j gc c w'→w'.cell? ⟨gc,3,none⟩=some (.int .i64 c.n):=fun w' h=>h.box.c3
   go_upto_region 5 with fail
   have hSw:C3j gc c W.drew:=HCA.out.2.1
   refine A0g (C3j gc c) (.of [(0,true),(1,true),(2,true),(3,true),(4,true),(5,true),(6,false),(7,true),(8,true),(9,false)] (.stir [])) (by kernel_rfl) (by kernel_rfl) (fun c a d v w h=>by cases d<;>exact h) ?_
   iterate 6
    refine A0b fun K hK=>tkF ?_
    go_simp
    try go_bits
    refine hK _ _ ?_;clear hK K
   refine A0b fun K hK=>alF ?_
   go_step
   have hl1:LfI (W.drew.setCell ⟨gx,5,none⟩ (.string ⟨#[73]⟩)) g a n cap L er gx {x with ds:=[73]}:=(HCA.out.1.below ((Below.refl _ _).drew)).put 5 _ ((HCA.out.1.i.below ((Below.refl _ _).drew)).set5 [73])
   have hc1:C3j gc c (W.drew.setCell ⟨gx,5,none⟩ (.string ⟨#[73]⟩)):=A1c HCA.out.2.1 HNE.out _ _
   have hk1:A0j (fun k=>k=g∨k=gx) w (W.drew.setCell ⟨gx,5,none⟩ (.string ⟨#[73]⟩)):=((A0j.of HCA.out.2.2.1).trans (A0j.of ((Below.refl _ _).drew))).set (.inl (.inr rfl)) 5 _
   first|refine⟨hc1,hK _ _ ?_⟩|skip
   clear hK K i0 i1 i2 i3 i4 i5 i6 f1 f2 f3 f4 f5 f6;change A4z _ _ _ _ _ _ (W.drew.setCell ⟨gx,5,none⟩ (.string ⟨#[73]⟩));generalize W.drew.setCell ⟨gx,5,none⟩ (.string ⟨#[73]⟩)=W1 at*
   have hSw:C3j gc c W1:=hc1;obtain⟨i0,i1,i2,i3,i4,i5,i6,f1,f2,f3,f4,f5,f6⟩:=hl1.i.box
   iterate 2
    refine A0b fun K hK=>tkF ?_
    go_simp
    try go_bits
    refine hK _ _ ?_;clear hK K
   refine A0b fun K hK=>alF ?_
   go_step
   have hl2:LfI (W1.setCell ⟨gx,1,none⟩ (.int .i64 c.n)) g a n cap L er gx x':=by
    have:=hl1.put 1 (.int .i64 c.n) (hl1.i.set1 c.n);rw[HXE.out];exact this
   have hc2:C3j gc c (W1.setCell ⟨gx,1,none⟩ (.int .i64 c.n)):=A1c hc1 HNE.out _ _
   have hk2:A0j (fun k=>k=g∨k=gx) w (W1.setCell ⟨gx,1,none⟩ (.int .i64 c.n)):=hk1.set (.inl (.inr rfl)) 1 _
   first|refine⟨hc2,hK _ _ ?_⟩|skip
   clear hK K i0 i1 i2 i3 i4 i5 i6 f1 f2 f3 f4 f5 f6;generalize W1.setCell ⟨gx,1,none⟩ (.int .i64 c.n)=W2 at*;refine A0m (B1h W2) (fun y hy=>by obtain rfl:y=W2:=hy;exact hc2) rfl ?_
   refine A0p (fun yy hy=> ?_);obtain rfl:W2=yy:=Eq.symm hy;have HL:=Lib.hid hl2;have HK:=Lib.hid hk2;clear hl1 hc1 hk1 hl2 hc2 hk2 lc hlf0
   obtain⟨i0,i1,i2,i3,i4,i5,i6,f1,f2,f3,f4,f5,f6⟩:=HL.out.i.box;obtain⟨D,hD⟩:∃D,D=x'.ds:=⟨_,rfl⟩
   have li0:∀w',A3w gx x' w'→w'.cell? ⟨gx,0,none⟩=some (.int .u8 (x'.op:Nat)):=fun w' h=>h.box.c0
   have li5:∀w',A3w gx x' w'→w'.cell? ⟨gx,5,none⟩=some (.string ⟨D.toArray⟩):=fun w' h=>by rw[hD];exact h.box.c5
   have HCC:=Lib.hid (show B1d x'=(!D.isEmpty&&(decide (D=[74])==decide (x'.op=20))) by rw[hD];rfl)
   have HNE2:=Lib.hid (fun ok=>A4u W2.drew g a n cap L er ok 8 (HL.out.k.below ((Below.refl _ _).drew)));generalize B1d x'=CC at*;generalize x'.op=xo at*
   clear hD i0 i1 i2 i3 i4 i5 i6 f1 f2 f3 f4 f5 f6
   go_upto_region 10 with fail
   cases D with
   |nil=>
    have hCC:CC=false:=HCC.out;subst hCC;have hSw:A3w gx x' W2.drew:=HL.out.i
    refine A0g (A3w gx x') (.of [(0,true),(1,true),(2,true),(3,true),(4,true),(5,true),(6,true),(7,true),(8,true),(9,true),(10,true),(11,true),(12,true),(13,true),(14,true),(15,true),(16,true),(17,true),(18,true),(19,false)] (.stir [])) (by kernel_rfl) (by kernel_rfl) (fun c a d v w h=>by cases d<;>exact h) ?_
    iterate 7
     refine A0b fun K hK=>tkF ?_
     go_simp
     try go_bits
     refine hK _ _ ?_;clear hK K
    iterate 11
     refine A0b fun K hK=>skF ?_
     go_simp;refine hK _ _ ?_;clear hK K
    iterate 1
     refine A0b fun K hK=>tkF ?_
     go_simp
     try go_bits
     refine hK _ _ ?_;clear hK K
    refine A0b fun K hK=>alF ?_
    go_step;refine(HNE2.out false).mono ?_;rintro e W3 ⟨rfl,h3,k3⟩
    have HL3:=Lib.hid (show LfI W3 g a n cap L (A2w er false 8) gx x' from⟨h3,(HL.out.i.below ((Below.refl _ _).drew)).keep k3 HL.out.ne,HL.out.ne,HL.out.z,HL.out.off⟩)
    have HK3:=Lib.hid ((HK.out.trans (A0j.of ((Below.refl _ _).drew))).trans (k3.weak (fun k _ e=>Or.inl e)));clear h3 k3;go_simp
    first|refine⟨HL3.out.i,hK _ _ ?_⟩|skip
    clear hK K;refine A0m (B1h W3) (fun y hy=>by obtain rfl:y=W3:=hy;exact HL3.out.i) rfl ?_;refine A0p (fun yy hy=> ?_);obtain rfl:W3=yy:=Eq.symm hy
    go_wp2_with fail
    go_end0;exact⟨rfl,HL3.out,HK3.out⟩
   |cons d0 D0=>
    obtain⟨y74,hy74⟩:∃y,y=decide (d0::D0=[74]):=⟨_,rfl⟩;obtain⟨y20,hy20⟩:∃y,y=decide (xo=20):=⟨_,rfl⟩
    have e74:(d0::D0==[74])=y74:=by rw[hy74,Bool.eq_iff_iff,beq_iff_eq,decide_eq_true_iff]
    have e20:((xo:Int)==20)=y20:=by rw[hy20,Bool.eq_iff_iff,beq_iff_eq,decide_eq_true_iff];omega
    have hCC:CC=(y74==y20):=by rw[HCC.out,hy74,hy20];rfl
    subst hCC;clear hy74 hy20 HCC;have hSw:A3w gx x' W2.drew:=HL.out.i
    refine A0g (A3w gx x') (.of [(0,true),(1,true),(2,true),(3,true),(4,true),(5,true),(6,true),(7,true),(8,true),(9,true),(10,true),(11,true),(12,true),(13,true),(14,true),(15,true),(16,true),(17,true),(18,true),(19,false)] (.stir [])) (by kernel_rfl) (by kernel_rfl) (fun c a d v w h=>by cases d<;>exact h) ?_
    iterate 19
     refine A0b fun K hK=>tkF ?_
     go_simp
     try go_bits
     refine hK _ _ ?_;clear hK K
    refine A0b fun K hK=>alF ?_
    go_step;refine(HNE2.out (y74==y20)).mono ?_;rintro e W3 ⟨rfl,h3,k3⟩
    have HL3:=Lib.hid (show LfI W3 g a n cap L (A2w er (y74==y20) 8) gx x' from⟨h3,(HL.out.i.below ((Below.refl _ _).drew)).keep k3 HL.out.ne,HL.out.ne,HL.out.z,HL.out.off⟩)
    have HK3:=Lib.hid ((HK.out.trans (A0j.of ((Below.refl _ _).drew))).trans (k3.weak (fun k _ e=>Or.inl e)));clear h3 k3;go_simp
    first|refine⟨HL3.out.i,hK _ _ ?_⟩|skip
    clear hK K;refine A0m (B1h W3) (fun y hy=>by obtain rfl:y=W3:=hy;exact HL3.out.i) rfl ?_;refine A0p (fun yy hy=> ?_);obtain rfl:W3=yy:=Eq.symm hy
    go_wp2_with fail
    go_end0;exact⟨rfl,HL3.out,HK3.out⟩
  ·have e3:(c.tag==3)=false:=by simpa using h3
   by_cases h5:c.tag=5
   ·have e5:(c.tag==5)=true:=by rw[h5];rfl
    have HXE:=Lib.hid (show x'={x with ds:=[74],n:=c.n} by rw[HX.out,if_neg h3,if_pos h5]);clear HX h3 h5;have hlf0:=HCA.out.1
    obtain⟨i0,i1,i2,i3,i4,i5,i6,f1,f2,f3,f4,f5,f6⟩:=hlf0.i.box;have lc:∀w',C3j gc c w'→w'.cell? ⟨gc,3,none⟩=some (.int .i64 c.n):=fun w' h=>h.box.c3
    go_upto_region 7 with fail
    have hSw:C3j gc c W.drew:=HCA.out.2.1
    refine A0g (C3j gc c) (.of [(0,true),(1,true),(2,true),(3,true),(4,true),(5,true),(6,false),(7,true),(8,true),(9,false)] (.stir [])) (by kernel_rfl) (by kernel_rfl) (fun c a d v w h=>by cases d<;>exact h) ?_
    iterate 6
     refine A0b fun K hK=>tkF ?_
     go_simp
     try go_bits
     refine hK _ _ ?_;clear hK K
    refine A0b fun K hK=>alF ?_
    go_step
    have hl1:LfI (W.drew.setCell ⟨gx,5,none⟩ (.string ⟨#[74]⟩)) g a n cap L er gx {x with ds:=[74]}:=(HCA.out.1.below ((Below.refl _ _).drew)).put 5 _ ((HCA.out.1.i.below ((Below.refl _ _).drew)).set5 [74])
    have hc1:C3j gc c (W.drew.setCell ⟨gx,5,none⟩ (.string ⟨#[74]⟩)):=A1c HCA.out.2.1 HNE.out _ _
    have hk1:A0j (fun k=>k=g∨k=gx) w (W.drew.setCell ⟨gx,5,none⟩ (.string ⟨#[74]⟩)):=((A0j.of HCA.out.2.2.1).trans (A0j.of ((Below.refl _ _).drew))).set (.inl (.inr rfl)) 5 _
    first|refine⟨hc1,hK _ _ ?_⟩|skip
    clear hK K i0 i1 i2 i3 i4 i5 i6 f1 f2 f3 f4 f5 f6;change A4z _ _ _ _ _ _ (W.drew.setCell ⟨gx,5,none⟩ (.string ⟨#[74]⟩));generalize W.drew.setCell ⟨gx,5,none⟩ (.string ⟨#[74]⟩)=W1 at*
    have hSw:C3j gc c W1:=hc1;obtain⟨i0,i1,i2,i3,i4,i5,i6,f1,f2,f3,f4,f5,f6⟩:=hl1.i.box
    iterate 2
     refine A0b fun K hK=>tkF ?_
     go_simp
     try go_bits
     refine hK _ _ ?_;clear hK K
    refine A0b fun K hK=>alF ?_
    go_step
    have hl2:LfI (W1.setCell ⟨gx,1,none⟩ (.int .i64 c.n)) g a n cap L er gx x':=by
     have:=hl1.put 1 (.int .i64 c.n) (hl1.i.set1 c.n);rw[HXE.out];exact this
    have hc2:C3j gc c (W1.setCell ⟨gx,1,none⟩ (.int .i64 c.n)):=A1c hc1 HNE.out _ _
    have hk2:A0j (fun k=>k=g∨k=gx) w (W1.setCell ⟨gx,1,none⟩ (.int .i64 c.n)):=hk1.set (.inl (.inr rfl)) 1 _
    first|refine⟨hc2,hK _ _ ?_⟩|skip
    clear hK K i0 i1 i2 i3 i4 i5 i6 f1 f2 f3 f4 f5 f6;generalize W1.setCell ⟨gx,1,none⟩ (.int .i64 c.n)=W2 at*;refine A0m (B1h W2) (fun y hy=>by obtain rfl:y=W2:=hy;exact hc2) rfl ?_
    refine A0p (fun yy hy=> ?_);obtain rfl:W2=yy:=Eq.symm hy;have HL:=Lib.hid hl2;have HK:=Lib.hid hk2;clear hl1 hc1 hk1 hl2 hc2 hk2 lc hlf0
    obtain⟨i0,i1,i2,i3,i4,i5,i6,f1,f2,f3,f4,f5,f6⟩:=HL.out.i.box;obtain⟨D,hD⟩:∃D,D=x'.ds:=⟨_,rfl⟩
    have li0:∀w',A3w gx x' w'→w'.cell? ⟨gx,0,none⟩=some (.int .u8 (x'.op:Nat)):=fun w' h=>h.box.c0
    have li5:∀w',A3w gx x' w'→w'.cell? ⟨gx,5,none⟩=some (.string ⟨D.toArray⟩):=fun w' h=>by rw[hD];exact h.box.c5
    have HCC:=Lib.hid (show B1d x'=(!D.isEmpty&&(decide (D=[74])==decide (x'.op=20))) by rw[hD];rfl)
    have HNE2:=Lib.hid (fun ok=>A4u W2.drew g a n cap L er ok 8 (HL.out.k.below ((Below.refl _ _).drew)));generalize B1d x'=CC at*;generalize x'.op=xo at*
    clear hD i0 i1 i2 i3 i4 i5 i6 f1 f2 f3 f4 f5 f6
    go_upto_region 10 with fail
    cases D with
    |nil=>
     have hCC:CC=false:=HCC.out;subst hCC;have hSw:A3w gx x' W2.drew:=HL.out.i
     refine A0g (A3w gx x') (.of [(0,true),(1,true),(2,true),(3,true),(4,true),(5,true),(6,true),(7,true),(8,true),(9,true),(10,true),(11,true),(12,true),(13,true),(14,true),(15,true),(16,true),(17,true),(18,true),(19,false)] (.stir [])) (by kernel_rfl) (by kernel_rfl) (fun c a d v w h=>by cases d<;>exact h) ?_
     iterate 7
      refine A0b fun K hK=>tkF ?_
      go_simp
      try go_bits
      refine hK _ _ ?_;clear hK K
     iterate 11
      refine A0b fun K hK=>skF ?_
      go_simp;refine hK _ _ ?_;clear hK K
     iterate 1
      refine A0b fun K hK=>tkF ?_
      go_simp
      try go_bits
      refine hK _ _ ?_;clear hK K
     refine A0b fun K hK=>alF ?_
     go_step;refine(HNE2.out false).mono ?_;rintro e W3 ⟨rfl,h3,k3⟩
     have HL3:=Lib.hid (show LfI W3 g a n cap L (A2w er false 8) gx x' from⟨h3,(HL.out.i.below ((Below.refl _ _).drew)).keep k3 HL.out.ne,HL.out.ne,HL.out.z,HL.out.off⟩)
     have HK3:=Lib.hid ((HK.out.trans (A0j.of ((Below.refl _ _).drew))).trans (k3.weak (fun k _ e=>Or.inl e)));clear h3 k3;go_simp
     first|refine⟨HL3.out.i,hK _ _ ?_⟩|skip
     clear hK K;refine A0m (B1h W3) (fun y hy=>by obtain rfl:y=W3:=hy;exact HL3.out.i) rfl ?_;refine A0p (fun yy hy=> ?_);obtain rfl:W3=yy:=Eq.symm hy
     go_wp2_with fail
     go_end0;exact⟨rfl,HL3.out,HK3.out⟩
    |cons d0 D0=>
     obtain⟨y74,hy74⟩:∃y,y=decide (d0::D0=[74]):=⟨_,rfl⟩;obtain⟨y20,hy20⟩:∃y,y=decide (xo=20):=⟨_,rfl⟩
     have e74:(d0::D0==[74])=y74:=by rw[hy74,Bool.eq_iff_iff,beq_iff_eq,decide_eq_true_iff]
     have e20:((xo:Int)==20)=y20:=by rw[hy20,Bool.eq_iff_iff,beq_iff_eq,decide_eq_true_iff];omega
     have hCC:CC=(y74==y20):=by rw[HCC.out,hy74,hy20];rfl
     subst hCC;clear hy74 hy20 HCC;have hSw:A3w gx x' W2.drew:=HL.out.i
     refine A0g (A3w gx x') (.of [(0,true),(1,true),(2,true),(3,true),(4,true),(5,true),(6,true),(7,true),(8,true),(9,true),(10,true),(11,true),(12,true),(13,true),(14,true),(15,true),(16,true),(17,true),(18,true),(19,false)] (.stir [])) (by kernel_rfl) (by kernel_rfl) (fun c a d v w h=>by cases d<;>exact h) ?_
     iterate 19
      refine A0b fun K hK=>tkF ?_
      go_simp
      try go_bits
      refine hK _ _ ?_;clear hK K
     refine A0b fun K hK=>alF ?_
     go_step;refine(HNE2.out (y74==y20)).mono ?_;rintro e W3 ⟨rfl,h3,k3⟩
     have HL3:=Lib.hid (show LfI W3 g a n cap L (A2w er (y74==y20) 8) gx x' from⟨h3,(HL.out.i.below ((Below.refl _ _).drew)).keep k3 HL.out.ne,HL.out.ne,HL.out.z,HL.out.off⟩)
     have HK3:=Lib.hid ((HK.out.trans (A0j.of ((Below.refl _ _).drew))).trans (k3.weak (fun k _ e=>Or.inl e)));clear h3 k3;go_simp
     first|refine⟨HL3.out.i,hK _ _ ?_⟩|skip
     clear hK K;refine A0m (B1h W3) (fun y hy=>by obtain rfl:y=W3:=hy;exact HL3.out.i) rfl ?_;refine A0p (fun yy hy=> ?_);obtain rfl:W3=yy:=Eq.symm hy
     go_wp2_with fail
     go_end0;exact⟨rfl,HL3.out,HK3.out⟩
   ·have e5:(c.tag==5)=false:=by simpa using h5
    by_cases h8:c.tag=8
    ·have e8:(c.tag==8)=true:=by rw[h8];rfl
     have HXE:=Lib.hid (show x'={x with ds:=[83],tx:=A1p L c.a} by rw[HX.out,if_neg h3,if_neg h5,if_pos h8]);have HT:=Lib.hid (A9e W g a n cap L er c.a HCA.out.1.k)
     obtain⟨i0,i1,i2,i3,i4,i5,i6,f1,f2,f3,f4,f5,f6⟩:=HCA.out.1.i.box;generalize A1p L c.a=s at*;clear HX h3 h5 h8
     go_wp2_with fail
     refine HT.out.mono ?_;rintro e W0 ⟨rfl,rfl⟩
     go_upto_region 10 with fail
     have hl1:=HCA.out.1.put 5 (.string ⟨[83].toArray⟩) (HCA.out.1.i.set5 [83]);have hl2:=hl1.put 6 (.string ⟨s.toArray⟩) (hl1.i.set6 s)
     have HL:=Lib.hid (show LfI ((W0.setCell ⟨gx,5,none⟩ (.string ⟨#[83]⟩)).setCell ⟨gx,6,none⟩ (.string ⟨s.toArray⟩)) g a n cap L er gx x' by rw[HXE.out];exact hl2)
     have HK:=Lib.hid (show A0j (fun k=>k=g∨k=gx) w ((W0.setCell ⟨gx,5,none⟩ (.string ⟨#[83]⟩)).setCell ⟨gx,6,none⟩ (.string ⟨s.toArray⟩))from((A0j.of HCA.out.2.2.1).set (.inl (.inr rfl)) 5 _).set (.inl (.inr rfl)) 6 _)
     clear hl1 hl2 i0 i1 i2 i3 i4 i5 i6 f1 f2 f3 f4 f5 f6;generalize(W0.setCell ⟨gx,5,none⟩ (.string ⟨#[83]⟩)).setCell ⟨gx,6,none⟩ (.string ⟨s.toArray⟩)=W2 at*
     obtain⟨i0,i1,i2,i3,i4,i5,i6,f1,f2,f3,f4,f5,f6⟩:=HL.out.i.box;obtain⟨D,hD⟩:∃D,D=x'.ds:=⟨_,rfl⟩
     have li0:∀w',A3w gx x' w'→w'.cell? ⟨gx,0,none⟩=some (.int .u8 (x'.op:Nat)):=fun w' h=>h.box.c0
     have li5:∀w',A3w gx x' w'→w'.cell? ⟨gx,5,none⟩=some (.string ⟨D.toArray⟩):=fun w' h=>by rw[hD];exact h.box.c5
     have HCC:=Lib.hid (show B1d x'=(!D.isEmpty&&(decide (D=[74])==decide (x'.op=20))) by rw[hD];rfl)
     have HNE2:=Lib.hid (fun ok=>A4u W2.drew g a n cap L er ok 8 (HL.out.k.below ((Below.refl _ _).drew)));generalize B1d x'=CC at*;generalize x'.op=xo at*
     clear hD i0 i1 i2 i3 i4 i5 i6 f1 f2 f3 f4 f5 f6
     go_upto_region 10 with fail
     cases D with
     |nil=>
      have hCC:CC=false:=HCC.out;subst hCC;have hSw:A3w gx x' W2.drew:=HL.out.i
      refine A0g (A3w gx x') (.of [(0,true),(1,true),(2,true),(3,true),(4,true),(5,true),(6,true),(7,true),(8,true),(9,true),(10,true),(11,true),(12,true),(13,true),(14,true),(15,true),(16,true),(17,true),(18,true),(19,false)] (.stir [])) (by kernel_rfl) (by kernel_rfl) (fun c a d v w h=>by cases d<;>exact h) ?_
      iterate 7
       refine A0b fun K hK=>tkF ?_
       go_simp
       try go_bits
       refine hK _ _ ?_;clear hK K
      iterate 11
       refine A0b fun K hK=>skF ?_
       go_simp;refine hK _ _ ?_;clear hK K
      iterate 1
       refine A0b fun K hK=>tkF ?_
       go_simp
       try go_bits
       refine hK _ _ ?_;clear hK K
      refine A0b fun K hK=>alF ?_
      go_step;refine(HNE2.out false).mono ?_;rintro e W3 ⟨rfl,h3,k3⟩
      have HL3:=Lib.hid (show LfI W3 g a n cap L (A2w er false 8) gx x' from⟨h3,(HL.out.i.below ((Below.refl _ _).drew)).keep k3 HL.out.ne,HL.out.ne,HL.out.z,HL.out.off⟩)
      have HK3:=Lib.hid ((HK.out.trans (A0j.of ((Below.refl _ _).drew))).trans (k3.weak (fun k _ e=>Or.inl e)));clear h3 k3;go_simp
      first|refine⟨HL3.out.i,hK _ _ ?_⟩|skip
      clear hK K;refine A0m (B1h W3) (fun y hy=>by obtain rfl:y=W3:=hy;exact HL3.out.i) rfl ?_;refine A0p (fun yy hy=> ?_);obtain rfl:W3=yy:=Eq.symm hy
      go_wp2_with fail
      go_end0;exact⟨rfl,HL3.out,HK3.out⟩
     |cons d0 D0=>
      obtain⟨y74,hy74⟩:∃y,y=decide (d0::D0=[74]):=⟨_,rfl⟩;obtain⟨y20,hy20⟩:∃y,y=decide (xo=20):=⟨_,rfl⟩
      have e74:(d0::D0==[74])=y74:=by rw[hy74,Bool.eq_iff_iff,beq_iff_eq,decide_eq_true_iff]
      have e20:((xo:Int)==20)=y20:=by rw[hy20,Bool.eq_iff_iff,beq_iff_eq,decide_eq_true_iff];omega
      have hCC:CC=(y74==y20):=by rw[HCC.out,hy74,hy20];rfl
      subst hCC;clear hy74 hy20 HCC;have hSw:A3w gx x' W2.drew:=HL.out.i
      refine A0g (A3w gx x') (.of [(0,true),(1,true),(2,true),(3,true),(4,true),(5,true),(6,true),(7,true),(8,true),(9,true),(10,true),(11,true),(12,true),(13,true),(14,true),(15,true),(16,true),(17,true),(18,true),(19,false)] (.stir [])) (by kernel_rfl) (by kernel_rfl) (fun c a d v w h=>by cases d<;>exact h) ?_
      iterate 19
       refine A0b fun K hK=>tkF ?_
       go_simp
       try go_bits
       refine hK _ _ ?_;clear hK K
      refine A0b fun K hK=>alF ?_
      go_step;refine(HNE2.out (y74==y20)).mono ?_;rintro e W3 ⟨rfl,h3,k3⟩
      have HL3:=Lib.hid (show LfI W3 g a n cap L (A2w er (y74==y20) 8) gx x' from⟨h3,(HL.out.i.below ((Below.refl _ _).drew)).keep k3 HL.out.ne,HL.out.ne,HL.out.z,HL.out.off⟩)
      have HK3:=Lib.hid ((HK.out.trans (A0j.of ((Below.refl _ _).drew))).trans (k3.weak (fun k _ e=>Or.inl e)));clear h3 k3;go_simp
      first|refine⟨HL3.out.i,hK _ _ ?_⟩|skip
      clear hK K;refine A0m (B1h W3) (fun y hy=>by obtain rfl:y=W3:=hy;exact HL3.out.i) rfl ?_;refine A0p (fun yy hy=> ?_);obtain rfl:W3=yy:=Eq.symm hy
      go_wp2_with fail
      go_end0;exact⟨rfl,HL3.out,HK3.out⟩
    ·have e8:(c.tag==8)=false:=by simpa using h8
     have HXE:=Lib.hid (show x'=x by rw[HX.out,if_neg h3,if_neg h5,if_neg h8]);clear HX h3 h5 h8
     go_upto_region 10 with fail
     have HL:=Lib.hid (show LfI W g a n cap L er gx x' by rw[HXE.out];exact HCA.out.1);have HK:=Lib.hid (show A0j (fun k=>k=g∨k=gx) w W from A0j.of HCA.out.2.2.1)
     obtain⟨W2,hW2⟩:∃W2,W2=W:=⟨_,rfl⟩;subst hW2;obtain⟨i0,i1,i2,i3,i4,i5,i6,f1,f2,f3,f4,f5,f6⟩:=HL.out.i.box;obtain⟨D,hD⟩:∃D,D=x'.ds:=⟨_,rfl⟩
     have li0:∀w',A3w gx x' w'→w'.cell? ⟨gx,0,none⟩=some (.int .u8 (x'.op:Nat)):=fun w' h=>h.box.c0
     have li5:∀w',A3w gx x' w'→w'.cell? ⟨gx,5,none⟩=some (.string ⟨D.toArray⟩):=fun w' h=>by rw[hD];exact h.box.c5
     have HCC:=Lib.hid (show B1d x'=(!D.isEmpty&&(decide (D=[74])==decide (x'.op=20))) by rw[hD];rfl)
     have HNE2:=Lib.hid (fun ok=>A4u W2.drew g a n cap L er ok 8 (HL.out.k.below ((Below.refl _ _).drew)));generalize B1d x'=CC at*;generalize x'.op=xo at*
     clear hD i0 i1 i2 i3 i4 i5 i6 f1 f2 f3 f4 f5 f6
     go_upto_region 10 with fail
     cases D with
     |nil=>
      have hCC:CC=false:=HCC.out;subst hCC;have hSw:A3w gx x' W2.drew:=HL.out.i
      refine A0g (A3w gx x') (.of [(0,true),(1,true),(2,true),(3,true),(4,true),(5,true),(6,true),(7,true),(8,true),(9,true),(10,true),(11,true),(12,true),(13,true),(14,true),(15,true),(16,true),(17,true),(18,true),(19,false)] (.stir [])) (by kernel_rfl) (by kernel_rfl) (fun c a d v w h=>by cases d<;>exact h) ?_
      iterate 7
       refine A0b fun K hK=>tkF ?_
       go_simp
       try go_bits
       refine hK _ _ ?_;clear hK K
      iterate 11
       refine A0b fun K hK=>skF ?_
       go_simp;refine hK _ _ ?_;clear hK K
      iterate 1
       refine A0b fun K hK=>tkF ?_
       go_simp
       try go_bits
       refine hK _ _ ?_;clear hK K
      refine A0b fun K hK=>alF ?_
      go_step;refine(HNE2.out false).mono ?_;rintro e W3 ⟨rfl,h3,k3⟩
      have HL3:=Lib.hid (show LfI W3 g a n cap L (A2w er false 8) gx x' from⟨h3,(HL.out.i.below ((Below.refl _ _).drew)).keep k3 HL.out.ne,HL.out.ne,HL.out.z,HL.out.off⟩)
      have HK3:=Lib.hid ((HK.out.trans (A0j.of ((Below.refl _ _).drew))).trans (k3.weak (fun k _ e=>Or.inl e)));clear h3 k3;go_simp
      first|refine⟨HL3.out.i,hK _ _ ?_⟩|skip
      clear hK K;refine A0m (B1h W3) (fun y hy=>by obtain rfl:y=W3:=hy;exact HL3.out.i) rfl ?_;refine A0p (fun yy hy=> ?_);obtain rfl:W3=yy:=Eq.symm hy
      go_wp2_with fail
      go_end0;exact⟨rfl,HL3.out,HK3.out⟩
     |cons d0 D0=>
      obtain⟨y74,hy74⟩:∃y,y=decide (d0::D0=[74]):=⟨_,rfl⟩;obtain⟨y20,hy20⟩:∃y,y=decide (xo=20):=⟨_,rfl⟩
      have e74:(d0::D0==[74])=y74:=by rw[hy74,Bool.eq_iff_iff,beq_iff_eq,decide_eq_true_iff]
      have e20:((xo:Int)==20)=y20:=by rw[hy20,Bool.eq_iff_iff,beq_iff_eq,decide_eq_true_iff];omega
      have hCC:CC=(y74==y20):=by rw[HCC.out,hy74,hy20];rfl
      subst hCC;clear hy74 hy20 HCC;have hSw:A3w gx x' W2.drew:=HL.out.i
      refine A0g (A3w gx x') (.of [(0,true),(1,true),(2,true),(3,true),(4,true),(5,true),(6,true),(7,true),(8,true),(9,true),(10,true),(11,true),(12,true),(13,true),(14,true),(15,true),(16,true),(17,true),(18,true),(19,false)] (.stir [])) (by kernel_rfl) (by kernel_rfl) (fun c a d v w h=>by cases d<;>exact h) ?_
      iterate 19
       refine A0b fun K hK=>tkF ?_
       go_simp
       try go_bits
       refine hK _ _ ?_;clear hK K
      refine A0b fun K hK=>alF ?_
      go_step;refine(HNE2.out (y74==y20)).mono ?_;rintro e W3 ⟨rfl,h3,k3⟩
      have HL3:=Lib.hid (show LfI W3 g a n cap L (A2w er (y74==y20) 8) gx x' from⟨h3,(HL.out.i.below ((Below.refl _ _).drew)).keep k3 HL.out.ne,HL.out.ne,HL.out.z,HL.out.off⟩)
      have HK3:=Lib.hid ((HK.out.trans (A0j.of ((Below.refl _ _).drew))).trans (k3.weak (fun k _ e=>Or.inl e)));clear h3 k3;go_simp
      first|refine⟨HL3.out.i,hK _ _ ?_⟩|skip
      clear hK K;refine A0m (B1h W3) (fun y hy=>by obtain rfl:y=W3:=hy;exact HL3.out.i) rfl ?_;refine A0p (fun yy hy=> ?_);obtain rfl:W3=yy:=Eq.symm hy
      go_wp2_with fail
      go_end0;exact⟨rfl,HL3.out,HK3.out⟩
 ·have hl1:¬(at_:Int)<n:=by omega
  have hcz:c=kz:=by
   rw[HC.out];unfold kAt;rw[Int.toNat_natCast,List.getD_eq_getElem?_getD,List.getElem?_eq_none (by have:=HN.out;omega)];rfl
  have HX0:=Lib.hid (show x'=x by rw[HX.out,hcz];rfl);subst hcz;clear HX HC hlt;go_enter Tryz.func103,Tryz.ntmps103
  go_upto_region 10 with fail
  have hbA:Below w.heap.size w (w.alloc (.cells #[.int .i64 0,.int .i64 0,.int .i64 0,.int .i64 0,.string ⟨#[]⟩] 61)):=(Below.refl _ _).alloc (Nat.le_refl _) _
  have HL:=Lib.hid (show LfI (w.alloc (.cells #[.int .i64 0,.int .i64 0,.int .i64 0,.int .i64 0,.string ⟨#[]⟩] 61)) g a n cap L er gx x' by rw[HX0.out];exact H.out.below hbA)
  have HK:=Lib.hid (show A0j (fun k=>k=g∨k=gx) w (w.alloc (.cells #[.int .i64 0,.int .i64 0,.int .i64 0,.int .i64 0,.string ⟨#[]⟩] 61))from A0j.of hbA)
  generalize w.alloc (.cells #[.int .i64 0,.int .i64 0,.int .i64 0,.int .i64 0,.string ⟨#[]⟩] 61)=W2 at*;clear hbA k0 k1 q0 q1 klt hb0 hb2 hl1
  obtain⟨i0,i1,i2,i3,i4,i5,i6,f1,f2,f3,f4,f5,f6⟩:=HL.out.i.box;obtain⟨D,hD⟩:∃D,D=x'.ds:=⟨_,rfl⟩
  have li0:∀w',A3w gx x' w'→w'.cell? ⟨gx,0,none⟩=some (.int .u8 (x'.op:Nat)):=fun w' h=>h.box.c0
  have li5:∀w',A3w gx x' w'→w'.cell? ⟨gx,5,none⟩=some (.string ⟨D.toArray⟩):=fun w' h=>by rw[hD];exact h.box.c5
  have HCC:=Lib.hid (show B1d x'=(!D.isEmpty&&(decide (D=[74])==decide (x'.op=20))) by rw[hD];rfl)
  have HNE2:=Lib.hid (fun ok=>A4u W2.drew g a n cap L er ok 8 (HL.out.k.below ((Below.refl _ _).drew)));generalize B1d x'=CC at*;generalize x'.op=xo at*
  clear hD i0 i1 i2 i3 i4 i5 i6 f1 f2 f3 f4 f5 f6
  go_upto_region 10 with fail
  cases D with
  |nil=>
   have hCC:CC=false:=HCC.out;subst hCC;have hSw:A3w gx x' W2.drew:=HL.out.i
   refine A0g (A3w gx x') (.of [(0,true),(1,true),(2,true),(3,true),(4,true),(5,true),(6,true),(7,true),(8,true),(9,true),(10,true),(11,true),(12,true),(13,true),(14,true),(15,true),(16,true),(17,true),(18,true),(19,false)] (.stir [])) (by kernel_rfl) (by kernel_rfl) (fun c a d v w h=>by cases d<;>exact h) ?_
   iterate 7
    refine A0b fun K hK=>tkF ?_
    go_simp
    try go_bits
    refine hK _ _ ?_;clear hK K
   iterate 11
    refine A0b fun K hK=>skF ?_
    go_simp;refine hK _ _ ?_;clear hK K
   iterate 1
    refine A0b fun K hK=>tkF ?_
    go_simp
    try go_bits
    refine hK _ _ ?_;clear hK K
   refine A0b fun K hK=>alF ?_
   go_step;refine(HNE2.out false).mono ?_;rintro e W3 ⟨rfl,h3,k3⟩
   have HL3:=Lib.hid (show LfI W3 g a n cap L (A2w er false 8) gx x' from⟨h3,(HL.out.i.below ((Below.refl _ _).drew)).keep k3 HL.out.ne,HL.out.ne,HL.out.z,HL.out.off⟩)
   have HK3:=Lib.hid ((HK.out.trans (A0j.of ((Below.refl _ _).drew))).trans (k3.weak (fun k _ e=>Or.inl e)));clear h3 k3;go_simp
   first|refine⟨HL3.out.i,hK _ _ ?_⟩|skip
   clear hK K;refine A0m (B1h W3) (fun y hy=>by obtain rfl:y=W3:=hy;exact HL3.out.i) rfl ?_;refine A0p (fun yy hy=> ?_);obtain rfl:W3=yy:=Eq.symm hy
   go_wp2_with fail
   go_end0;exact⟨rfl,HL3.out,HK3.out⟩
  |cons d0 D0=>
   obtain⟨y74,hy74⟩:∃y,y=decide (d0::D0=[74]):=⟨_,rfl⟩;obtain⟨y20,hy20⟩:∃y,y=decide (xo=20):=⟨_,rfl⟩
   have e74:(d0::D0==[74])=y74:=by rw[hy74,Bool.eq_iff_iff,beq_iff_eq,decide_eq_true_iff]
   have e20:((xo:Int)==20)=y20:=by rw[hy20,Bool.eq_iff_iff,beq_iff_eq,decide_eq_true_iff];omega
   have hCC:CC=(y74==y20):=by rw[HCC.out,hy74,hy20];rfl
   subst hCC;clear hy74 hy20 HCC;have hSw:A3w gx x' W2.drew:=HL.out.i
   refine A0g (A3w gx x') (.of [(0,true),(1,true),(2,true),(3,true),(4,true),(5,true),(6,true),(7,true),(8,true),(9,true),(10,true),(11,true),(12,true),(13,true),(14,true),(15,true),(16,true),(17,true),(18,true),(19,false)] (.stir [])) (by kernel_rfl) (by kernel_rfl) (fun c a d v w h=>by cases d<;>exact h) ?_
   iterate 19
    refine A0b fun K hK=>tkF ?_
    go_simp
    try go_bits
    refine hK _ _ ?_;clear hK K
   refine A0b fun K hK=>alF ?_
   go_step;refine(HNE2.out (y74==y20)).mono ?_;rintro e W3 ⟨rfl,h3,k3⟩
   have HL3:=Lib.hid (show LfI W3 g a n cap L (A2w er (y74==y20) 8) gx x' from⟨h3,(HL.out.i.below ((Below.refl _ _).drew)).keep k3 HL.out.ne,HL.out.ne,HL.out.z,HL.out.off⟩)
   have HK3:=Lib.hid ((HK.out.trans (A0j.of ((Below.refl _ _).drew))).trans (k3.weak (fun k _ e=>Or.inl e)));clear h3 k3;go_simp
   first|refine⟨HL3.out.i,hK _ _ ?_⟩|skip
   clear hK K;refine A0m (B1h W3) (fun y hy=>by obtain rfl:y=W3:=hy;exact HL3.out.i) rfl ?_;refine A0p (fun yy hy=> ?_);obtain rfl:W3=yy:=Eq.symm hy
   go_wp2_with fail
   go_end0;exact⟨rfl,HL3.out,HK3.out⟩
end
end Go.Proofs.YtclpkipaehpkdaaGreatDoor
