/- asm -/
import Derived.Test.YtclpkipaehpkdaaGreatDoorQ09AsmLowers
import Derived.Test.YtclpkipaehpkdaaGreatDoorQ06AsmLowers
import Derived.StillTailTactics
set_option linter.unusedVariables false
set_option linter.unusedSimpArgs false
set_option maxRecDepth 100000
set_option maxHeartbeats 64000000
namespace Go.Proofs.YtclpkipaehpkdaaGreatDoor
section
open Go.ChangeShapes Go.WideShapes Go.ChangeAt Go.RowKit
structure A0j(p:Nat->Prop)(w w':World):Prop where
 os:w'.os=w.os
 tape:w'.tape=w.tape
 output:w'.output=w.output
 size:w.heap.size<=w'.heap.size
 block:∀k,k<w.heap.size->¬p k->w'.heap[k]? =w.heap[k]?
theorem A0j.refl(p:Nat->Prop)(w:World):A0j p w w:=⟨rfl,rfl,rfl,Nat.le_refl _,fun _ _ _=>rfl⟩
theorem A0j.trans{p:Nat->Prop}{w w1 w2:World}(h:A0j p w w1)(k:A0j p w1 w2):A0j p w w2:=
 ⟨k.os.trans h.os,k.tape.trans h.tape,k.output.trans h.output,Nat.le_trans h.size k.size,fun i hi hg=>by rw[k.block i (Nat.lt_of_lt_of_le hi h.size) hg,h.block i hi hg]⟩
theorem A0j.of{p:Nat->Prop}{w w1:World}(h:Below w.heap.size w w1):A0j p w w1:=⟨h.os,h.tape,h.output,h.size,fun k hk _=>h.block k hk⟩
theorem A0j.weak{p q:Nat->Prop}{w w1:World}(h:A0j p w w1)(hpq:∀k,k<w.heap.size->p k->q k):A0j q w w1:=⟨h.os,h.tape,h.output,h.size,fun k hk hq=>h.block k hk (fun hp=>hq (hpq k hk hp))⟩
theorem A0j.set{p:Nat->Prop}{w w1:World}(h:A0j p w w1){g:Nat}(hg:p g\/w.heap.size<=g)(o:Nat)(v:Value):A0j p w (w1.setCell ⟨g,o,none⟩ v):=
 ⟨h.os,h.tape,h.output,by have:=h.size;unfold World.setCell;simpa using this,fun k hk hq=>by
  rw[<-h.block k hk hq];unfold World.setCell
  have hne:¬g=k:=by
   rintro rfl
   rcases hg with h1|h1
   ·exact hq h1
   omega
  simp[Array.getElem?_modify,hne]⟩
theorem A0j.setg{w w1:World}{g:Nat}(h:A0j (fun x=>x=g) w w1)(o:Nat)(v:Value):A0j (fun x=>x=g) w (w1.setCell ⟨g,o,none⟩ v):=A0j.set h (Or.inl (rfl:g=g)) o v
theorem A0j.below{p:Nat->Prop}{B:Nat}{w0 w w':World}(h:A0j p w w')(hb:Below B w0 w)(hB:B<=w0.heap.size)(hp:∀k,p k->B<=k):Below B w0 w':=
 ⟨h.os.trans hb.os,h.tape.trans hb.tape,h.output.trans hb.output,Nat.le_trans hb.size h.size,fun k hk=>by
  rw[h.block k (Nat.lt_of_lt_of_le (Nat.lt_of_lt_of_le hk hB) hb.size) (fun hk2=>by have:=hp k hk2;omega)];exact hb.block k hk⟩
theorem A0j.row{p:Nat->Prop}{w w':World}(h:A0j p w w'){g:Nat}{o:Obj}(hg:w.heap[g]? =some o)(hp:¬p g):w'.heap[g]? =some o:=by
 rw[h.block g (Array.getElem?_eq_some_iff.1 hg).1 hp];exact hg
theorem A0j.ss{p:Nat->Prop}{α:Type}{z:Nat}{enc:α->List Value}{w w':World}{x:Option Addr}{n:Nat}{xs:List α}(h:A0j p w w')(hs:Ss z enc w x n xs)(h1:0<n->∀b off,x=some ⟨b,off,none⟩->¬p b):Ss z enc w' x n xs:=by
 refine⟨hs.1,fun hn=> ?_⟩;obtain⟨b,off,ha,hlt,hc⟩:=hs.2 hn;refine⟨b,off,ha,Nat.lt_of_lt_of_le hlt h.size,fun i hi j hj=> ?_⟩;rw[<-hc i hi j hj];unfold World.cell?
 rw[h.block b hlt (h1 hn b off ha)]
theorem A0j.vw{p:Nat->Prop}{w w':World}(h:A0j p w w')(hv:VW w)(h0:¬p 0):VW w':=by
 obtain⟨m,hm⟩:=hv;refine⟨m,?_⟩
 have hlt:0<w.heap.size:=by
  rcases Nat.eq_zero_or_pos w.heap.size with h1|h1
  ·exfalso;have:w.heap[0]? =none:=Array.getElem?_eq_none (by omega);simp[World.cell?,this]at hm
  exact h1
 rw[<-hm];unfold World.cell?;rw[h.block 0 hlt h0]
def B1s(x y:World):Prop:=y=x
def A2t(er:Int)(ok:Bool)(k:Int):Int:=if ok=false/\er=0 then k else er
structure LfS(w:World)(g:Nat)(a:Option Addr)(n cap:Nat)(L:List KV)(er:Int):Prop where
 k:B2t w g (.slice a n cap) (.int .i64 er) 72
 ks:Ks w a n L
 sm:n<=65536
 off:B1p a n g
 tx:∀i:Int,(kAt L i).s.length<=65536
 vw:VW w
 g0:0<g
theorem LfS.below{w w':World}{g:Nat}{a:Option Addr}{n cap:Nat}{L:List KV}{er:Int}(h:LfS w g a n cap L er)(hb:Below w.heap.size w w'):LfS w' g a n cap L er:=⟨h.k.below hb,h.ks.below hb,h.sm,h.off,h.tx,h.vw.below hb,h.g0⟩
theorem LfS.keep{p:Nat->Prop}{w w':World}{g:Nat}{a:Option Addr}{n cap:Nat}{L:List KV}{er:Int}(h:LfS w g a n cap L er)(hk:A0j p w w')(hg:¬p g)(h0:¬p 0)(ha:0<n->∀b off,a=some ⟨b,off,none⟩->¬p b):LfS w' g a n cap L er:=
 ⟨hk.row h.k hg,hk.ss h.ks ha,h.sm,h.off,h.tx,hk.vw h.vw h0,h.g0⟩
theorem LfS.lt{w:World}{g:Nat}{a:Option Addr}{n cap:Nat}{L:List KV}{er:Int}(h:LfS w g a n cap L er):g<w.heap.size:=h.k.box.lt
theorem LfS.set{w:World}{g:Nat}{a:Option Addr}{n cap:Nat}{L:List KV}{er:Int}(h:LfS w g a n cap L er)(e2:Int):LfS (w.setCell ⟨g,1,none⟩ (.int .i64 e2)) g a n cap L e2:=by
 have hk:A0j (·=g) w (w.setCell ⟨g,1,none⟩ (.int .i64 e2)):=(A0j.refl _ _).setg 1 _
 exact⟨h.k.set1,hk.ss h.ks (fun hn b off e=>h.off hn b off e),h.sm,h.off,h.tx,hk.vw h.vw (fun e=>by have:=h.g0;omega),h.g0⟩
def E0a(v:Value)(g:Nat)(a:Option Addr)(n cap:Nat)(L:List KV)(er:Int)(w:World)(e:Ending)(w':World):Prop:=e= .returned v/\LfS w' g a n cap L er/\A0j (·=g) w w'
theorem A6d{L:List KV}(h:∀i:Int,(kAt L i).s.length<=65536)(i:Int):(A1k L i).length<=65536:=by
 unfold A1k;split
 ·exact h i
 simp
theorem A4s{L:List KV}(h:∀i:Int,(kAt L i).s.length<=65536)(i:Int):(A0s L i).1.length<=65536:=by
 unfold A0s;split
 ·exact A6d h _
 simp
theorem A9u{L:List KV}(h:∀i:Int,(kAt L i).s.length<=65536)(i t:Int):(A1j L i t).1.length<=65536/\(A1j L i t).2.1.length<=65536/\(A1j L i t).2.2.1.length<=65536:=by
 unfold A1j;split
 ·exact⟨A4s h _,A6d h _,A6d h _⟩
 simp
theorem A4q(w:World)(g:Nat)(a:Option Addr)(n cap:Nat)(L:List KV)(er:Int)(ok:Bool)(k:Int)(h:LfS w g a n cap L er):
  Calls Tryz.prog 22 #[.pointer (some ⟨g,0,none⟩),.bool ok,.int .i64 k] w (E0a (.tuple #[]) g a n cap L (A2t er ok k) w):=by
 have H:=hzz h;obtain⟨c0,c1,f0,f1,lt⟩:=h.k.box;clear h
 cases ok
 ·by_cases h0:er=0
  ·have e0:(er==0)=true:=by simpa using h0
   have HE:=hzz (show A2t er false k=k by unfold A2t;rw[if_pos ⟨rfl,h0⟩]);generalize A2t er false k=E at*;obtain rfl:E=k:=HE.out;clear HE h0;go_enter Tryz.func22,Tryz.ntmps22
   go_wp2_with fail
   go_end0;exact⟨rfl,H.out.set E,(A0j.refl _ _).setg 1 _⟩
  have e0:(er==0)=false:=by simpa using h0
  have HE:A2t er false k=er:=by unfold A2t;rw[if_neg (fun h=>h0 h.2)]
  rw[HE];clear HE h0;go_enter Tryz.func22,Tryz.ntmps22
  go_wp2_with fail
  go_end0;exact⟨rfl,H.out,A0j.refl _ _⟩
 have HE:A2t er true k=er:=by unfold A2t;rw[if_neg (fun h=>absurd h.1 (by decide))]
 rw[HE];clear HE;go_enter Tryz.func22,Tryz.ntmps22
 go_wp2_with fail
 go_end0;exact⟨rfl,H.out,A0j.refl _ _⟩
theorem A9k(w:World)(g:Nat)(a:Option Addr)(n cap:Nat)(L:List KV)(er i:Int)(h:LfS w g a n cap L er):
  Calls Tryz.prog 21 #[.pointer (some ⟨g,0,none⟩),.int .i64 i] w fun e w'=>e= .returned (.string ⟨(A1k L i).toArray⟩)/\w'=w:=by
 have HT:=hzz (B1y w a n cap L i h.ks h.sm);unfold A5j at HT;obtain⟨c0,c1,f0,f1,lt⟩:=h.k.box;generalize A1k L i=s at*;generalize isT L i 1=b at*;clear h
 go_enter Tryz.func21,Tryz.ntmps21
 go_wp2_with fail
 refine HT.out.mono ?_;rintro e w' ⟨rfl,rfl⟩
 go_wp2_with fail
 go_ret;exact⟨rfl,rfl⟩
def aclsB(L:List KV)(i:Int)(arr:Bool):Bool:=(A0s L i).2&&(classB (A0s L i).1||(arr&&A2m (A0s L i).1))
theorem A8k(w:World)(g:Nat)(a:Option Addr)(n cap:Nat)(L:List KV)(er i:Int)(arr:Bool)(h:LfS w g a n cap L er):
  Calls Tryz.prog 20 #[.pointer (some ⟨g,0,none⟩),.int .i64 i,.bool arr] w (E0a (.string ⟨(A0s L i).1.toArray⟩) g a n cap L (A2t er (aclsB L i arr) 8) w):=by
 have HC:=hzz (B6n w a n cap L i h.ks h.sm);have HN:=hzz (fun W ok (hb:Below w.heap.size w W)=>A4q W g a n cap L er ok 8 (h.below hb));have hsl:=A4s h.tx i
 have HI:=hzz (fun W (hb:Below w.heap.size w W)=>A7k W (A0s L i).1 (by omega) (h.vw.below hb));have HA:=hzz (fun W (hb:Below w.heap.size w W)=>A8z W (A0s L i).1 hsl (h.vw.below hb))
 have HB0:=hzz (Below.refl w.heap.size w);unfold A4f at HC;have HR:aclsB L i arr=((A0s L i).2&&(classB (A0s L i).1||(arr&&A2m (A0s L i).1))):=rfl;generalize aclsB L i arr=R at*
 generalize classB (A0s L i).1=x1 at*;generalize A2m (A0s L i).1=x2 at*;generalize(A0s L i).1=s1 at*;generalize(A0s L i).2=b1 at*;obtain⟨c0,c1,f0,f1,lt⟩:=h.k.box;clear h
 cases b1
 ·have hR:R=false:=HR;subst hR;clear HR;go_enter Tryz.func20,Tryz.ntmps20
  go_wp2_with fail
  refine HC.out.mono ?_;rintro e w1 ⟨rfl,rfl⟩
  go_wp2_with fail
  refine(HN.out w false HB0.out).mono ?_;rintro e w2 ⟨rfl,hs,hk⟩
  go_wp2_with fail
  go_ret;exact⟨rfl,hs,hk⟩
 cases x1
 ·cases arr
  ·have hR:R=false:=HR;subst hR;clear HR;go_enter Tryz.func20,Tryz.ntmps20
   go_wp2_with fail
   refine HC.out.mono ?_;rintro e w1 ⟨rfl,rfl⟩
   go_wp2_with fail
   refine(HI.out w HB0.out).mono ?_;rintro e w2 ⟨rfl,hb2⟩;have HB2:=hzz hb2;clear hb2
   go_wp2_with fail
   refine(HN.out w2 false HB2.out).mono ?_;rintro e w3 ⟨rfl,hs,hk⟩
   go_wp2_with fail
   go_ret;exact⟨rfl,hs,(A0j.of HB2.out).trans hk⟩
  have hR:R=x2:=HR;subst hR;clear HR;go_enter Tryz.func20,Tryz.ntmps20
  go_wp2_with fail
  refine HC.out.mono ?_;rintro e w1 ⟨rfl,rfl⟩
  go_wp2_with fail
  refine(HI.out w HB0.out).mono ?_;rintro e w2 ⟨rfl,hb2⟩;have HB2:=hzz hb2;clear hb2
  go_wp2_with fail
  refine(HA.out w2 HB2.out).mono ?_;rintro e w3 ⟨rfl,hb3⟩;have HB3:=btz HB2 hb3;clear hb3
  go_wp2_with fail
  refine(HN.out w3 R HB3.out).mono ?_;rintro e w4 ⟨rfl,hs,hk⟩
  go_wp2_with fail
  go_ret;exact⟨rfl,hs,(A0j.of HB3.out).trans hk⟩
 have hR:R=true:=HR;subst hR;clear HR;go_enter Tryz.func20,Tryz.ntmps20
 go_wp2_with fail
 refine HC.out.mono ?_;rintro e w1 ⟨rfl,rfl⟩
 go_wp2_with fail
 refine(HI.out w HB0.out).mono ?_;rintro e w2 ⟨rfl,hb2⟩;have HB2:=hzz hb2;clear hb2
 go_wp2_with fail
 refine(HN.out w2 true HB2.out).mono ?_;rintro e w3 ⟨rfl,hs,hk⟩
 go_wp2_with fail
 go_ret;exact⟨rfl,hs,(A0j.of HB2.out).trans hk⟩
structure IN where
 op:Nat
 n:Int
 m:Int
 cl:List UInt8
 nm:List UInt8
 ds:List UInt8
 tx:List UInt8
abbrev A1v:=54
def IN.cells(x:IN):List Value:=[.int .u8 (x.op:Nat),.int .i64 x.n,.int .i64 x.m,.string ⟨x.cl.toArray⟩,.string ⟨x.nm.toArray⟩,.string ⟨x.ds.toArray⟩,.string ⟨x.tx.toArray⟩]
theorem IN.cells_length(x:IN):x.cells.length=7:=rfl
def A3u(g:Nat)(x:IN)(w:World):Prop:=w.heap[g]? =some (.cells x.cells.toArray A1v (0,0))
structure E4n(w:World)(g:Nat)(x:IN):Prop where
 c0:w.cell? ⟨g,0,none⟩=some (.int .u8 (x.op:Nat))
 c1:w.cell? ⟨g,1,none⟩=some (.int .i64 x.n)
 c2:w.cell? ⟨g,2,none⟩=some (.int .i64 x.m)
 c3:w.cell? ⟨g,3,none⟩=some (.string ⟨x.cl.toArray⟩)
 c4:w.cell? ⟨g,4,none⟩=some (.string ⟨x.nm.toArray⟩)
 c5:w.cell? ⟨g,5,none⟩=some (.string ⟨x.ds.toArray⟩)
 c6:w.cell? ⟨g,6,none⟩=some (.string ⟨x.tx.toArray⟩)
 f1:w.frozen? ⟨g,1,none⟩=false
 f2:w.frozen? ⟨g,2,none⟩=false
 f3:w.frozen? ⟨g,3,none⟩=false
 f4:w.frozen? ⟨g,4,none⟩=false
 f5:w.frozen? ⟨g,5,none⟩=false
 f6:w.frozen? ⟨g,6,none⟩=false
theorem A3u.box{g:Nat}{x:IN}{w:World}(h:A3u g x w):E4n w g x:=
 ⟨A0a h 0 rfl,A0a h 1 rfl,A0a h 2 rfl,A0a h 3 rfl,A0a h 4 rfl,A0a h 5 rfl,A0a h 6 rfl,A1b h 1,A1b h 2,A1b h 3,A1b h 4,A1b h 5,A1b h 6⟩
theorem A3u.lt{g:Nat}{x:IN}{w:World}(h:A3u g x w):g<w.heap.size:=A0v h
theorem A3u.below{g:Nat}{x:IN}{w w':World}(h:A3u g x w)(hb:Below w.heap.size w w'):A3u g x w':=A0c h hb
theorem A3u.keep{p:Nat->Prop}{g:Nat}{x:IN}{w w':World}(h:A3u g x w)(hk:A0j p w w')(hp:¬p g):A3u g x w':=hk.row h hp
theorem A3u.set1{g:Nat}{x:IN}{w:World}(h:A3u g x w)(v:Int):A3u g {x with n:=v} (w.setCell ⟨g,1,none⟩ (.int .i64 v)):=A1e h 1 _
theorem A3u.set2{g:Nat}{x:IN}{w:World}(h:A3u g x w)(v:Int):A3u g {x with m:=v} (w.setCell ⟨g,2,none⟩ (.int .i64 v)):=A1e h 2 _
theorem A3u.set3{g:Nat}{x:IN}{w:World}(h:A3u g x w)(v:List UInt8):A3u g {x with cl:=v} (w.setCell ⟨g,3,none⟩ (.string ⟨v.toArray⟩)):=A1e h 3 _
theorem A3u.set4{g:Nat}{x:IN}{w:World}(h:A3u g x w)(v:List UInt8):A3u g {x with nm:=v} (w.setCell ⟨g,4,none⟩ (.string ⟨v.toArray⟩)):=A1e h 4 _
theorem A3u.set5{g:Nat}{x:IN}{w:World}(h:A3u g x w)(v:List UInt8):A3u g {x with ds:=v} (w.setCell ⟨g,5,none⟩ (.string ⟨v.toArray⟩)):=A1e h 5 _
theorem A3u.set6{g:Nat}{x:IN}{w:World}(h:A3u g x w)(v:List UInt8):A3u g {x with tx:=v} (w.setCell ⟨g,6,none⟩ (.string ⟨v.toArray⟩)):=A1e h 6 _
def B0q(L:List KV)(x:IN)(at_:Nat):IN:=
 if(kAt L at_).tag=3 then{x with ds:=[73],n:=(kAt L at_).n}
 else if(kAt L at_).tag=5 then{x with ds:=[74],n:=(kAt L at_).n}
 else if(kAt L at_).tag=8 then{x with ds:=[83],tx:=A1k L (kAt L at_).a}
 else x
def B1m(x:IN):Bool:= !x.ds.isEmpty&&(decide (x.ds=[74])==decide (x.op=20))
structure LfI(w:World)(g:Nat)(a:Option Addr)(n cap:Nat)(L:List KV)(er:Int)(gx:Nat)(x:IN):Prop where
 k:LfS w g a n cap L er
 i:A3u gx x w
 ne:gx≠g
 z:0<gx
 off:B1p a n gx
theorem LfI.below{w w':World}{g:Nat}{a:Option Addr}{n cap:Nat}{L:List KV}{er:Int}{gx:Nat}{x:IN}(h:LfI w g a n cap L er gx x)(hb:Below w.heap.size w w'):LfI w' g a n cap L er gx x:=⟨h.k.below hb,h.i.below hb,h.ne,h.z,h.off⟩
theorem LfI.put{w:World}{g:Nat}{a:Option Addr}{n cap:Nat}{L:List KV}{er:Int}{gx:Nat}{x x':IN}(h:LfI w g a n cap L er gx x)(o:Nat)(v:Value)(hi:A3u gx x' (w.setCell ⟨gx,o,none⟩ v)):LfI (w.setCell ⟨gx,o,none⟩ v) g a n cap L er gx x':=by
 have hk:A0j (fun k=>k=gx) w (w.setCell ⟨gx,o,none⟩ v):=(A0j.refl _ _).setg o v
 exact⟨h.k.keep hk (fun e=>h.ne e.symm) (fun e=>by have:=h.z;omega) (fun hn b off e=>h.off hn b off e),hi,h.ne,h.z,h.off⟩
def D7m(g:Nat)(a:Option Addr)(n cap:Nat)(L:List KV)(er:Int)(gx:Nat)(x:IN)(w:World)(e:Ending)(w':World):Prop:=e= .returned (.tuple #[])/\LfI w' g a n cap L er gx x/\A0j (fun k=>k=g\/k=gx) w w'
def C4v(gc:Nat)(c:KV)(w:World):Prop:=w.heap[gc]? =some (.cells c.cells.toArray 61 (0,0))
structure E4k(w:World)(g:Nat)(c:KV):Prop where
 c0:w.cell? ⟨g,0,none⟩=some (.int .i64 c.tag)
 c1:w.cell? ⟨g,1,none⟩=some (.int .i64 c.a)
 c3:w.cell? ⟨g,3,none⟩=some (.int .i64 c.n)
theorem C4v.box{gc:Nat}{c:KV}{w:World}(h:C4v gc c w):E4k w gc c:=⟨A0a h 0 rfl,A0a h 1 rfl,A0a h 3 rfl⟩
def E3z(w0:World)(c:KV)(g:Nat)(a:Option Addr)(n cap:Nat)(L:List KV)(er:Int)(gx:Nat)(x:IN)(gc:Nat)(w:World):Prop:=LfI w g a n cap L er gx x/\C4v gc c w/\Below w0.heap.size w0 w/\gc=w0.heap.size
theorem C9k(w:World)(g:Nat)(a:Option Addr)(n cap:Nat)(L:List KV)(er:Int)(gx:Nat)(x:IN)(at_:Nat)(hat:at_<1048576)(h:LfI w g a n cap L er gx x):
  Calls Tryz.prog 103 #[.pointer (some ⟨g,0,none⟩),.pointer (some ⟨gx,0,none⟩),.int .i64 at_] w (D7m g a n cap L (A2t er (B1m (B0q L x at_)) 8) gx (B0q L x at_) w):=by
 have H:=hzz h;have hnn:n=L.length:=h.k.ks.1.symm;have HN:=hzz hnn;have hsm:=h.k.sm;obtain⟨c,hc⟩:=exz (kAt L at_);have HC:=hzz hc
 have HX:=hzz (show B0q L x at_=if c.tag=3 then{x with ds:=[73],n:=c.n}else if c.tag=5 then{x with ds:=[74],n:=c.n}else if c.tag=8 then{x with ds:=[83],tx:=A1k L c.a}else x by rw[hc];rfl)
 obtain⟨x',hx'⟩:=exz (B0q L x at_);rw[<-hx']at HX⊢;obtain⟨k0,k1,q0,q1,klt⟩:=h.k.k.box;have hb0:(0:Int)<=at_:=by omega
 have hb2:(at_:Int)<1048576:=by omega
 clear h hc hx' hnn;by_cases hlt:at_<n
 ·have hl1:(at_:Int)<n:=by omega
  obtain⟨b1,o1,rfl,hb1,p⟩:=H.out.k.ks.at at_ hlt;rw[<-HC.out]at p;obtain⟨p0,p1,p2,p3,p4⟩:=p;clear hlt;go_enter Tryz.func103,Tryz.ntmps103
  go_upto_region 3 with fail
  have hbA:Below w.heap.size w (w.alloc (.cells #[.int .i64 c.tag,.int .i64 c.a,.int .i64 c.b,.int .i64 c.n,.string ⟨c.s.toArray⟩] 61)):=brz.alloc nlz _
  have HCA:=hzz (show E3z w c g (some ⟨b1,o1,none⟩) n cap L er gx x w.heap.size (w.alloc (.cells #[.int .i64 c.tag,.int .i64 c.a,.int .i64 c.b,.int .i64 c.n,.string ⟨c.s.toArray⟩] 61))from⟨H.out.below hbA,heap_alloc_last w _,hbA,rfl⟩)
  generalize(some ⟨b1,o1,none⟩:Option Addr)=a at*;generalize w.alloc _=W at*;clear hbA p0 p1 p2 p3 p4 k0 k1 q0 q1 klt hb0 hb2 hl1 hb1;generalize w.heap.size=gc at*
  have HNE:=hzz (show gc≠gx by have:=HCA.out.2.2.2;have:=H.out.i.lt;omega);obtain⟨p0,p1,p3⟩:=HCA.out.2.1.box;by_cases h3:c.tag=3
  ·have e3:(c.tag==3)=true:=by rw[h3];rfl
   have HXE:=hzz (show x'={x with ds:=[73],n:=c.n} by rw[HX.out,if_pos h3]);clear HX h3;have hlf0:=HCA.out.1;obtain⟨i0,i1,i2,i3,i4,i5,i6,f1,f2,f3,f4,f5,f6⟩:=hlf0.i.box
   have lc:∀w',C4v gc c w'->w'.cell? ⟨gc,3,none⟩=some (.int .i64 c.n):=fun w' h=>h.box.c3
   go_upto_region 5 with fail
   have hSw:C4v gc c W.drew:=HCA.out.2.1
   refine A0g (C4v gc c) (.of [(0,true),(1,true),(2,true),(3,true),(4,true),(5,true),(6,false),(7,true),(8,true),(9,false)] (.stir [])) (by kernel_rfl) (by kernel_rfl) (fun c a d v w h=>by cases d<;>exact h) ?_
   iterate 6
    refine A0b fun K hK=>tkF ?_
    go_simp
    try go_bits
    refine hK _ _ ?_;clear hK K
   refine A0b fun K hK=>alF ?_
   go_step;have hl1:LfI (W.drew.setCell ⟨gx,5,none⟩ (.string ⟨#[73]⟩)) g a n cap L er gx {x with ds:=[73]}:=(HCA.out.1.below (brz.drew)).put 5 _ ((HCA.out.1.i.below (brz.drew)).set5 [73])
   have hc1:C4v gc c (W.drew.setCell ⟨gx,5,none⟩ (.string ⟨#[73]⟩)):=A1d HCA.out.2.1 HNE.out _ _
   have hk1:A0j (fun k=>k=g\/k=gx) w (W.drew.setCell ⟨gx,5,none⟩ (.string ⟨#[73]⟩)):=((A0j.of HCA.out.2.2.1).trans (A0j.of (brz.drew))).set (.inl (.inr rfl)) 5 _
   first|refine⟨hc1,hK _ _ ?_⟩|skip
   clear hK K i0 i1 i2 i3 i4 i5 i6 f1 f2 f3 f4 f5 f6;change A5d _ _ _ _ _ _ (W.drew.setCell ⟨gx,5,none⟩ (.string ⟨#[73]⟩));generalize W.drew.setCell ⟨gx,5,none⟩ (.string ⟨#[73]⟩)=W1 at*
   have hSw:C4v gc c W1:=hc1;obtain⟨i0,i1,i2,i3,i4,i5,i6,f1,f2,f3,f4,f5,f6⟩:=hl1.i.box
   iterate 2
    refine A0b fun K hK=>tkF ?_
    go_simp
    try go_bits
    refine hK _ _ ?_;clear hK K
   refine A0b fun K hK=>alF ?_
   go_step
   have hl2:LfI (W1.setCell ⟨gx,1,none⟩ (.int .i64 c.n)) g a n cap L er gx x':=by
    have:=hl1.put 1 (.int .i64 c.n) (hl1.i.set1 c.n);rw[HXE.out];exact this
   have hc2:C4v gc c (W1.setCell ⟨gx,1,none⟩ (.int .i64 c.n)):=A1d hc1 HNE.out _ _
   have hk2:A0j (fun k=>k=g\/k=gx) w (W1.setCell ⟨gx,1,none⟩ (.int .i64 c.n)):=hk1.set (.inl (.inr rfl)) 1 _
   first|refine⟨hc2,hK _ _ ?_⟩|skip
   clear hK K i0 i1 i2 i3 i4 i5 i6 f1 f2 f3 f4 f5 f6;generalize W1.setCell ⟨gx,1,none⟩ (.int .i64 c.n)=W2 at*;refine A0k (B1s W2) (fun y hy=>by obtain rfl:y=W2:=hy;exact hc2) rfl ?_
   refine A0n (fun yy hy=> ?_);obtain rfl:W2=yy:=Eq.symm hy;have HL:=hzz hl2;have HK:=hzz hk2;clear hl1 hc1 hk1 hl2 hc2 hk2 lc hlf0
   obtain⟨i0,i1,i2,i3,i4,i5,i6,f1,f2,f3,f4,f5,f6⟩:=HL.out.i.box;obtain⟨D,hD⟩:=exz (x'.ds)
   have li0:∀w',A3u gx x' w'->w'.cell? ⟨gx,0,none⟩=some (.int .u8 (x'.op:Nat)):=fun w' h=>h.box.c0
   have li5:∀w',A3u gx x' w'->w'.cell? ⟨gx,5,none⟩=some (.string ⟨D.toArray⟩):=fun w' h=>by rw[hD];exact h.box.c5
   have HCC:=hzz (show B1m x'=(!D.isEmpty&&(decide (D=[74])==decide (x'.op=20))) by rw[hD];rfl);have HNE2:=hzz (fun ok=>A4q W2.drew g a n cap L er ok 8 (HL.out.k.below (brz.drew)))
   generalize B1m x'=CC at*;generalize x'.op=xo at*;clear hD i0 i1 i2 i3 i4 i5 i6 f1 f2 f3 f4 f5 f6
   go_upto_region 10 with fail
   cases D with
   |nil=>
    have hCC:CC=false:=HCC.out;subst hCC;have hSw:A3u gx x' W2.drew:=HL.out.i
    refine A0g (A3u gx x') (.of [(0,true),(1,true),(2,true),(3,true),(4,true),(5,true),(6,true),(7,true),(8,true),(9,true),(10,true),(11,true),(12,true),(13,true),(14,true),(15,true),(16,true),(17,true),(18,true),(19,false)] (.stir [])) (by kernel_rfl) (by kernel_rfl) (fun c a d v w h=>by cases d<;>exact h) ?_
    iterate 7
     refine A0b fun K hK=>tkF ?_
     go_simp
     try go_bits
     refine hK _ _ ?_;clear hK K
    iterate 11
     refine A0b fun K hK=>skF ?_
     go_simp;refine hK _ _ ?_;clear hK K
    iterate 1
     refine A0b fun K hK=>tkF ?_
     go_simp
     try go_bits
     refine hK _ _ ?_;clear hK K
    refine A0b fun K hK=>alF ?_
    go_step;refine(HNE2.out false).mono ?_;rintro e W3 ⟨rfl,h3,k3⟩
    have HL3:=hzz (show LfI W3 g a n cap L (A2t er false 8) gx x' from⟨h3,(HL.out.i.below (brz.drew)).keep k3 HL.out.ne,HL.out.ne,HL.out.z,HL.out.off⟩)
    have HK3:=hzz ((HK.out.trans (A0j.of (brz.drew))).trans (k3.weak (fun k _ e=>Or.inl e)));clear h3 k3;go_simp
    first|refine⟨HL3.out.i,hK _ _ ?_⟩|skip
    clear hK K;refine A0k (B1s W3) (fun y hy=>by obtain rfl:y=W3:=hy;exact HL3.out.i) rfl ?_;refine A0n (fun yy hy=> ?_);obtain rfl:W3=yy:=Eq.symm hy
    go_wp2_with fail
    go_end0;exact⟨rfl,HL3.out,HK3.out⟩
   |cons d0 D0=>
   obtain⟨y74,hy74⟩:∃y,y=decide (d0::D0=[74]):=⟨_,rfl⟩;obtain⟨y20,hy20⟩:∃y,y=decide (xo=20):=⟨_,rfl⟩
   have e74:(d0::D0==[74])=y74:=by rw[hy74,Bool.eq_iff_iff,beq_iff_eq,decide_eq_true_iff]
   have e20:((xo:Int)==20)=y20:=by rw[hy20,Bool.eq_iff_iff,beq_iff_eq,decide_eq_true_iff];omega
   have hCC:CC=(y74==y20):=by rw[HCC.out,hy74,hy20];rfl
   subst hCC;clear hy74 hy20 HCC;have hSw:A3u gx x' W2.drew:=HL.out.i
   refine A0g (A3u gx x') (.of [(0,true),(1,true),(2,true),(3,true),(4,true),(5,true),(6,true),(7,true),(8,true),(9,true),(10,true),(11,true),(12,true),(13,true),(14,true),(15,true),(16,true),(17,true),(18,true),(19,false)] (.stir [])) (by kernel_rfl) (by kernel_rfl) (fun c a d v w h=>by cases d<;>exact h) ?_
   iterate 19
    refine A0b fun K hK=>tkF ?_
    go_simp
    try go_bits
    refine hK _ _ ?_;clear hK K
   refine A0b fun K hK=>alF ?_
   go_step;refine(HNE2.out (y74==y20)).mono ?_;rintro e W3 ⟨rfl,h3,k3⟩
   have HL3:=hzz (show LfI W3 g a n cap L (A2t er (y74==y20) 8) gx x' from⟨h3,(HL.out.i.below (brz.drew)).keep k3 HL.out.ne,HL.out.ne,HL.out.z,HL.out.off⟩)
   have HK3:=hzz ((HK.out.trans (A0j.of (brz.drew))).trans (k3.weak (fun k _ e=>Or.inl e)));clear h3 k3;go_simp
   first|refine⟨HL3.out.i,hK _ _ ?_⟩|skip
   clear hK K;refine A0k (B1s W3) (fun y hy=>by obtain rfl:y=W3:=hy;exact HL3.out.i) rfl ?_;refine A0n (fun yy hy=> ?_);obtain rfl:W3=yy:=Eq.symm hy
   go_wp2_with fail
   go_end0;exact⟨rfl,HL3.out,HK3.out⟩
  have e3:(c.tag==3)=false:=by simpa using h3
  by_cases h5:c.tag=5
  ·have e5:(c.tag==5)=true:=by rw[h5];rfl
   have HXE:=hzz (show x'={x with ds:=[74],n:=c.n} by rw[HX.out,if_neg h3,if_pos h5]);clear HX h3 h5;have hlf0:=HCA.out.1
   obtain⟨i0,i1,i2,i3,i4,i5,i6,f1,f2,f3,f4,f5,f6⟩:=hlf0.i.box;have lc:∀w',C4v gc c w'->w'.cell? ⟨gc,3,none⟩=some (.int .i64 c.n):=fun w' h=>h.box.c3
   go_upto_region 7 with fail
   have hSw:C4v gc c W.drew:=HCA.out.2.1
   refine A0g (C4v gc c) (.of [(0,true),(1,true),(2,true),(3,true),(4,true),(5,true),(6,false),(7,true),(8,true),(9,false)] (.stir [])) (by kernel_rfl) (by kernel_rfl) (fun c a d v w h=>by cases d<;>exact h) ?_
   iterate 6
    refine A0b fun K hK=>tkF ?_
    go_simp
    try go_bits
    refine hK _ _ ?_;clear hK K
   refine A0b fun K hK=>alF ?_
   go_step;have hl1:LfI (W.drew.setCell ⟨gx,5,none⟩ (.string ⟨#[74]⟩)) g a n cap L er gx {x with ds:=[74]}:=(HCA.out.1.below (brz.drew)).put 5 _ ((HCA.out.1.i.below (brz.drew)).set5 [74])
   have hc1:C4v gc c (W.drew.setCell ⟨gx,5,none⟩ (.string ⟨#[74]⟩)):=A1d HCA.out.2.1 HNE.out _ _
   have hk1:A0j (fun k=>k=g\/k=gx) w (W.drew.setCell ⟨gx,5,none⟩ (.string ⟨#[74]⟩)):=((A0j.of HCA.out.2.2.1).trans (A0j.of (brz.drew))).set (.inl (.inr rfl)) 5 _
   first|refine⟨hc1,hK _ _ ?_⟩|skip
   clear hK K i0 i1 i2 i3 i4 i5 i6 f1 f2 f3 f4 f5 f6;change A5d _ _ _ _ _ _ (W.drew.setCell ⟨gx,5,none⟩ (.string ⟨#[74]⟩));generalize W.drew.setCell ⟨gx,5,none⟩ (.string ⟨#[74]⟩)=W1 at*
   have hSw:C4v gc c W1:=hc1;obtain⟨i0,i1,i2,i3,i4,i5,i6,f1,f2,f3,f4,f5,f6⟩:=hl1.i.box
   iterate 2
    refine A0b fun K hK=>tkF ?_
    go_simp
    try go_bits
    refine hK _ _ ?_;clear hK K
   refine A0b fun K hK=>alF ?_
   go_step
   have hl2:LfI (W1.setCell ⟨gx,1,none⟩ (.int .i64 c.n)) g a n cap L er gx x':=by
    have:=hl1.put 1 (.int .i64 c.n) (hl1.i.set1 c.n);rw[HXE.out];exact this
   have hc2:C4v gc c (W1.setCell ⟨gx,1,none⟩ (.int .i64 c.n)):=A1d hc1 HNE.out _ _
   have hk2:A0j (fun k=>k=g\/k=gx) w (W1.setCell ⟨gx,1,none⟩ (.int .i64 c.n)):=hk1.set (.inl (.inr rfl)) 1 _
   first|refine⟨hc2,hK _ _ ?_⟩|skip
   clear hK K i0 i1 i2 i3 i4 i5 i6 f1 f2 f3 f4 f5 f6;generalize W1.setCell ⟨gx,1,none⟩ (.int .i64 c.n)=W2 at*;refine A0k (B1s W2) (fun y hy=>by obtain rfl:y=W2:=hy;exact hc2) rfl ?_
   refine A0n (fun yy hy=> ?_);obtain rfl:W2=yy:=Eq.symm hy;have HL:=hzz hl2;have HK:=hzz hk2;clear hl1 hc1 hk1 hl2 hc2 hk2 lc hlf0
   obtain⟨i0,i1,i2,i3,i4,i5,i6,f1,f2,f3,f4,f5,f6⟩:=HL.out.i.box;obtain⟨D,hD⟩:=exz (x'.ds)
   have li0:∀w',A3u gx x' w'->w'.cell? ⟨gx,0,none⟩=some (.int .u8 (x'.op:Nat)):=fun w' h=>h.box.c0
   have li5:∀w',A3u gx x' w'->w'.cell? ⟨gx,5,none⟩=some (.string ⟨D.toArray⟩):=fun w' h=>by rw[hD];exact h.box.c5
   have HCC:=hzz (show B1m x'=(!D.isEmpty&&(decide (D=[74])==decide (x'.op=20))) by rw[hD];rfl);have HNE2:=hzz (fun ok=>A4q W2.drew g a n cap L er ok 8 (HL.out.k.below (brz.drew)))
   generalize B1m x'=CC at*;generalize x'.op=xo at*;clear hD i0 i1 i2 i3 i4 i5 i6 f1 f2 f3 f4 f5 f6
   go_upto_region 10 with fail
   cases D with
   |nil=>
    have hCC:CC=false:=HCC.out;subst hCC;have hSw:A3u gx x' W2.drew:=HL.out.i
    refine A0g (A3u gx x') (.of [(0,true),(1,true),(2,true),(3,true),(4,true),(5,true),(6,true),(7,true),(8,true),(9,true),(10,true),(11,true),(12,true),(13,true),(14,true),(15,true),(16,true),(17,true),(18,true),(19,false)] (.stir [])) (by kernel_rfl) (by kernel_rfl) (fun c a d v w h=>by cases d<;>exact h) ?_
    iterate 7
     refine A0b fun K hK=>tkF ?_
     go_simp
     try go_bits
     refine hK _ _ ?_;clear hK K
    iterate 11
     refine A0b fun K hK=>skF ?_
     go_simp;refine hK _ _ ?_;clear hK K
    iterate 1
     refine A0b fun K hK=>tkF ?_
     go_simp
     try go_bits
     refine hK _ _ ?_;clear hK K
    refine A0b fun K hK=>alF ?_
    go_step;refine(HNE2.out false).mono ?_;rintro e W3 ⟨rfl,h3,k3⟩
    have HL3:=hzz (show LfI W3 g a n cap L (A2t er false 8) gx x' from⟨h3,(HL.out.i.below (brz.drew)).keep k3 HL.out.ne,HL.out.ne,HL.out.z,HL.out.off⟩)
    have HK3:=hzz ((HK.out.trans (A0j.of (brz.drew))).trans (k3.weak (fun k _ e=>Or.inl e)));clear h3 k3;go_simp
    first|refine⟨HL3.out.i,hK _ _ ?_⟩|skip
    clear hK K;refine A0k (B1s W3) (fun y hy=>by obtain rfl:y=W3:=hy;exact HL3.out.i) rfl ?_;refine A0n (fun yy hy=> ?_);obtain rfl:W3=yy:=Eq.symm hy
    go_wp2_with fail
    go_end0;exact⟨rfl,HL3.out,HK3.out⟩
   |cons d0 D0=>
   obtain⟨y74,hy74⟩:∃y,y=decide (d0::D0=[74]):=⟨_,rfl⟩;obtain⟨y20,hy20⟩:∃y,y=decide (xo=20):=⟨_,rfl⟩
   have e74:(d0::D0==[74])=y74:=by rw[hy74,Bool.eq_iff_iff,beq_iff_eq,decide_eq_true_iff]
   have e20:((xo:Int)==20)=y20:=by rw[hy20,Bool.eq_iff_iff,beq_iff_eq,decide_eq_true_iff];omega
   have hCC:CC=(y74==y20):=by rw[HCC.out,hy74,hy20];rfl
   subst hCC;clear hy74 hy20 HCC;have hSw:A3u gx x' W2.drew:=HL.out.i
   refine A0g (A3u gx x') (.of [(0,true),(1,true),(2,true),(3,true),(4,true),(5,true),(6,true),(7,true),(8,true),(9,true),(10,true),(11,true),(12,true),(13,true),(14,true),(15,true),(16,true),(17,true),(18,true),(19,false)] (.stir [])) (by kernel_rfl) (by kernel_rfl) (fun c a d v w h=>by cases d<;>exact h) ?_
   iterate 19
    refine A0b fun K hK=>tkF ?_
    go_simp
    try go_bits
    refine hK _ _ ?_;clear hK K
   refine A0b fun K hK=>alF ?_
   go_step;refine(HNE2.out (y74==y20)).mono ?_;rintro e W3 ⟨rfl,h3,k3⟩
   have HL3:=hzz (show LfI W3 g a n cap L (A2t er (y74==y20) 8) gx x' from⟨h3,(HL.out.i.below (brz.drew)).keep k3 HL.out.ne,HL.out.ne,HL.out.z,HL.out.off⟩)
   have HK3:=hzz ((HK.out.trans (A0j.of (brz.drew))).trans (k3.weak (fun k _ e=>Or.inl e)));clear h3 k3;go_simp
   first|refine⟨HL3.out.i,hK _ _ ?_⟩|skip
   clear hK K;refine A0k (B1s W3) (fun y hy=>by obtain rfl:y=W3:=hy;exact HL3.out.i) rfl ?_;refine A0n (fun yy hy=> ?_);obtain rfl:W3=yy:=Eq.symm hy
   go_wp2_with fail
   go_end0;exact⟨rfl,HL3.out,HK3.out⟩
  have e5:(c.tag==5)=false:=by simpa using h5
  by_cases h8:c.tag=8
  ·have e8:(c.tag==8)=true:=by rw[h8];rfl
   have HXE:=hzz (show x'={x with ds:=[83],tx:=A1k L c.a} by rw[HX.out,if_neg h3,if_neg h5,if_pos h8]);have HT:=hzz (A9k W g a n cap L er c.a HCA.out.1.k)
   obtain⟨i0,i1,i2,i3,i4,i5,i6,f1,f2,f3,f4,f5,f6⟩:=HCA.out.1.i.box;generalize A1k L c.a=s at*;clear HX h3 h5 h8
   go_wp2_with fail
   refine HT.out.mono ?_;rintro e W0 ⟨rfl,rfl⟩
   go_upto_region 10 with fail
   have hl1:=HCA.out.1.put 5 (.string ⟨[83].toArray⟩) (HCA.out.1.i.set5 [83]);have hl2:=hl1.put 6 (.string ⟨s.toArray⟩) (hl1.i.set6 s)
   have HL:=hzz (show LfI ((W0.setCell ⟨gx,5,none⟩ (.string ⟨#[83]⟩)).setCell ⟨gx,6,none⟩ (.string ⟨s.toArray⟩)) g a n cap L er gx x' by rw[HXE.out];exact hl2)
   have HK:=hzz (show A0j (fun k=>k=g\/k=gx) w ((W0.setCell ⟨gx,5,none⟩ (.string ⟨#[83]⟩)).setCell ⟨gx,6,none⟩ (.string ⟨s.toArray⟩))from((A0j.of HCA.out.2.2.1).set (.inl (.inr rfl)) 5 _).set (.inl (.inr rfl)) 6 _)
   clear hl1 hl2 i0 i1 i2 i3 i4 i5 i6 f1 f2 f3 f4 f5 f6;generalize(W0.setCell ⟨gx,5,none⟩ (.string ⟨#[83]⟩)).setCell ⟨gx,6,none⟩ (.string ⟨s.toArray⟩)=W2 at*
   obtain⟨i0,i1,i2,i3,i4,i5,i6,f1,f2,f3,f4,f5,f6⟩:=HL.out.i.box;obtain⟨D,hD⟩:=exz (x'.ds)
   have li0:∀w',A3u gx x' w'->w'.cell? ⟨gx,0,none⟩=some (.int .u8 (x'.op:Nat)):=fun w' h=>h.box.c0
   have li5:∀w',A3u gx x' w'->w'.cell? ⟨gx,5,none⟩=some (.string ⟨D.toArray⟩):=fun w' h=>by rw[hD];exact h.box.c5
   have HCC:=hzz (show B1m x'=(!D.isEmpty&&(decide (D=[74])==decide (x'.op=20))) by rw[hD];rfl);have HNE2:=hzz (fun ok=>A4q W2.drew g a n cap L er ok 8 (HL.out.k.below (brz.drew)))
   generalize B1m x'=CC at*;generalize x'.op=xo at*;clear hD i0 i1 i2 i3 i4 i5 i6 f1 f2 f3 f4 f5 f6
   go_upto_region 10 with fail
   cases D with
   |nil=>
    have hCC:CC=false:=HCC.out;subst hCC;have hSw:A3u gx x' W2.drew:=HL.out.i
    refine A0g (A3u gx x') (.of [(0,true),(1,true),(2,true),(3,true),(4,true),(5,true),(6,true),(7,true),(8,true),(9,true),(10,true),(11,true),(12,true),(13,true),(14,true),(15,true),(16,true),(17,true),(18,true),(19,false)] (.stir [])) (by kernel_rfl) (by kernel_rfl) (fun c a d v w h=>by cases d<;>exact h) ?_
    iterate 7
     refine A0b fun K hK=>tkF ?_
     go_simp
     try go_bits
     refine hK _ _ ?_;clear hK K
    iterate 11
     refine A0b fun K hK=>skF ?_
     go_simp;refine hK _ _ ?_;clear hK K
    iterate 1
     refine A0b fun K hK=>tkF ?_
     go_simp
     try go_bits
     refine hK _ _ ?_;clear hK K
    refine A0b fun K hK=>alF ?_
    go_step;refine(HNE2.out false).mono ?_;rintro e W3 ⟨rfl,h3,k3⟩
    have HL3:=hzz (show LfI W3 g a n cap L (A2t er false 8) gx x' from⟨h3,(HL.out.i.below (brz.drew)).keep k3 HL.out.ne,HL.out.ne,HL.out.z,HL.out.off⟩)
    have HK3:=hzz ((HK.out.trans (A0j.of (brz.drew))).trans (k3.weak (fun k _ e=>Or.inl e)));clear h3 k3;go_simp
    first|refine⟨HL3.out.i,hK _ _ ?_⟩|skip
    clear hK K;refine A0k (B1s W3) (fun y hy=>by obtain rfl:y=W3:=hy;exact HL3.out.i) rfl ?_;refine A0n (fun yy hy=> ?_);obtain rfl:W3=yy:=Eq.symm hy
    go_wp2_with fail
    go_end0;exact⟨rfl,HL3.out,HK3.out⟩
   |cons d0 D0=>
   obtain⟨y74,hy74⟩:∃y,y=decide (d0::D0=[74]):=⟨_,rfl⟩;obtain⟨y20,hy20⟩:∃y,y=decide (xo=20):=⟨_,rfl⟩
   have e74:(d0::D0==[74])=y74:=by rw[hy74,Bool.eq_iff_iff,beq_iff_eq,decide_eq_true_iff]
   have e20:((xo:Int)==20)=y20:=by rw[hy20,Bool.eq_iff_iff,beq_iff_eq,decide_eq_true_iff];omega
   have hCC:CC=(y74==y20):=by rw[HCC.out,hy74,hy20];rfl
   subst hCC;clear hy74 hy20 HCC;have hSw:A3u gx x' W2.drew:=HL.out.i
   refine A0g (A3u gx x') (.of [(0,true),(1,true),(2,true),(3,true),(4,true),(5,true),(6,true),(7,true),(8,true),(9,true),(10,true),(11,true),(12,true),(13,true),(14,true),(15,true),(16,true),(17,true),(18,true),(19,false)] (.stir [])) (by kernel_rfl) (by kernel_rfl) (fun c a d v w h=>by cases d<;>exact h) ?_
   iterate 19
    refine A0b fun K hK=>tkF ?_
    go_simp
    try go_bits
    refine hK _ _ ?_;clear hK K
   refine A0b fun K hK=>alF ?_
   go_step;refine(HNE2.out (y74==y20)).mono ?_;rintro e W3 ⟨rfl,h3,k3⟩
   have HL3:=hzz (show LfI W3 g a n cap L (A2t er (y74==y20) 8) gx x' from⟨h3,(HL.out.i.below (brz.drew)).keep k3 HL.out.ne,HL.out.ne,HL.out.z,HL.out.off⟩)
   have HK3:=hzz ((HK.out.trans (A0j.of (brz.drew))).trans (k3.weak (fun k _ e=>Or.inl e)));clear h3 k3;go_simp
   first|refine⟨HL3.out.i,hK _ _ ?_⟩|skip
   clear hK K;refine A0k (B1s W3) (fun y hy=>by obtain rfl:y=W3:=hy;exact HL3.out.i) rfl ?_;refine A0n (fun yy hy=> ?_);obtain rfl:W3=yy:=Eq.symm hy
   go_wp2_with fail
   go_end0;exact⟨rfl,HL3.out,HK3.out⟩
  have e8:(c.tag==8)=false:=by simpa using h8
  have HXE:=hzz (show x'=x by rw[HX.out,if_neg h3,if_neg h5,if_neg h8]);clear HX h3 h5 h8
  go_upto_region 10 with fail
  have HL:=hzz (show LfI W g a n cap L er gx x' by rw[HXE.out];exact HCA.out.1);have HK:=hzz (show A0j (fun k=>k=g\/k=gx) w W from A0j.of HCA.out.2.2.1);obtain⟨W2,hW2⟩:=exz (W);subst hW2
  obtain⟨i0,i1,i2,i3,i4,i5,i6,f1,f2,f3,f4,f5,f6⟩:=HL.out.i.box;obtain⟨D,hD⟩:=exz (x'.ds)
  have li0:∀w',A3u gx x' w'->w'.cell? ⟨gx,0,none⟩=some (.int .u8 (x'.op:Nat)):=fun w' h=>h.box.c0
  have li5:∀w',A3u gx x' w'->w'.cell? ⟨gx,5,none⟩=some (.string ⟨D.toArray⟩):=fun w' h=>by rw[hD];exact h.box.c5
  have HCC:=hzz (show B1m x'=(!D.isEmpty&&(decide (D=[74])==decide (x'.op=20))) by rw[hD];rfl);have HNE2:=hzz (fun ok=>A4q W2.drew g a n cap L er ok 8 (HL.out.k.below (brz.drew)))
  generalize B1m x'=CC at*;generalize x'.op=xo at*;clear hD i0 i1 i2 i3 i4 i5 i6 f1 f2 f3 f4 f5 f6
  go_upto_region 10 with fail
  cases D with
  |nil=>
   have hCC:CC=false:=HCC.out;subst hCC;have hSw:A3u gx x' W2.drew:=HL.out.i
   refine A0g (A3u gx x') (.of [(0,true),(1,true),(2,true),(3,true),(4,true),(5,true),(6,true),(7,true),(8,true),(9,true),(10,true),(11,true),(12,true),(13,true),(14,true),(15,true),(16,true),(17,true),(18,true),(19,false)] (.stir [])) (by kernel_rfl) (by kernel_rfl) (fun c a d v w h=>by cases d<;>exact h) ?_
   iterate 7
    refine A0b fun K hK=>tkF ?_
    go_simp
    try go_bits
    refine hK _ _ ?_;clear hK K
   iterate 11
    refine A0b fun K hK=>skF ?_
    go_simp;refine hK _ _ ?_;clear hK K
   iterate 1
    refine A0b fun K hK=>tkF ?_
    go_simp
    try go_bits
    refine hK _ _ ?_;clear hK K
   refine A0b fun K hK=>alF ?_
   go_step;refine(HNE2.out false).mono ?_;rintro e W3 ⟨rfl,h3,k3⟩
   have HL3:=hzz (show LfI W3 g a n cap L (A2t er false 8) gx x' from⟨h3,(HL.out.i.below (brz.drew)).keep k3 HL.out.ne,HL.out.ne,HL.out.z,HL.out.off⟩)
   have HK3:=hzz ((HK.out.trans (A0j.of (brz.drew))).trans (k3.weak (fun k _ e=>Or.inl e)));clear h3 k3;go_simp
   first|refine⟨HL3.out.i,hK _ _ ?_⟩|skip
   clear hK K;refine A0k (B1s W3) (fun y hy=>by obtain rfl:y=W3:=hy;exact HL3.out.i) rfl ?_;refine A0n (fun yy hy=> ?_);obtain rfl:W3=yy:=Eq.symm hy
   go_wp2_with fail
   go_end0;exact⟨rfl,HL3.out,HK3.out⟩
  |cons d0 D0=>
  obtain⟨y74,hy74⟩:∃y,y=decide (d0::D0=[74]):=⟨_,rfl⟩;obtain⟨y20,hy20⟩:∃y,y=decide (xo=20):=⟨_,rfl⟩
  have e74:(d0::D0==[74])=y74:=by rw[hy74,Bool.eq_iff_iff,beq_iff_eq,decide_eq_true_iff]
  have e20:((xo:Int)==20)=y20:=by rw[hy20,Bool.eq_iff_iff,beq_iff_eq,decide_eq_true_iff];omega
  have hCC:CC=(y74==y20):=by rw[HCC.out,hy74,hy20];rfl
  subst hCC;clear hy74 hy20 HCC;have hSw:A3u gx x' W2.drew:=HL.out.i
  refine A0g (A3u gx x') (.of [(0,true),(1,true),(2,true),(3,true),(4,true),(5,true),(6,true),(7,true),(8,true),(9,true),(10,true),(11,true),(12,true),(13,true),(14,true),(15,true),(16,true),(17,true),(18,true),(19,false)] (.stir [])) (by kernel_rfl) (by kernel_rfl) (fun c a d v w h=>by cases d<;>exact h) ?_
  iterate 19
   refine A0b fun K hK=>tkF ?_
   go_simp
   try go_bits
   refine hK _ _ ?_;clear hK K
  refine A0b fun K hK=>alF ?_
  go_step;refine(HNE2.out (y74==y20)).mono ?_;rintro e W3 ⟨rfl,h3,k3⟩
  have HL3:=hzz (show LfI W3 g a n cap L (A2t er (y74==y20) 8) gx x' from⟨h3,(HL.out.i.below (brz.drew)).keep k3 HL.out.ne,HL.out.ne,HL.out.z,HL.out.off⟩)
  have HK3:=hzz ((HK.out.trans (A0j.of (brz.drew))).trans (k3.weak (fun k _ e=>Or.inl e)));clear h3 k3;go_simp
  first|refine⟨HL3.out.i,hK _ _ ?_⟩|skip
  clear hK K;refine A0k (B1s W3) (fun y hy=>by obtain rfl:y=W3:=hy;exact HL3.out.i) rfl ?_;refine A0n (fun yy hy=> ?_);obtain rfl:W3=yy:=Eq.symm hy
  go_wp2_with fail
  go_end0;exact⟨rfl,HL3.out,HK3.out⟩
 have hl1:¬(at_:Int)<n:=by omega
 have hcz:c=kz:=by
  rw[HC.out];unfold kAt;rw[Int.toNat_natCast,List.getD_eq_getElem?_getD,List.getElem?_eq_none (by have:=HN.out;omega)];rfl
 have HX0:=hzz (show x'=x by rw[HX.out,hcz];rfl);subst hcz;clear HX HC hlt;go_enter Tryz.func103,Tryz.ntmps103
 go_upto_region 10 with fail
 have hbA:Below w.heap.size w (w.alloc (.cells #[.int .i64 0,.int .i64 0,.int .i64 0,.int .i64 0,.string ⟨#[]⟩] 61)):=brz.alloc nlz _
 have HL:=hzz (show LfI (w.alloc (.cells #[.int .i64 0,.int .i64 0,.int .i64 0,.int .i64 0,.string ⟨#[]⟩] 61)) g a n cap L er gx x' by rw[HX0.out];exact H.out.below hbA)
 have HK:=hzz (show A0j (fun k=>k=g\/k=gx) w (w.alloc (.cells #[.int .i64 0,.int .i64 0,.int .i64 0,.int .i64 0,.string ⟨#[]⟩] 61))from A0j.of hbA);generalize w.alloc _=W2 at*
 clear hbA k0 k1 q0 q1 klt hb0 hb2 hl1;obtain⟨i0,i1,i2,i3,i4,i5,i6,f1,f2,f3,f4,f5,f6⟩:=HL.out.i.box;obtain⟨D,hD⟩:=exz (x'.ds)
 have li0:∀w',A3u gx x' w'->w'.cell? ⟨gx,0,none⟩=some (.int .u8 (x'.op:Nat)):=fun w' h=>h.box.c0
 have li5:∀w',A3u gx x' w'->w'.cell? ⟨gx,5,none⟩=some (.string ⟨D.toArray⟩):=fun w' h=>by rw[hD];exact h.box.c5
 have HCC:=hzz (show B1m x'=(!D.isEmpty&&(decide (D=[74])==decide (x'.op=20))) by rw[hD];rfl);have HNE2:=hzz (fun ok=>A4q W2.drew g a n cap L er ok 8 (HL.out.k.below (brz.drew)))
 generalize B1m x'=CC at*;generalize x'.op=xo at*;clear hD i0 i1 i2 i3 i4 i5 i6 f1 f2 f3 f4 f5 f6
 go_upto_region 10 with fail
 cases D with
 |nil=>
  have hCC:CC=false:=HCC.out;subst hCC;have hSw:A3u gx x' W2.drew:=HL.out.i
  refine A0g (A3u gx x') (.of [(0,true),(1,true),(2,true),(3,true),(4,true),(5,true),(6,true),(7,true),(8,true),(9,true),(10,true),(11,true),(12,true),(13,true),(14,true),(15,true),(16,true),(17,true),(18,true),(19,false)] (.stir [])) (by kernel_rfl) (by kernel_rfl) (fun c a d v w h=>by cases d<;>exact h) ?_
  iterate 7
   refine A0b fun K hK=>tkF ?_
   go_simp
   try go_bits
   refine hK _ _ ?_;clear hK K
  iterate 11
   refine A0b fun K hK=>skF ?_
   go_simp;refine hK _ _ ?_;clear hK K
  iterate 1
   refine A0b fun K hK=>tkF ?_
   go_simp
   try go_bits
   refine hK _ _ ?_;clear hK K
  refine A0b fun K hK=>alF ?_
  go_step;refine(HNE2.out false).mono ?_;rintro e W3 ⟨rfl,h3,k3⟩
  have HL3:=hzz (show LfI W3 g a n cap L (A2t er false 8) gx x' from⟨h3,(HL.out.i.below (brz.drew)).keep k3 HL.out.ne,HL.out.ne,HL.out.z,HL.out.off⟩)
  have HK3:=hzz ((HK.out.trans (A0j.of (brz.drew))).trans (k3.weak (fun k _ e=>Or.inl e)));clear h3 k3;go_simp
  first|refine⟨HL3.out.i,hK _ _ ?_⟩|skip
  clear hK K;refine A0k (B1s W3) (fun y hy=>by obtain rfl:y=W3:=hy;exact HL3.out.i) rfl ?_;refine A0n (fun yy hy=> ?_);obtain rfl:W3=yy:=Eq.symm hy
  go_wp2_with fail
  go_end0;exact⟨rfl,HL3.out,HK3.out⟩
 |cons d0 D0=>
 obtain⟨y74,hy74⟩:∃y,y=decide (d0::D0=[74]):=⟨_,rfl⟩;obtain⟨y20,hy20⟩:∃y,y=decide (xo=20):=⟨_,rfl⟩
 have e74:(d0::D0==[74])=y74:=by rw[hy74,Bool.eq_iff_iff,beq_iff_eq,decide_eq_true_iff]
 have e20:((xo:Int)==20)=y20:=by rw[hy20,Bool.eq_iff_iff,beq_iff_eq,decide_eq_true_iff];omega
 have hCC:CC=(y74==y20):=by rw[HCC.out,hy74,hy20];rfl
 subst hCC;clear hy74 hy20 HCC;have hSw:A3u gx x' W2.drew:=HL.out.i
 refine A0g (A3u gx x') (.of [(0,true),(1,true),(2,true),(3,true),(4,true),(5,true),(6,true),(7,true),(8,true),(9,true),(10,true),(11,true),(12,true),(13,true),(14,true),(15,true),(16,true),(17,true),(18,true),(19,false)] (.stir [])) (by kernel_rfl) (by kernel_rfl) (fun c a d v w h=>by cases d<;>exact h) ?_
 iterate 19
  refine A0b fun K hK=>tkF ?_
  go_simp
  try go_bits
  refine hK _ _ ?_;clear hK K
 refine A0b fun K hK=>alF ?_
 go_step;refine(HNE2.out (y74==y20)).mono ?_;rintro e W3 ⟨rfl,h3,k3⟩
 have HL3:=hzz (show LfI W3 g a n cap L (A2t er (y74==y20) 8) gx x' from⟨h3,(HL.out.i.below (brz.drew)).keep k3 HL.out.ne,HL.out.ne,HL.out.z,HL.out.off⟩)
 have HK3:=hzz ((HK.out.trans (A0j.of (brz.drew))).trans (k3.weak (fun k _ e=>Or.inl e)));clear h3 k3;go_simp
 first|refine⟨HL3.out.i,hK _ _ ?_⟩|skip
 clear hK K;refine A0k (B1s W3) (fun y hy=>by obtain rfl:y=W3:=hy;exact HL3.out.i) rfl ?_;refine A0n (fun yy hy=> ?_);obtain rfl:W3=yy:=Eq.symm hy
 go_wp2_with fail
 go_end0;exact⟨rfl,HL3.out,HK3.out⟩
def C8n(L:List KV)(x:IN)(at_ t:Int):IN:={x with cl:=(A1j L at_ t).1,nm:=(A1j L at_ t).2.1,ds:=(A1j L at_ t).2.2.1}
def B9b(p:List UInt8->Bool)(L:List KV)(at_ t:Int):Bool:=(A1j L at_ t).2.2.2&&(classB (A1j L at_ t).1&&(A7d (A1j L at_ t).2.1&&p (A1j L at_ t).2.2.1))
theorem C5h(w:World)(g:Nat)(a:Option Addr)(n cap:Nat)(L:List KV)(er:Int)(gx:Nat)(x:IN)(at_ t:Int)(fis:Nat)(p:List UInt8->Bool)
  (hen:∀(args:Array Value) (W:World),(callFunc fis args).run Tryz.prog W= .ok (.enter fis args) W)
  (hp:∀(W:World) (s:List UInt8),s.length<=65536->VW W->Calls Tryz.prog fis #[.string ⟨s.toArray⟩] W fun e w'=>e= .returned (.bool (p s))/\Below W.heap.size W w') (h:LfI w g a n cap L er gx x):
  Calls Tryz.prog 104 #[.pointer (some ⟨g,0,none⟩),.pointer (some ⟨gx,0,none⟩),.int .i64 at_,.int .i64 t,.func (.func fis) #[] #[]] w (D7m g a n cap L (A2t er (B9b p L at_ t) 8) gx (C8n L x at_ t) w):=by
 have HM:=hzz (C8z w a n cap L at_ t h.k.ks h.k.sm);obtain⟨l1,l2,l3⟩:=A9u h.k.tx at_ t;have H:=hzz h
 have HC:B9b p L at_ t=((A1j L at_ t).2.2.2&&(classB (A1j L at_ t).1&&(A7d (A1j L at_ t).2.1&&p (A1j L at_ t).2.2.1))):=rfl
 have hX:C8n L x at_ t={x with cl:=(A1j L at_ t).1,nm:=(A1j L at_ t).2.1,ds:=(A1j L at_ t).2.2.1}:=rfl;generalize B9b p L at_ t=C at*;generalize C8n L x at_ t=x' at*
 unfold A1s at HM;generalize(A1j L at_ t).1=s1 at*;generalize(A1j L at_ t).2.1=s2 at*;generalize(A1j L at_ t).2.2.1=s3 at*;generalize(A1j L at_ t).2.2.2=b at*
 have HX:=hzz hX;have HI1:=hzz (fun W (hv:VW W)=>A7k W s1 (by omega) hv);have HI2:=hzz (fun W (hv:VW W)=>A5n W s2 l2 hv);have HI3:=hzz (fun W (hv:VW W)=>hp W s3 l3 hv)
 generalize classB s1=x1 at*;generalize A7d s2=x2 at*;generalize p s3=x3 at*;obtain⟨k0,k1,q0,q1,klt⟩:=h.k.k.box;clear h hX hp l1 l2 l3;go_enter Tryz.func104,Tryz.ntmps104
 go_wp2_with fail
 refine HM.out.mono ?_;rintro e W0 ⟨rfl,hb0⟩;have H0:=hzz (H.out.below hb0);have HK0:=hzz (show A0j (fun k=>k=g\/k=gx) w W0 from A0j.of hb0);clear hb0 k0 k1 q0 q1 klt
 obtain⟨i0,i1,i2,i3,i4,i5,i6,f1,f2,f3,f4,f5,f6⟩:=H0.out.i.box
 go_upto_region 2 with fail
 have hl1:=H0.out.put 3 (.string ⟨s1.toArray⟩) (H0.out.i.set3 s1);have hl2:=hl1.put 4 (.string ⟨s2.toArray⟩) (hl1.i.set4 s2);have hl3:=hl2.put 5 (.string ⟨s3.toArray⟩) (hl2.i.set5 s3)
 have HL:=hzz (show LfI (((W0.setCell ⟨gx,3,none⟩ (.string ⟨s1.toArray⟩)).setCell ⟨gx,4,none⟩ (.string ⟨s2.toArray⟩)).setCell ⟨gx,5,none⟩ (.string ⟨s3.toArray⟩)) g a n cap L er gx x' by rw[HX.out];exact hl3)
 have HK:=hzz (show A0j (fun k=>k=g\/k=gx) w (((W0.setCell ⟨gx,3,none⟩ (.string ⟨s1.toArray⟩)).setCell ⟨gx,4,none⟩ (.string ⟨s2.toArray⟩)).setCell ⟨gx,5,none⟩ (.string ⟨s3.toArray⟩))from((HK0.out.set (.inl (.inr rfl)) 3 _).set (.inl (.inr rfl)) 4 _).set (.inl (.inr rfl)) 5 _)
 clear hl1 hl2 hl3 i0 i1 i2 i3 i4 i5 i6 f1 f2 f3 f4 f5 f6 HK0 H0
 generalize((W0.setCell ⟨gx,3,none⟩ (.string ⟨s1.toArray⟩)).setCell ⟨gx,4,none⟩ (.string ⟨s2.toArray⟩)).setCell ⟨gx,5,none⟩ (.string ⟨s3.toArray⟩)=W2 at*
 have HFIN:=hzz (fun W (hb:Below W2.heap.size W2 W) ok=>(A4q W g a n cap L er ok 8 (HL.out.k.below hb)).mono (R':=fun e W3=>e= .returned (.tuple #[])/\LfI W3 g a n cap L (A2t er ok 8) gx x'/\A0j (fun k=>k=g\/k=gx) w W3) (by
  rintro e W3 ⟨rfl,h3,k3⟩;exact⟨rfl,⟨h3,(HL.out.i.below hb).keep k3 HL.out.ne,HL.out.ne,HL.out.z,HL.out.off⟩,(HK.out.trans (A0j.of hb)).trans (k3.weak (fun k _ e=>Or.inl e))⟩))
 have HBX:=hzz (fun W (hb:Below W2.heap.size W2 W)=>(HL.out.i.below hb).box);have HBR:=hzz (Below.refl W2.heap.size W2);have hvs:x'.cl=s1/\x'.nm=s2/\x'.ds=s3:=by rw[HX.out];exact⟨rfl,rfl,rfl⟩
 obtain⟨v1,v2,v3⟩:=hvs
 cases b
 ·have hC:C=false:=HC;subst hC;clear HC
  go_wp2_with fail
  refine(HFIN.out W2 HBR.out false).mono ?_;rintro e W9 ⟨rfl,hl,hk⟩
  go_wp2_with fail
  go_end0;exact⟨rfl,hl,hk⟩
 obtain⟨i0,i1,i2,i3,i4,i5,i6,f1,f2,f3,f4,f5,f6⟩:=HBX.out W2 HBR.out;rw[v1]at i3;rw[v2]at i4;rw[v3]at i5
 go_wp2_with fail
 refine(HI1.out W2 (HL.out.k.vw.below HBR.out)).mono ?_;rintro e W3 ⟨rfl,hb⟩;have HB3:=btz HBR hb;clear hb i0 i1 i2 i3 i4 i5 i6 f1 f2 f3 f4 f5 f6
 cases x1
 ·have hC:C=false:=HC;subst hC;clear HC
  go_wp2_with fail
  refine(HFIN.out W3 HB3.out false).mono ?_;rintro e W9 ⟨rfl,hl,hk⟩
  go_wp2_with fail
  go_end0;exact⟨rfl,hl,hk⟩
 obtain⟨i0,i1,i2,i3,i4,i5,i6,f1,f2,f3,f4,f5,f6⟩:=HBX.out W3 HB3.out;rw[v1]at i3;rw[v2]at i4;rw[v3]at i5
 go_wp2_with fail
 refine(HI2.out W3 (HL.out.k.vw.below HB3.out)).mono ?_;rintro e W4 ⟨rfl,hb⟩;have HB4:=btz HB3 hb;clear hb i0 i1 i2 i3 i4 i5 i6 f1 f2 f3 f4 f5 f6
 cases x2
 ·have hC:C=false:=HC;subst hC;clear HC
  go_wp2_with fail
  refine(HFIN.out W4 HB4.out false).mono ?_;rintro e W9 ⟨rfl,hl,hk⟩
  go_wp2_with fail
  go_end0;exact⟨rfl,hl,hk⟩
 obtain⟨i0,i1,i2,i3,i4,i5,i6,f1,f2,f3,f4,f5,f6⟩:=HBX.out W4 HB4.out;rw[v1]at i3;rw[v2]at i4;rw[v3]at i5
 go_wp2_with fail
 refine(HI3.out W4 (HL.out.k.vw.below HB4.out)).mono ?_;rintro e W5 ⟨rfl,hb⟩;have HB5:=btz HB4 hb;clear hb i0 i1 i2 i3 i4 i5 i6 f1 f2 f3 f4 f5 f6;have hC:C=x3:=HC;subst hC;clear HC
 go_wp2_with fail
 refine(HFIN.out W5 HB5.out C).mono ?_;rintro e W9 ⟨rfl,hl,hk⟩
 go_wp2_with fail
 go_end0;exact⟨rfl,hl,hk⟩
end
section
open Go.ChangeShapes Go.WideShapes Go.ChangeAt Go.RowKit Go.Maps
def ixF(p:Int):List RW->Nat->Option Nat->Option Nat
 |[],_,acc=>acc
 |r::L,i,acc=>ixF p L (i+1) (if r.pos=p then some i else acc)
def B7n(L:List RW)(p:Int):Option Nat:=ixF p L 0 none
def plF:List RW->Nat->DataW Unit->DataW Unit
 |[],_,D=>D
 |r::L,i,D=>plF L (i+1) (D.put (.int .i64 r.pos) (.lit (.int .i64 (i:Nat))))
theorem C6r:∀(L:List RW) (r:RW) (i:Nat) (D:DataW Unit),plF (L++[r]) i D=(plF L i D).put (.int .i64 r.pos) (.lit (.int .i64 ((i+L.length:Nat):Int)))
 |[],r,i,D=>by simp[plF]
 |q::L,r,i,D=>by
  rw[List.cons_append,plF,plF,C6r L r (i+1)];rw[show i+1+L.length=i+(q::L).length by simp;omega]
theorem D8g(p:Int)(z:DataW Unit):∀(L:List RW) (i:Nat) (D:DataW Unit) (acc:Option Nat),Maps.IsMap D->D.atKey (.int .i64 p) z=(match acc with|some k=> .lit (.int .i64 (k:Nat))|none=>z)->
  (plF L i D).atKey (.int .i64 p) z=(match ixF p L i acc with|some k=> .lit (.int .i64 (k:Nat))|none=>z)
 |[],i,D,acc,_,h=>h
 |r::L,i,D,acc,hD,h=>by
  rw[plF,ixF];refine D8g p z L (i+1) _ _ (hD.put _ _) ?_;by_cases h2:r.pos=p
  ·rw[if_pos h2,h2,Maps.atKey_put_same hD (by trivial)]
  rw[if_neg h2,Maps.atKey_put_other (by intro h;cases h;exact h2 rfl)]
  exact h
def B3a(L:List RW):DataW Unit:=plF L 0 (.map [])
theorem A8f(L:List RW)(p:Int)(z:DataW Unit):(B3a L).atKey (.int .i64 p) z=(match B7n L p with|some k=> .lit (.int .i64 (k:Nat))|none=>z):=
 D8g p z L 0 _ none Maps.isMap_empty rfl
def A9a(w:World)(b:Nat)(L:List RW):Prop:=w.ownsMap Tryz.prog 3 (plainElem (H:=Unit) Tryz.prog 3) b L.length (B3a L)
theorem D3t(w:World):(zeroValue 3).run Tryz.prog w= .ok (.int .i64 0) w:=by kernel_rfl
theorem E0y{w:World}{b:Nat}{L:List RW}(h:A9a w b L)(p:Int)(hp:A4p p):
  (Instr.lookup 115 (.map (some b)) (.int .i64 p) false).run Tryz.prog w= .ok (.int .i64 (((B7n L p).getD 0:Nat):Int)) w:=by
 obtain⟨c,hrun,hat,_⟩:=h.lookup_int (int_keyed Tryz.underlying3) Tryz.underlying115 Tryz.underlying3 (D3t w) (Maps.keyOf_int_mk Tryz.underlying3 hp);rw[A8f]at hat;rw[hrun]
 cases hx:B7n L p with
 |none=>rw[hx]at hat;simp at hat;simp[<-hat]
 |some k=>rw[hx]at hat;simp at hat;simp[<-hat]
theorem C9g{w:World}{b:Nat}{L:List RW}(h:A9a w b L)(p:Int)(hp:A4p p):
  (Instr.lookup 115 (.map (some b)) (.int .i64 p) true).run Tryz.prog w= .ok (.tuple #[.int .i64 (((B7n L p).getD 0:Nat):Int),.bool (B7n L p).isSome]) w:=by
 obtain⟨v,ps,hrun,hv⟩:=h.look_ok (int_keyed Tryz.underlying3) Tryz.underlying115 (D3t w) (plainElem_int Tryz.underlying3 (a:=0) (by decide)) (Maps.keyOf_int_mk Tryz.underlying3 hp)
 obtain⟨c,rfl,hc,_⟩:=plainElem_int_inv Tryz.underlying3 hv;simp only[Prod.mk.injEq]at hc;have hat:=hc.1;have hn:=A8f L p .nil;rw[A8f]at hat;rw[hrun]
 cases hx:B7n L p with
 |none=>
  rw[hx]at hat hn;simp only at hat hn;rw[Maps.has_false_of_atKey (fun z=>by rw[A8f,hx])];simp at hat;simp[<-hat]
 |some k=>
 rw[hx]at hat hn;simp only at hat hn;rw[Maps.has_true_of_atKey (fun z=>by rw[A8f,hx])];simp at hat;simp[<-hat]
def E3x(L:List RW)(w:World)(e:Ending)(w':World):Prop:=∃b,e= .returned (.map (some b))/\w.heap.size<=b/\A9a w' b L/\Below w.heap.size w w'
theorem C4s(w:World)(a:Option Addr)(n cap:Nat)(L:List RW)(hs:Rs w a n L)(hn:n<=65536)(hw:∀r∈L,A4p r.pos):Calls Tryz.prog 54 #[.slice a n cap] w (E3x L w):=by
 have HS:=hzz hs;have HLn:=hzz hs.1;have HW:=hzz hw;have hmm:= @run_makeMap Tryz.prog;clear hs hw;go_enter Tryz.func54,Tryz.ntmps54
 go_wp2_with fail
 clear hmm
 go_loopg [9] n (fun gn i wr=>∃j:Nat,j<=n/\gn=n-j/\i= .int .i64 j/\Hid (wr.ownsMap Tryz.prog 3 (plainElem (H:=Unit) Tryz.prog 3) w.heap.size j (B3a (L.take j)))/\Hid (Below w.heap.size w wr))
 case atStart=>exact⟨0,by omega,by omega,by go_num,hzz (World.ownsMap_made _ _ _ _),hzz (brz.alloc nlz _)⟩
 obtain⟨j,hj,rfl,rfl,HM,HB⟩:=hrel;by_cases hlt:j<n
 ·obtain⟨b,off,r,rfl,_,hr,q⟩:=(HS.out.below HB.out).at j hlt;obtain⟨q0,q1,q2,q3⟩:=q;have hrp:=HW.out r (List.mem_of_getElem? hr)
  have HN:=hzz (show B3a (L.take (j+1))=(B3a (L.take j)).put (.int .i64 r.pos) (.lit (.int .i64 (j:Nat))) by
   have hjl:=(gsz hr).1;have he:=(gsz hr).2;unfold B3a;rw[List.take_succ_eq_append_getElem hjl,C6r,he,List.length_take,Nat.min_eq_left (by omega),Nat.zero_add])
  have j1:(j:Int)<n:=by omega
  have hjw:(Lit.int .i64 (j:Int)).wf=true:=A1u (by omega);clear hr;obtain⟨p,k,x,y⟩:=r;simp only at q0 q1 q2 q3 hrp HN
  obtain⟨w',hrun,hown,hturn⟩:=(HM.out.alloc (.cells #[.int .i64 p,.int .u8 (k:Nat),.int .i64 x,.int .i64 y] 118)).store (int_keyed Tryz.underlying3) Tryz.underlying115 (by unfold maxLen;omega) (val:= .int .i64 (j:Nat)) (Maps.keyOf_int_mk Tryz.underlying3 hrp) (plainElem_int Tryz.underlying3 hjw)
  have HM2:=hzz hown
  have HB2:=hzz ((HB.out.alloc HB.out.size (.cells #[.int .i64 p,.int .u8 (k:Nat),.int .i64 x,.int .i64 y] 118)).grown hturn.grown (Nat.le_trans HB.out.size (by simp)) (fun m hm=>by cases hm;exact Nat.le_refl _))
  clear hown hturn hrp hjw
  go_wp2_with fail
  go_roundg (n-(j+1))
  case measure=>omega
  exact⟨j+1,by omega,rfl,by go_num,hzz (by rw[HN.out];exact HM2.out),HB2⟩
 obtain rfl:j=n:=by omega
 have HE:=hzz HM.out;rw[List.take_of_length_le (by rw[HLn.out];exact Nat.le_refl _)]at HE
 go_wp2_with fail
 go_ret;exact⟨_,rfl,Nat.le_refl _,by unfold A9a;rw[HLn.out];exact HE.out,HB.out⟩
end
section
open Go.ChangeShapes Go.WideShapes Go.ChangeAt Go.RowKit
def plV(L:List RW)(cn:Nat)(n:Int)(en:Bool):Nat:=if en=true/\n=cn then L.length else(B7n L n).getD 0
def plC(L:List RW)(cn:Nat)(n:Int)(en:Bool):Bool:=(en&&decide (n=cn))||(B7n L n).isSome
structure E0d(w:World)(gm gl ga gk g:Nat)(m:KM)(la:Option Addr)(ln lc:Nat)(L:List RW)(b:Nat):Prop where
 m:w.heap[gm]? =some (.cells m.cells.toArray 65 (0,0))
 l:w.heap[gl]? =some (.cells #[.slice la ln lc] 112 (0,0))
 a:w.heap[ga]? =some (.cells #[.map (some b)] 115 (0,0))
 k:w.heap[gk]? =some (.cells #[.pointer (some ⟨g,0,none⟩)] 70 (0,0))
 p:A9a w b L
 len:ln=L.length
 nm:gm≠g
 nl:gl≠g
 na:ga≠g
 nk:gk≠g
 nb:b≠g
theorem A9a.keep{w w':World}{b:Nat}{L:List RW}{p:Nat->Prop}(h:A9a w b L)(hk:A0j p w w')(hp:¬p b):A9a w' b L:=by
 have hg:World.grownBy w' w' none:=⟨rfl,rfl,rfl,Nat.le_refl _,fun _ _ _=>rfl⟩;obtain⟨es,clock,hb,F,hn,hD⟩:=h
 exact⟨es,clock,by rw[hk.block b (Array.getElem?_eq_some_iff.1 hb).1 hp];exact hb,F,hn,hD⟩
theorem B0m(w:World)(g:Nat)(a:Option Addr)(n cap:Nat)(K:List KV)(er:Int)(gm gl ga gk:Nat)(m:KM)(la:Option Addr)(ln lc:Nat)(L:List RW)(b:Nat)(p:Int)(en:Bool)(hp:A4p p)(hcn:m.cn<=9223372036854775807)(hln:ln<=65536)
  (h:LfS w g a n cap K er) (hs:E0d w gm gl ga gk g m la ln lc L b):
  Calls Tryz.prog 56 #[.int .i64 p,.bool en,.pointer (some ⟨gm,0,none⟩),.pointer (some ⟨gl,0,none⟩),.pointer (some ⟨ga,0,none⟩),.pointer (some ⟨gk,0,none⟩)] w (E0a (.int .i64 (plV L m.cn p en:Nat)) g a n cap K (A2t er (plC L m.cn p en) 2) w):=by
 have HS:=hzz hs;have HN:=hzz (fun ok=>A4q w g a n cap K er ok 2 h);have H:=hzz h;have m5:w.cell? ⟨gm,5,none⟩=some (.slice m.ca m.cn m.cc):=A0a hs.m 5 rfl
 have l0:w.cell? ⟨gl,0,none⟩=some (.slice la ln lc):=A0a hs.l 0 rfl;have a0:w.cell? ⟨ga,0,none⟩=some (.map (some b)):=A0a hs.a 0 rfl
 have k0:w.cell? ⟨gk,0,none⟩=some (.pointer (some ⟨g,0,none⟩)):=A0a hs.k 0 rfl;have hlk:=C9g hs.p p hp
 have HV:plV L m.cn p en=if en=true/\p=m.cn then L.length else(B7n L p).getD 0:=rfl
 have HC:plC L m.cn p en=((en&&decide (p=m.cn))||(B7n L p).isSome):=rfl;have HLN:=hzz hs.len;generalize plV L m.cn p en=V at*;generalize plC L m.cn p en=C at*
 generalize(B7n L p).getD 0=x at*;generalize(B7n L p).isSome=s at*;generalize m.cn=cn at*;generalize m.ca=ca at*;generalize m.cc=cc at*;clear h hs hp;have c0:(0:Int)<=cn:=by omega
 have c1:(cn:Int)<=9223372036854775807:=by omega
 cases en
 ·have hV:V=x:=by rw[HV,if_neg (by simp)]
  have hC:C=s:=by rw[HC];rfl
  subst hV hC;clear HV HC;go_enter Tryz.func56,Tryz.ntmps56
  go_wp2_with fail
  refine(HN.out C).mono ?_;rintro e W3 ⟨rfl,hl,hk⟩
  go_wp2_with fail
  go_ret;exact⟨rfl,hl,hk⟩
 by_cases he:p=cn
 ·have e1:(p==(cn:Int))=true:=by simpa using he
  have hV:V=ln:=by rw[HV,if_pos ⟨rfl,he⟩,HLN.out]
  have hC:C=true:=by rw[HC,decide_eq_true he];rfl
  have hE:A2t er true 2=er:=by unfold A2t;rw[if_neg (fun h=>absurd h.1 (by decide))]
  subst hV hC;rw[hE];clear HV HC he hE;go_enter Tryz.func56,Tryz.ntmps56
  go_wp2_with fail
  go_ret;exact⟨rfl,H.out,A0j.refl _ _⟩
 have e1:(p==(cn:Int))=false:=by simpa using he
 have hV:V=x:=by rw[HV,if_neg (fun h=>he h.2)]
 have hC:C=s:=by rw[HC,decide_eq_false he];rfl
 subst hV hC;clear HV HC he;go_enter Tryz.func56,Tryz.ntmps56
 go_wp2_with fail
 refine(HN.out C).mono ?_;rintro e W3 ⟨rfl,hl,hk⟩
 go_wp2_with fail
 go_ret;exact⟨rfl,hl,hk⟩
end
end Go.Proofs.YtclpkipaehpkdaaGreatDoor
