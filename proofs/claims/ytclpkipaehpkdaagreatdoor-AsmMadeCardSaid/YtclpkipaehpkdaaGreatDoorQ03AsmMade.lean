/- asm -/
import Derived.Test.YtclpkipaehpkdaaGreatDoorQ00AsmMade
import Derived.Maps.OwnSet
import Derived.Laws.StructEq
set_option linter.unusedVariables false
set_option linter.unusedSimpArgs false
set_option maxRecDepth 100000
set_option maxHeartbeats 64000000
namespace Go.Proofs.YtclpkipaehpkdaaGreatDoor
section
open Go.ChangeShapes Go.WideShapes Go.ChangeAt Go.RowKit
structure RW where
 pos:Int
 op:Nat
 a:Int
 b:Int
def RW.cells(r:RW):List Value:=[.int .i64 r.pos,.int .u8 (r.op:Nat),.int .i64 r.a,.int .i64 r.b]
theorem RW.cells_length(r:RW):r.cells.length=4:=rfl
def thereB(l:List RW)(p:Int):Bool:=l.any fun r=>r.pos==p
def A7e(l:List RW):Bool:=l.all fun r=> !(A0g r.op==7)||thereB l r.a
def A3t(bs:List UInt8)(p f:Nat):Int:=(B0c bs ((p:Int)+1) ((max (A0w f-1) 1:Nat):Int)).1
def A3a(bs:List UInt8)(p f:Nat):Int:=
 let v:=A3t bs p f
 if f=1 then 0 else if f=3 then A2q v 1 else if f=4 then A2q v 2 else if f=7 then(p:Int)+A2q v 2 else if f=8 then v/256 else v
def A4c(bs:List UInt8)(p f:Nat):Int:=if f=8 then A2q (A3t bs p f) 1 else 0
def A5k(bs:List UInt8)(p f:Nat):Bool:=f==9&& !(A3a bs p f==8)&& !(A3a bs p f==10)
def A6n(bs:List UInt8)(p:Nat):Nat:=(bs.getD p 0).toNat
def B2j(bs:List UInt8)(p:Nat):RW:=⟨p,A6n bs p,A3a bs p (A0g (A6n bs p)),A4c bs p (A0g (A6n bs p))⟩
def B1v(bs:List UInt8):Nat->Nat->List RW->Int×List RW
 |0,_,acc=>(0,acc)
 |fuel+1,p,acc=>
  if bs.length<=p then(0,acc)
  else if A0g (A6n bs p)=0 then(8,[])
  else if bs.length-p<A0w (A0g (A6n bs p))then(6,[])
  else if A5k bs p (A0g (A6n bs p))=true then(8,[])
  else B1v bs fuel (p+A0w (A0g (A6n bs p))) (acc++[B2j bs p])
def A2h(bs:List UInt8):Int×List RW:=
 if 4096<bs.length then(9,[])
 else if(B1v bs (bs.length+1) 0 []).1≠0 then((B1v bs (bs.length+1) 0 []).1,[])
 else if A7e (B1v bs (bs.length+1) 0 []).2=true then(0,(B1v bs (bs.length+1) 0 []).2)
 else(2,[])
def A1h(r:RW)(f:Nat):Bool:=
 if f≠8/\r.b≠0 then false
 else if f=1 then decide (r.a=0)
 else if f=3 then decide (-128<=r.a/\r.a<=127)
 else if f=4 then decide (-32768<=r.a/\r.a<=32767)
 else if f=6 then decide (0<=r.a/\r.a<=65535)
 else if f=9 then decide (r.a=8\/r.a=10)
 else if f=8 then decide (0<=r.a/\r.a<=255)&&decide (-128<=r.b/\r.b<=127)
 else if f=2\/f=5 then decide (0<=r.a/\r.a<=255)
 else decide (f=7)
def A7n(n:Int):Nat:=(n%18446744073709551616).toNat
theorem C1e(n:Int):A7n n<18446744073709551616:=by unfold A7n;omega
theorem B1m(n:Int):IntKind.u64.wrap n=(A7n n:Int):=by rw[IntKind.wrap_u64];unfold A7n;omega
def A4h(r:RW):List UInt8:=
 UInt8.ofNat r.op::(if A0g r.op=7 then A7x (A7n (r.a-r.pos)) 2 else if A0g r.op=8 then A7x (A7n r.a) 1++A7x (A7n r.b) 1 else A7x (A7n r.a) (A0w (A0g r.op) -1))
def A6s(l:List RW):List UInt8:=l.flatMap A4h
def A3m(l:List RW)(k:Nat):Bool:=
 match l[k]? with
 |some r=>A1h r (A0g r.op)&&decide (r.pos=((A6s (l.take k)).length:Nat))
 |none=>true
def A1t(l:List RW):Int×List UInt8:=
 if(List.range l.length).all (A3m l)=false then(8,[])
 else if A7e l=false then(2,[])
 else if 4096<(A6s l).length then(9,[])
 else(0,A6s l)
theorem B0v{t e:TypeId}{len:Nat}(ht:Tryz.prog.underlying t=some (.array len e))(hs:∀w,(sizeOf e).run Tryz.prog w= .ok 1 w)(hp:∀w (cs:Array Value) (i:Nat) (v:Value),cs[i]? =some v->(part e cs i).run Tryz.prog w= .ok v w){cs:Array Value}{k:Nat}(hk:k<len){v:Value}(hx:cs[k]? =some v)(kd:IntKind)(w:World):
  (Instr.index t (.agg cs) (.int kd k)).run Tryz.prog w= .ok v w:=by
 have h2:(0:Int)<=(k:Int)/\(k:Int)<(len:Int):=⟨by omega,by omega⟩;simp[Instr.index,asIntOf,run_underlying ht,hk,hs,hp _ _ _ _ hx]
theorem C7x(w:World):(sizeOf 5).run Tryz.prog w= .ok 1 w:=by kernel_rfl
theorem B5y{e:TypeId}{d:TypeDesc}(h1:Tryz.prog.underlying e=some d)(h2:(match d with| .struct _| .array _ _=>false|_=>true)=true)(w:World)(cs:Array Value)(i:Nat)(v:Value)(h3:cs[i]? =some v):(part e cs i).run Tryz.prog w= .ok v w:=by
 cases d<;>simp[part,isAgg,run_underlying h1,h3]at h2⊢
theorem D5z(w:World)(f:Nat->Nat)(k:Nat)(h:k<256)(kd:IntKind):(Instr.index 164 (.agg (A8s f)) (.int kd k)).run Tryz.prog w= .ok (.int .u8 (f k:Nat)) w:=
 B0v Tryz.underlying164 C7x (B5y Tryz.underlying5 rfl) h (B0s f k h) kd w
def B7e(v:Value)(w:World)(e:Ending)(w':World):Prop:=e= .returned v/\Below w.heap.size w w'
theorem B1b(w:World)(k:Nat)(hk:k<256):Calls Tryz.prog 102 #[.int .u8 (k:Nat)] w (B7e (.int .i64 (A0g k:Nat)) w):=by
 have h9:=A4z k;go_enter Tryz.func102,Tryz.ntmps102
 go_wp2_with fail
 refine(B3q _).mono ?_;rintro e w1 ⟨rfl,hb1⟩;have HB:=hzz hb1;have hi:=D5z w1 A0g k hk .u8;clear hb1;generalize A0g k=f at*
 go_wp2_with fail
 go_ret;exact⟨rfl,HB.out⟩
theorem B3d(f:Nat):A0w f<=3:=by
 unfold A0w
 match f with
 |0|1|2|3|4|5|6|7|8|9=>decide
 |n+10=>simp
theorem A4k(w:World)(f:Nat)(hf:f<=9):Calls Tryz.prog 99 #[.int .i64 (f:Nat)] w fun e w'=>e= .returned (.int .i64 (A0w f:Nat))/\w=w':=by
 have hi:=fun(w:World)=>B0v (cs:= #[.int .u8 0,.int .u8 1,.int .u8 2,.int .u8 2,.int .u8 3,.int .u8 2,.int .u8 3,.int .u8 3,.int .u8 3,.int .u8 2]) (v:= .int .u8 (A0w f:Nat)) (k:=f) Tryz.underlying209 C7x (B5y Tryz.underlying5 rfl) (by omega) (by
  match f,hf with
  |0,_|1,_|2,_|3,_|4,_|5,_|6,_|7,_|8,_|9,_=>rfl
  |n+10,h=>omega) .i64 w
 have h3:=B3d f;generalize A0w f=s at*;go_enter Tryz.func99,Tryz.ntmps99
 go_wp2_with fail
 go_ret;exact⟨rfl,rfl⟩
theorem D2v(w:World)(k:Nat)(hk:k<256):Calls Tryz.prog 122 #[.int .u8 (k:Nat)] w (B7e (.int .i64 (A0w (A0g k):Nat)) w):=by
 have h9:=A4z k;go_enter Tryz.func122,Tryz.ntmps122
 go_wp2_with fail
 refine(B1b _ k hk).mono ?_;rintro e w1 ⟨rfl,hb1⟩;have HB:=hzz hb1;clear hb1
 go_wp2_with fail
 refine(A4k _ _ h9).mono ?_;rintro e w' ⟨rfl,rfl⟩
 go_wp2_with fail
 go_ret;exact⟨rfl,HB.out⟩
end
section
open Go.ChangeShapes Go.WideShapes Go.ChangeAt Go.RowKit
open Go.Maps (Keyed int_keyed)
def Rs(w:World)(a:Option Addr)(n:Nat)(L:List RW):Prop:=Ss 4 RW.cells w a n L
theorem Rs.below{w w':World}{a:Option Addr}{n:Nat}{L:List RW}(h:Rs w a n L)(hb:Below w.heap.size w w'):Rs w' a n L:=Ss.below h hb
structure RAt(w:World)(b o:Nat)(p:Int)(k:Nat)(x y:Int):Prop where
 c0:w.cell? ⟨b,o,none⟩=some (.int .i64 p)
 c1:w.cell? ⟨b,o+1,none⟩=some (.int .u8 (k:Nat))
 c2:w.cell? ⟨b,o+2,none⟩=some (.int .i64 x)
 c3:w.cell? ⟨b,o+3,none⟩=some (.int .i64 y)
theorem Rs.at{w:World}{a:Option Addr}{n:Nat}{L:List RW}(h:Rs w a n L)(i:Nat)(hi:i<n):∃b off r,a=some ⟨b,off,none⟩/\b<w.heap.size/\L[i]? =some r/\RAt w b (off+i*4) r.pos r.op r.a r.b:=by
 obtain⟨b,off,ha,hlt,hc⟩:=h.2 (by omega);have hl:i<L.length:=by rw[h.1];exact hi
 exact⟨b,off,L[i],ha,hlt,List.getElem?_eq_getElem hl,hc i hl 0 (by omega),hc i hl 1 (by omega),hc i hl 2 (by omega),hc i hl 3 (by omega)⟩
def A4b(n:Int):Prop:=(Lit.int .i64 n).wf=true
def A9i(L:List RW):DataW Unit:=L.foldl (fun D r=>D.put (.int .i64 r.pos) (.lit (.bool true))) (.map [])
theorem B1d{H:Type}{P:Program}{e:TypeId}(he:P.underlying e=some .bool){v:Value}{z:DataW H×List MemPlace}(h:plainElem P e v=some z):∃x,v= .bool x/\z=(.lit (.bool x),[]):=by
 unfold plainElem at h;rw[he]at h
 cases v<;>simp at h
 exact⟨_,rfl,h.symm⟩
theorem C6x(r:RW)(L:List RW)(p:Int):thereB (r::L) p=(r.pos==p||thereB L p):=rfl
theorem D7z(L:List RW)(D:DataW Unit)(hD:Maps.IsMap D)(p:Int)(z:DataW Unit):
  (L.foldl (fun D r=>D.put (.int .i64 r.pos) (.lit (.bool true))) D).atKey (.int .i64 p) z=if thereB L p=true then .lit (.bool true)else D.atKey (.int .i64 p) z:=by
 induction L generalizing D with
 |nil=>simp[thereB]
 |cons r L ih=>
  rw[List.foldl_cons,ih _ (hD.put _ _),C6x];by_cases h1:thereB L p=true
  ·simp[h1]
  by_cases h2:r.pos=p
  ·subst h2;rw[Maps.atKey_put_same hD (by trivial)];simp
  rw[Maps.atKey_put_other (by intro h;cases h;exact h2 rfl)]
  simp[h1,h2]
theorem C9r(L:List RW)(p:Int):(A9i L).atKey (.int .i64 p) (.lit (.bool false))= .lit (.bool (thereB L p)):=by
 unfold A9i;rw[D7z L _ Maps.isMap_empty]
 cases thereB L p
 ·simp;rfl
 simp
theorem D4b(w:World):(zeroValue 4).run Tryz.prog w= .ok (.bool false) w:=by kernel_rfl
theorem D1h{w:World}{b n:Nat}{L:List RW}(h:w.ownsMap Tryz.prog 3 (plainElem Tryz.prog 4) b n (A9i L))(p:Int)(hp:A4b p):
  (Instr.lookup 211 (.map (some b)) (.int .i64 p) false).run Tryz.prog w= .ok (.bool (thereB L p)) w:=by
 obtain⟨v,ps,hrun,hv⟩:=h.lookup (int_keyed Tryz.underlying3) Tryz.underlying211 (D4b w) (plainElem_bool Tryz.underlying4 false) (Maps.keyOf_int_mk Tryz.underlying3 hp)
 obtain⟨x,rfl,hx⟩:=B1d Tryz.underlying4 hv;rw[C9r]at hx;simp at hx;rw[hrun,hx.1]
def C8a(L:List RW)(w:World)(e:Ending)(w':World):Prop:=∃b,e= .returned (.map (some b))/\w.heap.size<=b/\w'.ownsMap Tryz.prog 3 (plainElem (H:=Unit) Tryz.prog 4) b L.length (A9i L)/\Below w.heap.size w w'
theorem C5k(w:World)(a:Option Addr)(n cap:Nat)(L:List RW)(hs:Rs w a n L)(hn:n<=65536)(hw:∀r∈L,A4b r.pos):Calls Tryz.prog 149 #[.slice a n cap] w (C8a L w):=by
 have HS:=hzz hs;have HLn:=hzz hs.1;have HW:=hzz hw;have hmm:= @run_makeMap Tryz.prog;clear hs hw;go_enter Tryz.func149,Tryz.ntmps149
 go_wp2_with fail
 clear hmm
 go_loopg [9] n (fun gn i wr=>∃j:Nat,j<=n/\gn=n-j/\i= .int .i64 j/\Hid (wr.ownsMap Tryz.prog 3 (plainElem (H:=Unit) Tryz.prog 4) w.heap.size j (A9i (L.take j)))/\Hid (Below w.heap.size w wr))
 case atStart=>exact⟨0,by omega,by omega,by go_num,hzz (World.ownsMap_made _ _ _ _),hzz (brz.alloc nlz _)⟩
 obtain⟨j,hj,rfl,rfl,HM,HB⟩:=hrel;by_cases hlt:j<n
 ·obtain⟨b,off,r,rfl,_,hr,q⟩:=(HS.out.below HB.out).at j hlt;obtain⟨q0,q1,q2,q3⟩:=q;have hrp:=HW.out r (List.mem_of_getElem? hr)
  have HN:=hzz (show A9i (L.take (j+1))=(A9i (L.take j)).put (.int .i64 r.pos) (.lit (.bool true)) by
   have hjl:=(gsz hr).1;have he:=(gsz hr).2;unfold A9i;rw[List.take_succ_eq_append_getElem hjl,List.foldl_append,he];rfl)
  have j1:(j:Int)<n:=by omega
  clear hr;obtain⟨p,k,x,y⟩:=r;simp only at q0 q1 q2 q3 hrp HN
  obtain⟨w',hrun,hown,hturn⟩:=(HM.out.alloc (.cells #[.int .i64 p,.int .u8 (k:Nat),.int .i64 x,.int .i64 y] 118)).store (int_keyed Tryz.underlying3) Tryz.underlying211 (by unfold maxLen;omega) (val:= .bool true) (Maps.keyOf_int_mk Tryz.underlying3 hrp) (plainElem_bool Tryz.underlying4 true)
  have HM2:=hzz hown
  have HB2:=hzz ((HB.out.alloc HB.out.size (.cells #[.int .i64 p,.int .u8 (k:Nat),.int .i64 x,.int .i64 y] 118)).grown hturn.grown (Nat.le_trans HB.out.size (by simp)) (fun m hm=>by cases hm;exact Nat.le_refl _))
  clear hown hturn hrp
  go_wp2_with fail
  go_roundg (n-(j+1))
  case measure=>omega
  exact⟨j+1,by omega,rfl,by go_num,hzz (by rw[HN.out];exact HM2.out),HB2⟩
 obtain rfl:j=n:=by omega
 have HE:=hzz HM.out;rw[List.take_of_length_le (by rw[HLn.out];exact Nat.le_refl _)]at HE
 go_wp2_with fail
 go_ret;exact⟨_,rfl,Nat.le_refl _,by rw[HLn.out];exact HE.out,HB.out⟩
def D6i(L:List RW)(w:World)(e:Ending)(w':World):Prop:=e= .returned (.bool (A7e L))/\Below w.heap.size w w'
theorem D3u{L:List RW}{r:RW}(hr:r∈L)(h:(!(A0g r.op==7)||thereB L r.a)=false):A7e L=false:=by
 unfold A7e;rw[List.all_eq_false];exact⟨r,hr,by rw[h];decide⟩
theorem C7e{L:List RW}(h:∀(k:Nat) r,L[k]? =some r->(!(A0g r.op==7)||thereB L r.a)=true):A7e L=true:=by
 unfold A7e;rw[List.all_eq_true];intro r hr;obtain⟨k,hk,rfl⟩:=List.getElem_of_mem hr;exact h k _ (List.getElem?_eq_getElem hk)
theorem C3h(w:World)(a:Option Addr)(n cap:Nat)(L:List RW)(hs:Rs w a n L)(hn:n<=65536)(hw:∀r∈L,A4b r.pos/\A4b r.a/\r.op<256):Calls Tryz.prog 101 #[.slice a n cap,.agg (A8s A0g)] w (D6i L w):=by
 have HS:=hzz hs;have HLn:=hzz hs.1;have HW:=hzz hw;have hpl:=C5k (w.alloc (.cells (A8s A0g) 164)) a n cap L (hs.below (brz.alloc nlz _)) hn (fun r hr=>(hw r hr).1);have HP:=hzz hpl
 clear hs hw hpl;go_enter Tryz.func101,Tryz.ntmps101
 go_wp2_with fail
 refine HP.out.mono ?_;rintro e w1 ⟨b,rfl,hb0,hm1,hb1⟩;have hT:=heap_alloc_last w (.cells (A8s A0g) 164);rw[<-hb1.block _ (by simp)]at hT;have HT:=hzz hT;have HM:=hzz hm1
 have HB1:=hzz (((Below.refl w.heap.size w).alloc nlz (.cells (A8s A0g) 164)).trans (hb1.mono (by simp)));clear hb0 hm1 hb1 hT HP
 go_wp2_with fail
 go_loopg [12] n (fun gn i wr=>∃j:Nat,j<=n/\gn=n-j/\i= .int .i64 j/\Hid (∀(k:Nat) r,k<j->L[k]? =some r->(!(A0g r.op==7)||thereB L r.a)=true)/\Hid (Below w1.heap.size w1 wr))
 case atStart=>exact⟨0,by omega,by omega,by go_num,hzz (fun k r h=>by omega),hzz brz⟩
 obtain⟨j,hj,rfl,rfl,HG,HB⟩:=hrel;have HBB:=btz HB1 HB.out;by_cases hlt:j<n
 ·obtain⟨bb,off,r,rfl,_,hr,q⟩:=(HS.out.below HBB.out).at j hlt;obtain⟨q0,q1,q2,q3⟩:=q;obtain⟨_,hra,hop⟩:=HW.out r (List.mem_of_getElem? hr)
  have hT:wr.heap[w.heap.size]? =some (.cells (A8s A0g) 164):=by rw[HB.out.block _ (Array.getElem?_eq_some_iff.1 HT.out).1];exact HT.out
  have tc:wr.cell? ⟨w.heap.size,r.op,none⟩=some (.int .u8 (A0g r.op:Nat)):=by rw[cell_of_row wr _ _ _ _ _ hT];exact B0s _ _ hop
  have hk:=D1h (((HM.out.kept (row:=none) ⟨HB.out.os,HB.out.tape,HB.out.output,HB.out.size,fun k hk _=>HB.out.block k hk⟩ (by simp)).alloc (.cells #[.int .i64 r.pos,.int .u8 (r.op:Nat),.int .i64 r.a,.int .i64 r.b] 118))) r.a hra
  have HBad:=hzz (D3u (L:=L) (List.mem_of_getElem? hr))
  have HNx:=hzz (show(!(A0g r.op==7)||thereB L r.a)=true->∀(k:Nat) r,k<j+1->L[k]? =some r->(!(A0g r.op==7)||thereB L r.a)=true from fun h k r' hk hr'=>by
   rcases Nat.lt_or_ge k j with h1|h1
   ·exact HG.out k r' h1 hr'
   obtain rfl:k=j:=by omega
   rw[hr]at hr'
   cases hr'
   exact h)
  have j1:(j:Int)<n:=by omega
  have o1:(r.op:Int)<256:=by omega
  have f9:=A4z r.op;obtain⟨p,o,x,y⟩:=r;simp only at q0 q1 q2 q3 hra hop hT tc hk HBad HNx o1 f9;generalize thereB L x=th at*;generalize A0g o=f at*
  have hl0:w.heap.size<wr.heap.size:=(Array.getElem?_eq_some_iff.1 hT).1;clear hr hT hra;have HA:=hzz (HB.out.alloc HB.out.size (.cells #[.int .i64 p,.int .u8 (o:Nat),.int .i64 x,.int .i64 y] 118))
  by_cases h7:f=7
  ·subst h7
   cases th
   ·have HR:=hzz (HBad.out rfl)
    go_wp2_with fail
    go_ret;exact⟨by rw[HR.out];rfl,HB1.out.trans (HA.out.mono HB1.out.size)⟩
   have HQ:=hzz (HNx.out rfl)
   go_wp2_with fail
   go_roundg (n-(j+1))
   case measure=>omega
   exact⟨j+1,by omega,rfl,by go_num,HQ,HA⟩
  have e7:((f:Int)==7)=false:=by simp;omega
  have HQ:=hzz (HNx.out (by simp[h7]));clear h7
  go_wp2_with fail
  go_roundg (n-(j+1))
  case measure=>omega
  exact⟨j+1,by omega,rfl,by go_num,HQ,HA⟩
 obtain rfl:j=n:=by omega
 have HR:=hzz (C7e (L:=L) (fun k r hk=>HG.out k r (by have:=(gsz hk).1;rw[HLn.out]at this;exact this) hk))
 go_wp2_with fail
 go_ret;exact⟨by rw[HR.out];rfl,HBB.out⟩
end
section
open Go.ChangeShapes Go.WideShapes Go.ChangeAt Go.RowKit
def A9c(L:List KV)(i:Int)(w:World)(e:Ending)(w':World):Prop:=e= .returned (.tuple #[.string ⟨(A1c L i).toArray⟩,.bool (isT L i 1)])/\w=w'
def A9v(L:List KV)(i:Int)(w:World)(e:Ending)(w':World):Prop:=e= .returned (.tuple #[.string ⟨(A0s L i).1.toArray⟩,.bool (A0s L i).2])/\w=w'
def A2s(L:List KV)(i t:Int)(w:World)(e:Ending)(w':World):Prop:=
 e= .returned (.tuple #[.string ⟨(A1i L i t).1.toArray⟩,.string ⟨(A1i L i t).2.1.toArray⟩,.string ⟨(A1i L i t).2.2.1.toArray⟩,.bool (A1i L i t).2.2.2])/\Below w.heap.size w w'
theorem A2s.no{L:List KV}{i t:Int}{w w':World}(h:¬((t=9\/t=10)/\isT L i t=true/\isT L (kAt L i).b 12=true/\(A0s L (kAt L i).a).2=true/\isT L (kAt L (kAt L i).b).a 1=true/\isT L (kAt L (kAt L i).b).b 1=true))(hb:Below w.heap.size w w'):
  A2s L i t w (.returned (.tuple #[.string ⟨#[]⟩,.string ⟨#[]⟩,.string ⟨#[]⟩,.bool false])) w':=by
 unfold A2s A1i;rw[if_neg h];exact⟨rfl,hb⟩
theorem A2s.yes{L:List KV}{i t:Int}{w w':World}(h:((t=9\/t=10)/\isT L i t=true/\isT L (kAt L i).b 12=true/\(A0s L (kAt L i).a).2=true/\isT L (kAt L (kAt L i).b).a 1=true/\isT L (kAt L (kAt L i).b).b 1=true))(hb:Below w.heap.size w w'):
  A2s L i t w (.returned (.tuple #[.string ⟨(A0s L (kAt L i).a).1.toArray⟩,.string ⟨(A1c L (kAt L (kAt L i).b).a).toArray⟩,.string ⟨(A1c L (kAt L (kAt L i).b).b).toArray⟩,.bool true])) w':=by
 unfold A2s A1i;rw[if_pos h];exact⟨rfl,hb⟩
theorem B1q(w:World)(a:Option Addr)(n cap:Nat)(L:List KV)(i:Int)(hs:Ks w a n L)(hn:n<=65536):Calls Tryz.prog 50 #[.slice a n cap,.int .i64 i] w (A9c L i w):=by
 have C1:=A8t w a n cap L i 1 hs hn;unfold A9c A1c
 cases h:isT L i 1
 ·rw[h]at C1;have K1:=hzz C1;clear C1 hs h;go_enter Tryz.func50,Tryz.ntmps50
  go_wp2_with fail
  refine K1.out.mono ?_;rintro e w' ⟨rfl,rfl⟩
  go_wp2_with fail
  go_ret2;exact⟨rfl,rfl⟩
 rw[h]at C1;have K1:=hzz C1;obtain⟨h1,h2,_⟩:=B0z h;rw[hs.1]at h2;obtain⟨k,rfl⟩:∃k:Nat,i=k:=⟨i.toNat,by omega⟩;obtain⟨b,off,rfl,_,hk⟩:=hs.at k (by omega);have g4:=hk.c4
 have k0:0<k:=by omega
 have k1:k<n:=by omega
 rw[if_pos rfl];clear C1 hs h h1 h2 hk;go_enter Tryz.func50,Tryz.ntmps50
 go_wp2_with fail
 refine K1.out.mono ?_;rintro e w' ⟨rfl,rfl⟩
 go_wp2_with fail
 go_ret2;exact⟨rfl,rfl⟩
theorem B3u(w:World)(a:Option Addr)(n cap:Nat)(L:List KV)(i:Int)(hs:Ks w a n L)(hn:n<=65536):Calls Tryz.prog 48 #[.slice a n cap,.int .i64 i] w (A9v L i w):=by
 have C1:=A8t w a n cap L i 7 hs hn;unfold A9v A0s
 cases h:isT L i 7
 ·rw[h]at C1;have K1:=hzz C1;clear C1 hs h;go_enter Tryz.func48,Tryz.ntmps48
  go_wp2_with fail
  refine K1.out.mono ?_;rintro e w' ⟨rfl,rfl⟩
  go_wp2_with fail
  go_ret2;exact⟨rfl,rfl⟩
 rw[h]at C1;have K1:=hzz C1;obtain⟨h1,h2,_⟩:=B0z h;rw[hs.1]at h2;obtain⟨k,rfl⟩:∃k:Nat,i=k:=⟨i.toNat,by omega⟩;have C2:=B1q w a n cap L (kAt L k).a hs hn;unfold A9c at C2
 have K2:=hzz C2;obtain⟨b,off,rfl,_,hk⟩:=hs.at k (by omega);have g1:=hk.c1;have k0:0<k:=by omega
 have k1:k<n:=by omega
 rw[if_pos rfl];clear C1 C2 hs h h1 h2 hk;go_enter Tryz.func48,Tryz.ntmps48
 go_wp2_with fail
 refine K1.out.mono ?_;rintro e w' ⟨rfl,rfl⟩
 go_wp2_with fail
 refine K2.out.mono ?_;rintro e w' ⟨rfl,rfl⟩
 go_wp2_with fail
 go_ret2;exact⟨rfl,rfl⟩
theorem C5d(w:World)(a:Option Addr)(n cap:Nat)(L:List KV)(i t:Int)(hs:Ks w a n L)(hn:n<=65536):Calls Tryz.prog 150 #[.slice a n cap,.int .i64 i,.int .i64 t] w (A2s L i t w):=by
 by_cases h9:t=9\/t=10
 ·have e9:((t !=9)&&(t !=10))=false:=by rcases h9 with rfl|rfl<;>rfl
  have C1:=A8t w a n cap L i t hs hn;have H9:=hzz h9
  have tw:(t=9/\True)\/(t=10/\True):=by rcases h9 with rfl|rfl;exact .inl ⟨rfl,trivial⟩;exact .inr ⟨rfl,trivial⟩
  clear e9 h9
  cases h:isT L i t
  ·rw[h]at C1;have K1:=hzz C1;have HH:=hzz h;clear C1 hs h
   rcases tw with⟨rfl,_⟩|⟨rfl,_⟩
   all_goals
    go_enter Tryz.func150,Tryz.ntmps150
    go_wp2_with fail
    refine K1.out.mono ?_;rintro e w' ⟨rfl,rfl⟩
    go_wp2_with fail
    refine bodyPost_ret (v:= .tuple #[.string ⟨#[]⟩,.string ⟨#[]⟩,.string ⟨#[]⟩,.bool false]) (by simp[results,Tryz.results150,go_sem]) rfl (A2s.no (fun x=> ?_) brz);rw[HH.out]at x
    exact absurd x.2.1 (by decide)
  rw[h]at C1;have K1:=hzz C1;obtain⟨h1,h2,_⟩:=B0z h;rw[hs.1]at h2;obtain⟨k,rfl⟩:∃k:Nat,i=k:=⟨i.toNat,by omega⟩;have HH:=hzz h;have C2:=A8t w a n cap L (kAt L k).b 12 hs hn
  obtain⟨b,off,rfl,hbl,hk⟩:=hs.at k (by omega);have g1:=hk.c1;have g2:=hk.c2;have k0:0<k:=by omega
  have k1:k<n:=by omega
  have HS:=hzz hs;clear C1 h1 h2 hk h hs
  cases h:isT L (kAt L k).b 12
  ·rw[h]at C2;have K2:=hzz C2;have HI:=hzz h;clear C2 h
   rcases tw with⟨rfl,_⟩|⟨rfl,_⟩
   all_goals
    go_enter Tryz.func150,Tryz.ntmps150
    go_wp2_with fail
    refine K1.out.mono ?_;rintro e w' ⟨rfl,rfl⟩
    go_wp2_with fail
    refine K2.out.mono ?_;rintro e w' ⟨rfl,rfl⟩
    go_wp2_with fail
    refine bodyPost_ret (v:= .tuple #[.string ⟨#[]⟩,.string ⟨#[]⟩,.string ⟨#[]⟩,.bool false]) (by simp[results,Tryz.results150,go_sem]) rfl (A2s.no (fun x=> ?_) brz);rw[HI.out]at x
    exact absurd x.2.2.1 (by decide)
  rw[h]at C2;have K2:=hzz C2;have HI:=hzz h;obtain⟨h1,h2,_⟩:=B0z h;rw[HS.out.1]at h2;obtain⟨m,hm⟩:∃m:Nat,(kAt L k).b=m:=⟨(kAt L k).b.toNat,by omega⟩;rw[hm]at h1 h2 g2 K2
  obtain⟨b',off',he,_,hk⟩:=HS.out.at m (by omega)
  cases he
  have m0:0<m:=by omega
  have m1:m<n:=by omega
  obtain⟨q0,q1,q2,q3,q4⟩:=hk;have HM:=hzz hm;clear C2 h h1 h2 hm
  have CC:∀w',Below w.heap.size w w'->Calls Tryz.prog 48 #[.slice (some ⟨b,off,none⟩) n cap,.int .i64 (kAt L k).a] w' (A9v L (kAt L k).a w'):=fun w' hb=>B3u w' _ n cap L _ (HS.out.below hb) hn
  have TA:∀w',Below w.heap.size w w'->Calls Tryz.prog 50 #[.slice (some ⟨b,off,none⟩) n cap,.int .i64 (kAt L m).a] w' (A9c L (kAt L m).a w'):=fun w' hb=>B1q w' _ n cap L _ (HS.out.below hb) hn
  have TB:∀w',Below w.heap.size w w'->Calls Tryz.prog 50 #[.slice (some ⟨b,off,none⟩) n cap,.int .i64 (kAt L m).b] w' (A9c L (kAt L m).b w'):=fun w' hb=>B1q w' _ n cap L _ (HS.out.below hb) hn
  unfold A9v at CC;unfold A9c at TA TB;have HCC:=hzz CC;have HTA:=hzz TA;have HTB:=hzz TB;have fin:∀(W:World),Below w.heap.size w W->Below w.heap.size w W:=fun _ h=>h
  clear CC TA TB fin
  have HR:=hzz (show ∀W,Below w.heap.size w W->(A0s L (kAt L k).a).2=true->isT L (kAt L m).a 1=true->isT L (kAt L m).b 1=true->A2s L k t w (.returned (.tuple #[.string ⟨(A0s L (kAt L k).a).1.toArray⟩,.string ⟨(A1c L (kAt L m).a).toArray⟩,.string ⟨(A1c L (kAt L m).b).toArray⟩,.bool true])) W from
   fun W hW c1 c2 c3=>by
    have:=A2s.yes (L:=L) (i:=k) (t:=t) (w:=w) (w':=W) ⟨H9.out,HH.out,HI.out,c1,by rw[HM.out];exact c2,by rw[HM.out];exact c3⟩ hW;rw[HM.out]at this;exact this)
  have HN:=hzz (show ∀W,Below w.heap.size w W->((A0s L (kAt L k).a).2=false\/isT L (kAt L m).a 1=false\/isT L (kAt L m).b 1=false)->A2s L k t w (.returned (.tuple #[.string ⟨#[]⟩,.string ⟨#[]⟩,.string ⟨#[]⟩,.bool false])) W from
   fun W hW hx=>by
    refine A2s.no (fun x=> ?_) hW;rw[HM.out]at x
    rcases hx with hx|hx|hx<;>simp[hx]at x)
  generalize(A0s L (kAt L k).a).1=s1 at*;generalize(A0s L (kAt L k).a).2=o1 at*;generalize isT L (kAt L m).a 1=o2 at*;generalize isT L (kAt L m).b 1=o3 at*
  generalize A1c L (kAt L m).a=s2 at*;generalize A1c L (kAt L m).b=s3 at*;have KF:=hzz (Below.refl w.heap.size w)
  rcases tw with⟨rfl,_⟩|⟨rfl,_⟩
  all_goals
   go_enter Tryz.func150,Tryz.ntmps150
   go_wp2_with fail
   refine K1.out.mono ?_;rintro e w' ⟨rfl,rfl⟩
   go_wp2_with fail
   refine K2.out.mono ?_;rintro e w' ⟨rfl,rfl⟩
   go_wp2_with fail
   refine(HCC.out _ (brz.alloc nlz _)).mono ?_;rintro e w' ⟨rfl,rfl⟩
   go_wp2_with fail
   refine(HTA.out _ (brz.alloc nlz _)).mono ?_;rintro e w' ⟨rfl,rfl⟩
   go_wp2_with fail
   refine(HTB.out _ (brz.alloc nlz _)).mono ?_;rintro e w' ⟨rfl,rfl⟩
   cases o1
   ·go_wp2_with fail
    exact bodyPost_ret (v:= .tuple #[.string ⟨#[]⟩,.string ⟨#[]⟩,.string ⟨#[]⟩,.bool false]) (by simp[results,Tryz.results150,go_sem]) rfl (HN.out _ (brz.alloc nlz _) (by simp))
   ·cases o2
    ·go_wp2_with fail
     exact bodyPost_ret (v:= .tuple #[.string ⟨#[]⟩,.string ⟨#[]⟩,.string ⟨#[]⟩,.bool false]) (by simp[results,Tryz.results150,go_sem]) rfl (HN.out _ (brz.alloc nlz _) (by simp))
    cases o3
    ·go_wp2_with fail
     exact bodyPost_ret (v:= .tuple #[.string ⟨#[]⟩,.string ⟨#[]⟩,.string ⟨#[]⟩,.bool false]) (by simp[results,Tryz.results150,go_sem]) rfl (HN.out _ (brz.alloc nlz _) (by simp))
    go_wp2_with fail
    exact bodyPost_ret (v:= .tuple #[.string ⟨s1.toArray⟩,.string ⟨s2.toArray⟩,.string ⟨s3.toArray⟩,.bool true]) (by simp[results,Tryz.results150,go_sem]) rfl (HR.out _ (brz.alloc nlz _) (by simp) (by simp) (by simp))
 have HH:=hzz h9;have e1:(t !=9)=true:=by simp;omega
 have e2:(t !=10)=true:=by simp;omega
 clear hs h9;go_enter Tryz.func150,Tryz.ntmps150
 go_wp2_with fail
 exact bodyPost_ret (v:= .tuple #[.string ⟨#[]⟩,.string ⟨#[]⟩,.string ⟨#[]⟩,.bool false]) (by simp[results,Tryz.results150,go_sem]) rfl (A2s.no (fun x=>HH.out x.1) brz)
def A6j(c:KV):KV:=
 ⟨c.tag,if c.tag=9\/c.tag=10\/c.tag=12\/c.tag=7\/c.tag=8 then c.a else 0,if c.tag=9\/c.tag=10\/c.tag=12 then c.b else 0,if c.tag=3 then wrap32 c.n else if c.tag=5 then c.n else 0,if c.tag=1 then c.s else []⟩
def kV(c:KV):Value:= .agg #[.int .i64 c.tag,.int .i64 c.a,.int .i64 c.b,.int .i64 c.n,.string ⟨c.s.toArray⟩]
theorem A5a:(Tryz.prog.info? 61).map (·.size)=some 5:=by kernel_rfl
theorem B7h(w:World)(A B C:Obj):(((w.alloc A).alloc B).alloc C).heap[w.heap.size+1]? =some B:=by
 rw[Below.heap_alloc _ _ _ (by simp)];have:=heap_alloc_last (w.alloc A) B;simpa using this
theorem A8q(w:World)(A B C:Obj):Below w.heap.size w (((w.alloc A).alloc B).alloc C):=((brz.alloc nlz _).alloc (by simp) _).alloc (by simp;omega) _
theorem E0b(w:World)(t a b n:Int)(s:List UInt8):Calls Tryz.prog 87 #[kV ⟨1,a,b,n,s⟩] w fun e w'=>e= .returned (kV (A6j ⟨1,a,b,n,s⟩))/\Below w.heap.size w w':=by
 unfold kV;go_enter Tryz.func87,Tryz.ntmps87
 go_wp2_with fail
 unfold A6j;simp only[reduceCtorEq,if_true,if_false,or_true,true_or,or_false,false_or,Int.reduceEq,or_self]
 exact bodyPost_ret (results_cell_row rfl _ _ (w.heap.size+1) _ _ _ _ rfl (B7h _ _ _ _) Tryz.underlying61 rfl A5a) rfl ⟨rfl,A8q _ _ _ _⟩
theorem E0v(w:World)(t a b n:Int)(s:List UInt8):Calls Tryz.prog 87 #[kV ⟨3,a,b,n,s⟩] w fun e w'=>e= .returned (kV (A6j ⟨3,a,b,n,s⟩))/\Below w.heap.size w w':=by
 unfold kV;go_enter Tryz.func87,Tryz.ntmps87
 go_wp2_with fail
 unfold A6j;simp only[reduceCtorEq,if_true,if_false,or_true,true_or,or_false,false_or,Int.reduceEq,or_self];have hw:wrap64 (wrap32 n)=wrap32 n:=by unfold wrap64 wrap32;omega
 rw[hw];exact bodyPost_ret (results_cell_row rfl _ _ (w.heap.size+1) _ _ _ _ rfl (B7h _ _ _ _) Tryz.underlying61 rfl A5a) rfl ⟨rfl,A8q _ _ _ _⟩
theorem E1a(w:World)(t a b n:Int)(s:List UInt8):Calls Tryz.prog 87 #[kV ⟨5,a,b,n,s⟩] w fun e w'=>e= .returned (kV (A6j ⟨5,a,b,n,s⟩))/\Below w.heap.size w w':=by
 unfold kV;go_enter Tryz.func87,Tryz.ntmps87
 go_wp2_with fail
 unfold A6j;simp only[reduceCtorEq,if_true,if_false,or_true,true_or,or_false,false_or,Int.reduceEq,or_self]
 exact bodyPost_ret (results_cell_row rfl _ _ (w.heap.size+1) _ _ _ _ rfl (B7h _ _ _ _) Tryz.underlying61 rfl A5a) rfl ⟨rfl,A8q _ _ _ _⟩
theorem D8x(w:World)(t a b n:Int)(s:List UInt8):Calls Tryz.prog 87 #[kV ⟨9,a,b,n,s⟩] w fun e w'=>e= .returned (kV (A6j ⟨9,a,b,n,s⟩))/\Below w.heap.size w w':=by
 unfold kV;go_enter Tryz.func87,Tryz.ntmps87
 go_wp2_with fail
 unfold A6j;simp only[reduceCtorEq,if_true,if_false,or_true,true_or,or_false,false_or,Int.reduceEq,or_self]
 exact bodyPost_ret (results_cell_row rfl _ _ (w.heap.size+1) _ _ _ _ rfl (B7h _ _ _ _) Tryz.underlying61 rfl A5a) rfl ⟨rfl,A8q _ _ _ _⟩
theorem D5j(w:World)(t a b n:Int)(s:List UInt8):Calls Tryz.prog 87 #[kV ⟨10,a,b,n,s⟩] w fun e w'=>e= .returned (kV (A6j ⟨10,a,b,n,s⟩))/\Below w.heap.size w w':=by
 unfold kV;go_enter Tryz.func87,Tryz.ntmps87
 go_wp2_with fail
 unfold A6j;simp only[reduceCtorEq,if_true,if_false,or_true,true_or,or_false,false_or,Int.reduceEq,or_self]
 exact bodyPost_ret (results_cell_row rfl _ _ (w.heap.size+1) _ _ _ _ rfl (B7h _ _ _ _) Tryz.underlying61 rfl A5a) rfl ⟨rfl,A8q _ _ _ _⟩
theorem D7q(w:World)(t a b n:Int)(s:List UInt8):Calls Tryz.prog 87 #[kV ⟨12,a,b,n,s⟩] w fun e w'=>e= .returned (kV (A6j ⟨12,a,b,n,s⟩))/\Below w.heap.size w w':=by
 unfold kV;go_enter Tryz.func87,Tryz.ntmps87
 go_wp2_with fail
 unfold A6j;simp only[reduceCtorEq,if_true,if_false,or_true,true_or,or_false,false_or,Int.reduceEq,or_self]
 exact bodyPost_ret (results_cell_row rfl _ _ (w.heap.size+1) _ _ _ _ rfl (B7h _ _ _ _) Tryz.underlying61 rfl A5a) rfl ⟨rfl,A8q _ _ _ _⟩
theorem E1d(w:World)(t a b n:Int)(s:List UInt8):Calls Tryz.prog 87 #[kV ⟨7,a,b,n,s⟩] w fun e w'=>e= .returned (kV (A6j ⟨7,a,b,n,s⟩))/\Below w.heap.size w w':=by
 unfold kV;go_enter Tryz.func87,Tryz.ntmps87
 go_wp2_with fail
 unfold A6j;simp only[reduceCtorEq,if_true,if_false,or_true,true_or,or_false,false_or,Int.reduceEq,or_self]
 exact bodyPost_ret (results_cell_row rfl _ _ (w.heap.size+1) _ _ _ _ rfl (B7h _ _ _ _) Tryz.underlying61 rfl A5a) rfl ⟨rfl,A8q _ _ _ _⟩
theorem D9b(w:World)(t a b n:Int)(s:List UInt8):Calls Tryz.prog 87 #[kV ⟨8,a,b,n,s⟩] w fun e w'=>e= .returned (kV (A6j ⟨8,a,b,n,s⟩))/\Below w.heap.size w w':=by
 unfold kV;go_enter Tryz.func87,Tryz.ntmps87
 go_wp2_with fail
 unfold A6j;simp only[reduceCtorEq,if_true,if_false,or_true,true_or,or_false,false_or,Int.reduceEq,or_self]
 exact bodyPost_ret (results_cell_row rfl _ _ (w.heap.size+1) _ _ _ _ rfl (B7h _ _ _ _) Tryz.underlying61 rfl A5a) rfl ⟨rfl,A8q _ _ _ _⟩
theorem C9m(w:World)(t a b n:Int)(s:List UInt8)(h:t≠1/\t≠3/\t≠5/\t≠9/\t≠10/\t≠12/\t≠7/\t≠8):Calls Tryz.prog 87 #[kV ⟨t,a,b,n,s⟩] w fun e w'=>e= .returned (kV (A6j ⟨t,a,b,n,s⟩))/\Below w.heap.size w w':=by
 unfold kV;obtain⟨h1,h3,h5,h9,h10,h12,h7,h8⟩:=h;have HB:=hzz (show A6j ⟨t,a,b,n,s⟩=⟨t,0,0,0,[]⟩ by unfold A6j;simp[h1,h3,h5,h9,h10,h12,h7,h8])
 have e1:(t==1)=false:=by simp[h1]
 have e3:(t==3)=false:=by simp[h3]
 have e5:(t==5)=false:=by simp[h5]
 have e9:(t==9)=false:=by simp[h9]
 have e10:(t==10)=false:=by simp[h10]
 have e12:(t==12)=false:=by simp[h12]
 have e7:(t==7)=false:=by simp[h7]
 have e8:(t==8)=false:=by simp[h8]
 clear h1 h3 h5 h9 h10 h12 h7 h8;go_enter Tryz.func87,Tryz.ntmps87
 go_wp2_with fail
 rw[HB.out];exact bodyPost_ret (results_cell_row rfl _ _ (w.heap.size+1) _ _ _ _ rfl (B7h _ _ _ _) Tryz.underlying61 rfl A5a) rfl ⟨rfl,A8q _ _ _ _⟩
theorem D4d(w:World)(c:KV):Calls Tryz.prog 87 #[kV c] w fun e w'=>e= .returned (kV (A6j c))/\Below w.heap.size w w':=by
 obtain⟨t,a,b,n,s⟩:=c;by_cases h1:t=1
 ·subst h1;exact E0b w 0 a b n s
 by_cases h3:t=3
 ·subst h3;exact E0v w 0 a b n s
 by_cases h5:t=5
 ·subst h5;exact E1a w 0 a b n s
 by_cases h9:t=9
 ·subst h9;exact D8x w 0 a b n s
 by_cases h10:t=10
 ·subst h10;exact D5j w 0 a b n s
 by_cases h12:t=12
 ·subst h12;exact D7q w 0 a b n s
 by_cases h7:t=7
 ·subst h7;exact E1d w 0 a b n s
 by_cases h8:t=8
 ·subst h8;exact D9b w 0 a b n s
 exact C9m w t a b n s ⟨h1,h3,h5,h9,h10,h12,h7,h8⟩
end
end Go.Proofs.YtclpkipaehpkdaaGreatDoor
