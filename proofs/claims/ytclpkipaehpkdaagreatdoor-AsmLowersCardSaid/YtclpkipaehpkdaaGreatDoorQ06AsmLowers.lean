/- asm -/
import Derived.Test.YtclpkipaehpkdaaGreatDoorQ03AsmLowers
import Derived.Test.YtclpkipaehpkdaaGreatDoorQ05AsmLowers
import Derived.Maps.OwnSet
set_option linter.unusedVariables false
set_option linter.unusedSimpArgs false
set_option maxRecDepth 100000
set_option maxHeartbeats 64000000
namespace Go.Proofs.YtclpkipaehpkdaaGreatDoor
section
open Go.ChangeShapes Go.WideShapes Go.ChangeAt Go.RowKit
structure RW where
 pos:Int
 op:Nat
 a:Int
 b:Int
def RW.cells(r:RW):List Value:=[.int .i64 r.pos,.int .u8 (r.op:Nat),.int .i64 r.a,.int .i64 r.b]
theorem RW.cells_length(r:RW):r.cells.length=4:=rfl
def thereB(l:List RW)(p:Int):Bool:=l.any fun r=>r.pos==p
def A7b(l:List RW):Bool:=l.all fun r=> !(A0q r.op==7)||thereB l r.a
def A2e(bs:List UInt8)(p f:Nat):Int:=(A5y bs ((p:Int)+1) ((max (A1r f-1) 1:Nat):Int)).1
def A1n(bs:List UInt8)(p f:Nat):Int:=
 let v:=A2e bs p f
 if f=1 then 0 else if f=3 then A2g v 1 else if f=4 then A2g v 2 else if f=7 then(p:Int)+A2g v 2 else if f=8 then v/256 else v
def A2i(bs:List UInt8)(p f:Nat):Int:=if f=8 then A2g (A2e bs p f) 1 else 0
def A1z(bs:List UInt8)(p f:Nat):Bool:=f==9&& !(A1n bs p f==8)&& !(A1n bs p f==10)
def A3w(bs:List UInt8)(p:Nat):Nat:=(bs.getD p 0).toNat
def A7s(bs:List UInt8)(p:Nat):RW:=⟨p,A3w bs p,A1n bs p (A0q (A3w bs p)),A2i bs p (A0q (A3w bs p))⟩
def B0c(bs:List UInt8):Nat->Nat->List RW->Int×List RW
 |0,_,acc=>(0,acc)
 |fuel+1,p,acc=>
  if bs.length<=p then(0,acc)
  else if A0q (A3w bs p)=0 then(8,[])
  else if bs.length-p<A1r (A0q (A3w bs p))then(6,[])
  else if A1z bs p (A0q (A3w bs p))=true then(8,[])
  else B0c bs fuel (p+A1r (A0q (A3w bs p))) (acc++[A7s bs p])
def A1y(bs:List UInt8):Int×List RW:=
 if 4096<bs.length then(9,[])
 else if(B0c bs (bs.length+1) 0 []).1≠0 then((B0c bs (bs.length+1) 0 []).1,[])
 else if A7b (B0c bs (bs.length+1) 0 []).2=true then(0,(B0c bs (bs.length+1) 0 []).2)
 else(2,[])
def A2n(r:RW)(f:Nat):Bool:=
 if f≠8/\r.b≠0 then false
 else if f=1 then decide (r.a=0)
 else if f=3 then decide (-128<=r.a/\r.a<=127)
 else if f=4 then decide (-32768<=r.a/\r.a<=32767)
 else if f=6 then decide (0<=r.a/\r.a<=65535)
 else if f=9 then decide (r.a=8\/r.a=10)
 else if f=8 then decide (0<=r.a/\r.a<=255)&&decide (-128<=r.b/\r.b<=127)
 else if f=2\/f=5 then decide (0<=r.a/\r.a<=255)
 else decide (f=7)
def A5z(n:Int):Nat:=(n%18446744073709551616).toNat
theorem C2p(n:Int):A5z n<18446744073709551616:=by unfold A5z;omega
theorem B1r(n:Int):IntKind.u64.wrap n=(A5z n:Int):=by rw[IntKind.wrap_u64];unfold A5z;omega
def A4m(r:RW):List UInt8:=
 UInt8.ofNat r.op::(if A0q r.op=7 then A6c (A5z (r.a-r.pos)) 2 else if A0q r.op=8 then A6c (A5z r.a) 1++A6c (A5z r.b) 1 else A6c (A5z r.a) (A1r (A0q r.op) -1))
def A6s(l:List RW):List UInt8:=l.flatMap A4m
def A3q(l:List RW)(k:Nat):Bool:=
 match l[k]? with
 |some r=>A2n r (A0q r.op)&&decide (r.pos=((A6s (l.take k)).length:Nat))
 |none=>true
def A2f(l:List RW):Int×List UInt8:=
 if(List.range l.length).all (A3q l)=false then(8,[])
 else if A7b l=false then(2,[])
 else if 4096<(A6s l).length then(9,[])
 else(0,A6s l)
end
section
open Go.ChangeShapes Go.WideShapes Go.ChangeAt Go.RowKit
open Go.Maps (Keyed int_keyed)
def Rs(w:World)(a:Option Addr)(n:Nat)(L:List RW):Prop:=Ss 4 RW.cells w a n L
theorem Rs.below{w w':World}{a:Option Addr}{n:Nat}{L:List RW}(h:Rs w a n L)(hb:Below w.heap.size w w'):Rs w' a n L:=Ss.below h hb
structure RAt(w:World)(b o:Nat)(p:Int)(k:Nat)(x y:Int):Prop where
 c0:w.cell? ⟨b,o,none⟩=some (.int .i64 p)
 c1:w.cell? ⟨b,o+1,none⟩=some (.int .u8 (k:Nat))
 c2:w.cell? ⟨b,o+2,none⟩=some (.int .i64 x)
 c3:w.cell? ⟨b,o+3,none⟩=some (.int .i64 y)
theorem Rs.at{w:World}{a:Option Addr}{n:Nat}{L:List RW}(h:Rs w a n L)(i:Nat)(hi:i<n):∃b off r,a=some ⟨b,off,none⟩/\b<w.heap.size/\L[i]? =some r/\RAt w b (off+i*4) r.pos r.op r.a r.b:=by
 obtain⟨b,off,ha,hlt,hc⟩:=h.2 (by omega);have hl:i<L.length:=by rw[h.1];exact hi
 exact⟨b,off,L[i],ha,hlt,List.getElem?_eq_getElem hl,hc i hl 0 (by omega),hc i hl 1 (by omega),hc i hl 2 (by omega),hc i hl 3 (by omega)⟩
def A4p(n:Int):Prop:=(Lit.int .i64 n).wf=true
def A9y(L:List RW):DataW Unit:=L.foldl (fun D r=>D.put (.int .i64 r.pos) (.lit (.bool true))) (.map [])
theorem B1w{H:Type}{P:Program}{e:TypeId}(he:P.underlying e=some .bool){v:Value}{z:DataW H×List MemPlace}(h:plainElem P e v=some z):∃x,v= .bool x/\z=(.lit (.bool x),[]):=by
 unfold plainElem at h;rw[he]at h
 cases v<;>simp at h
 exact⟨_,rfl,h.symm⟩
theorem C9u(r:RW)(L:List RW)(p:Int):thereB (r::L) p=(r.pos==p||thereB L p):=rfl
theorem D8m(L:List RW)(D:DataW Unit)(hD:Maps.IsMap D)(p:Int)(z:DataW Unit):
  (L.foldl (fun D r=>D.put (.int .i64 r.pos) (.lit (.bool true))) D).atKey (.int .i64 p) z=if thereB L p=true then .lit (.bool true)else D.atKey (.int .i64 p) z:=by
 induction L generalizing D with
 |nil=>simp[thereB]
 |cons r L ih=>
  rw[List.foldl_cons,ih _ (hD.put _ _),C9u];by_cases h1:thereB L p=true
  ·simp[h1]
  by_cases h2:r.pos=p
  ·subst h2;rw[Maps.atKey_put_same hD (by trivial)];simp
  rw[Maps.atKey_put_other (by intro h;cases h;exact h2 rfl)]
  simp[h1,h2]
theorem D4e(L:List RW)(p:Int):(A9y L).atKey (.int .i64 p) (.lit (.bool false))= .lit (.bool (thereB L p)):=by
 unfold A9y;rw[D8m L _ Maps.isMap_empty]
 cases thereB L p
 ·simp;rfl
 simp
theorem D6b(w:World):(zeroValue 4).run Tryz.prog w= .ok (.bool false) w:=by kernel_rfl
theorem D1y{w:World}{b n:Nat}{L:List RW}(h:w.ownsMap Tryz.prog 3 (plainElem Tryz.prog 4) b n (A9y L))(p:Int)(hp:A4p p):
  (Instr.lookup 211 (.map (some b)) (.int .i64 p) false).run Tryz.prog w= .ok (.bool (thereB L p)) w:=by
 obtain⟨v,ps,hrun,hv⟩:=h.lookup (int_keyed Tryz.underlying3) Tryz.underlying211 (D6b w) (plainElem_bool Tryz.underlying4 false) (Maps.keyOf_int_mk Tryz.underlying3 hp)
 obtain⟨x,rfl,hx⟩:=B1w Tryz.underlying4 hv;rw[D4e]at hx;simp at hx;rw[hrun,hx.1]
def D2e(L:List RW)(w:World)(e:Ending)(w':World):Prop:=∃b,e= .returned (.map (some b))/\w.heap.size<=b/\w'.ownsMap Tryz.prog 3 (plainElem (H:=Unit) Tryz.prog 4) b L.length (A9y L)/\Below w.heap.size w w'
theorem C8q(w:World)(a:Option Addr)(n cap:Nat)(L:List RW)(hs:Rs w a n L)(hn:n<=65536)(hw:∀r∈L,A4p r.pos):Calls Tryz.prog 149 #[.slice a n cap] w (D2e L w):=by
 have HS:=hzz hs;have HLn:=hzz hs.1;have HW:=hzz hw;have hmm:= @run_makeMap Tryz.prog;clear hs hw;go_enter Tryz.func149,Tryz.ntmps149
 go_wp2_with fail
 clear hmm
 go_loopg [9] n (fun gn i wr=>∃j:Nat,j<=n/\gn=n-j/\i= .int .i64 j/\Hid (wr.ownsMap Tryz.prog 3 (plainElem (H:=Unit) Tryz.prog 4) w.heap.size j (A9y (L.take j)))/\Hid (Below w.heap.size w wr))
 case atStart=>exact⟨0,by omega,by omega,by go_num,hzz (World.ownsMap_made _ _ _ _),hzz (brz.alloc nlz _)⟩
 obtain⟨j,hj,rfl,rfl,HM,HB⟩:=hrel;by_cases hlt:j<n
 ·obtain⟨b,off,r,rfl,_,hr,q⟩:=(HS.out.below HB.out).at j hlt;obtain⟨q0,q1,q2,q3⟩:=q;have hrp:=HW.out r (List.mem_of_getElem? hr)
  have HN:=hzz (show A9y (L.take (j+1))=(A9y (L.take j)).put (.int .i64 r.pos) (.lit (.bool true)) by
   have hjl:=(gsz hr).1;have he:=(gsz hr).2;unfold A9y;rw[List.take_succ_eq_append_getElem hjl,List.foldl_append,he];rfl)
  have j1:(j:Int)<n:=by omega
  clear hr;obtain⟨p,k,x,y⟩:=r;simp only at q0 q1 q2 q3 hrp HN
  obtain⟨w',hrun,hown,hturn⟩:=(HM.out.alloc (.cells #[.int .i64 p,.int .u8 (k:Nat),.int .i64 x,.int .i64 y] 118)).store (int_keyed Tryz.underlying3) Tryz.underlying211 (by unfold maxLen;omega) (val:= .bool true) (Maps.keyOf_int_mk Tryz.underlying3 hrp) (plainElem_bool Tryz.underlying4 true)
  have HM2:=hzz hown
  have HB2:=hzz ((HB.out.alloc HB.out.size (.cells #[.int .i64 p,.int .u8 (k:Nat),.int .i64 x,.int .i64 y] 118)).grown hturn.grown (Nat.le_trans HB.out.size (by simp)) (fun m hm=>by cases hm;exact Nat.le_refl _))
  clear hown hturn hrp
  go_wp2_with fail
  go_roundg (n-(j+1))
  case measure=>omega
  exact⟨j+1,by omega,rfl,by go_num,hzz (by rw[HN.out];exact HM2.out),HB2⟩
 obtain rfl:j=n:=by omega
 have HE:=hzz HM.out;rw[List.take_of_length_le (by rw[HLn.out];exact Nat.le_refl _)]at HE
 go_wp2_with fail
 go_ret;exact⟨_,rfl,Nat.le_refl _,by rw[HLn.out];exact HE.out,HB.out⟩
def D8p(L:List RW)(w:World)(e:Ending)(w':World):Prop:=e= .returned (.bool (A7b L))/\Below w.heap.size w w'
theorem C6v{L:List RW}{r:RW}(hr:r∈L)(h:(!(A0q r.op==7)||thereB L r.a)=false):A7b L=false:=by
 unfold A7b;rw[List.all_eq_false];exact⟨r,hr,by rw[h];decide⟩
theorem C0r{L:List RW}(h:∀(k:Nat) r,L[k]? =some r->(!(A0q r.op==7)||thereB L r.a)=true):A7b L=true:=by
 unfold A7b;rw[List.all_eq_true];intro r hr;obtain⟨k,hk,rfl⟩:=List.getElem_of_mem hr;exact h k _ (List.getElem?_eq_getElem hk)
theorem C6g(w:World)(a:Option Addr)(n cap:Nat)(L:List RW)(hs:Rs w a n L)(hn:n<=65536)(hw:∀r∈L,A4p r.pos/\A4p r.a/\r.op<256):Calls Tryz.prog 101 #[.slice a n cap,.agg (A9h A0q)] w (D8p L w):=by
 have HS:=hzz hs;have HLn:=hzz hs.1;have HW:=hzz hw;have hpl:=C8q (w.alloc (.cells (A9h A0q) 164)) a n cap L (hs.below (brz.alloc nlz _)) hn (fun r hr=>(hw r hr).1);have HP:=hzz hpl
 clear hs hw hpl;go_enter Tryz.func101,Tryz.ntmps101
 go_wp2_with fail
 refine HP.out.mono ?_;rintro e w1 ⟨b,rfl,hb0,hm1,hb1⟩;have hT:=heap_alloc_last w (.cells (A9h A0q) 164);rw[<-hb1.block _ (by simp)]at hT;have HT:=hzz hT;have HM:=hzz hm1
 have HB1:=hzz (((Below.refl w.heap.size w).alloc nlz (.cells (A9h A0q) 164)).trans (hb1.mono (by simp)));clear hb0 hm1 hb1 hT HP
 go_wp2_with fail
 go_loopg [12] n (fun gn i wr=>∃j:Nat,j<=n/\gn=n-j/\i= .int .i64 j/\Hid (∀(k:Nat) r,k<j->L[k]? =some r->(!(A0q r.op==7)||thereB L r.a)=true)/\Hid (Below w1.heap.size w1 wr))
 case atStart=>exact⟨0,by omega,by omega,by go_num,hzz (fun k r h=>by omega),hzz brz⟩
 obtain⟨j,hj,rfl,rfl,HG,HB⟩:=hrel;have HBB:=btz HB1 HB.out;by_cases hlt:j<n
 ·obtain⟨bb,off,r,rfl,_,hr,q⟩:=(HS.out.below HBB.out).at j hlt;obtain⟨q0,q1,q2,q3⟩:=q;obtain⟨_,hra,hop⟩:=HW.out r (List.mem_of_getElem? hr)
  have hT:wr.heap[w.heap.size]? =some (.cells (A9h A0q) 164):=by rw[HB.out.block _ (Array.getElem?_eq_some_iff.1 HT.out).1];exact HT.out
  have tc:wr.cell? ⟨w.heap.size,r.op,none⟩=some (.int .u8 (A0q r.op:Nat)):=by rw[cell_of_row wr _ _ _ _ _ hT];exact B1f _ _ hop
  have hk:=D1y (((HM.out.kept (row:=none) ⟨HB.out.os,HB.out.tape,HB.out.output,HB.out.size,fun k hk _=>HB.out.block k hk⟩ (by simp)).alloc (.cells #[.int .i64 r.pos,.int .u8 (r.op:Nat),.int .i64 r.a,.int .i64 r.b] 118))) r.a hra
  have HBad:=hzz (C6v (L:=L) (List.mem_of_getElem? hr))
  have HNx:=hzz (show(!(A0q r.op==7)||thereB L r.a)=true->∀(k:Nat) r,k<j+1->L[k]? =some r->(!(A0q r.op==7)||thereB L r.a)=true from fun h k r' hk hr'=>by
   rcases Nat.lt_or_ge k j with h1|h1
   ·exact HG.out k r' h1 hr'
   obtain rfl:k=j:=by omega
   rw[hr]at hr'
   cases hr'
   exact h)
  have j1:(j:Int)<n:=by omega
  have o1:(r.op:Int)<256:=by omega
  have f9:=A3s r.op;obtain⟨p,o,x,y⟩:=r;simp only at q0 q1 q2 q3 hra hop hT tc hk HBad HNx o1 f9;generalize thereB L x=th at*;generalize A0q o=f at*
  have hl0:w.heap.size<wr.heap.size:=(Array.getElem?_eq_some_iff.1 hT).1;clear hr hT hra;have HA:=hzz (HB.out.alloc HB.out.size (.cells #[.int .i64 p,.int .u8 (o:Nat),.int .i64 x,.int .i64 y] 118))
  by_cases h7:f=7
  ·subst h7
   cases th
   ·have HR:=hzz (HBad.out rfl)
    go_wp2_with fail
    go_ret;exact⟨by rw[HR.out];rfl,HB1.out.trans (HA.out.mono HB1.out.size)⟩
   have HQ:=hzz (HNx.out rfl)
   go_wp2_with fail
   go_roundg (n-(j+1))
   case measure=>omega
   exact⟨j+1,by omega,rfl,by go_num,HQ,HA⟩
  have e7:((f:Int)==7)=false:=by simp;omega
  have HQ:=hzz (HNx.out (by simp[h7]));clear h7
  go_wp2_with fail
  go_roundg (n-(j+1))
  case measure=>omega
  exact⟨j+1,by omega,rfl,by go_num,HQ,HA⟩
 obtain rfl:j=n:=by omega
 have HR:=hzz (C0r (L:=L) (fun k r hk=>HG.out k r (by have:=(gsz hk).1;rw[HLn.out]at this;exact this) hk))
 go_wp2_with fail
 go_ret;exact⟨by rw[HR.out];rfl,HBB.out⟩
end
section
open Go.ChangeShapes Go.WideShapes Go.ChangeAt Go.RowKit
def A8d(w:World)(g:Nat)(p:Int)(k:Nat)(x y:Int):Prop:=w.heap[g]? =some (.cells #[.int .i64 p,.int .u8 (k:Nat),.int .i64 x,.int .i64 y] 118)
theorem A8d.below{w w':World}{g:Nat}{p:Int}{k:Nat}{x y:Int}(h:A8d w g p k x y)(hb:Below w.heap.size w w'):A8d w' g p k x y:=by
 unfold A8d;rw[hb.block g (Array.getElem?_eq_some_iff.1 h).1];exact h
theorem A8d.box{w:World}{g:Nat}{p:Int}{k:Nat}{x y:Int}(h:A8d w g p k x y):(w.cell? ⟨g,0,none⟩=some (.int .i64 p)/\w.cell? ⟨g,1,none⟩=some (.int .u8 (k:Nat))/\w.cell? ⟨g,2,none⟩=some (.int .i64 x)/\w.cell? ⟨g,3,none⟩=some (.int .i64 y))/\
  (w.frozen? ⟨g,2,none⟩=false/\w.frozen? ⟨g,3,none⟩=false)/\g<w.heap.size:=by
 refine⟨⟨?_,?_,?_,?_⟩,⟨?_,?_⟩,(Array.getElem?_eq_some_iff.1 h).1⟩
 ·rw[cell_of_row w g 0 _ _ _ h];rfl
 ·rw[cell_of_row w g 1 _ _ _ h];rfl
 ·rw[cell_of_row w g 2 _ _ _ h];rfl
 ·rw[cell_of_row w g 3 _ _ _ h];rfl
 all_goals (unfold World.frozen?;rw[h];rfl)
theorem A8d.set2{w:World}{g:Nat}{p:Int}{k:Nat}{x y x':Int}(h:A8d w g p k x y):A8d (w.setCell ⟨g,2,none⟩ (.int .i64 x')) g p k x' y:=B6f h 2 _
theorem A8d.set3{w:World}{g:Nat}{p:Int}{k:Nat}{x y y':Int}(h:A8d w g p k x y):A8d (w.setCell ⟨g,3,none⟩ (.int .i64 y')) g p k x y':=B6f h 3 _
theorem A4w{w w':World}{g o:Nat}{v:Value}(h:w.grownBy w' (some g)):w.grownBy (w'.setCell ⟨g,o,none⟩ v) (some g):=
 ⟨h.os,h.tape,h.output,by rw[C1j];exact h.size,fun k hk hne=>by rw[B2m (fun e=>hne (by rw[e]))];exact h.block k hk hne⟩
theorem A3f{w w':World}{row:Option Nat}(h:Below w.heap.size w w'):w.grownBy w' row:=⟨h.os,h.tape,h.output,h.size,fun k hk _=>h.block k hk⟩
theorem B3f{w w':World}{r:Option Nat}(h:w.grownBy w' r):w.grownBy w'.drew r:=⟨h.os,h.tape,h.output,h.size,h.block⟩
def D8i(y1:World)(g p k:Nat)(w':World):Prop:=(∃x,A8d w' g p k x 0)/\y1.grownBy w' (some g)
def A6q(bs:List UInt8)(p f g k:Nat)(w:World)(e:Ending)(w':World):Prop:=
 e= .returned (.int .i64 (if A1z bs p f=true then 8 else 0))/\A8d w' g p k (A1n bs p f) (A2i bs p f)/\w.grownBy w' (some g)
theorem A2b(bs:List UInt8)(i n:Int):U64 (A5y bs i n).1:=by
 unfold A5y U64;by_cases h1:n<1\/8<n
 ·rw[if_pos h1];exact⟨by decide,by decide⟩
 rw[if_neg h1];by_cases h2:i<0\/(bs.length:Int)<i\/(bs.length:Int) -i<n
 ·rw[if_pos h2];exact⟨by decide,by decide⟩
 rw[if_neg h2];have h3:=B8y ((bs.drop i.toNat).take n.toNat);have h4:256^((bs.drop i.toNat).take n.toNat).length<=256^8:=Nat.pow_le_pow_right (by decide) (by simp;omega);simp only;omega
theorem A2a(bs:List UInt8)(i n:Int)(m:Nat)(hn:n<=m)(hm:m<=8):(A5y bs i n).1<((256^m:Nat):Int):=by
 have hp:0<256^m:=Nat.pow_pos (by decide);unfold A5y;by_cases h1:n<1\/8<n
 ·rw[if_pos h1];exact Int.ofNat_lt.2 hp
 rw[if_neg h1];by_cases h2:i<0\/(bs.length:Int)<i\/(bs.length:Int) -i<n
 ·rw[if_pos h2];exact Int.ofNat_lt.2 hp
 rw[if_neg h2];have h3:=B8y ((bs.drop i.toNat).take n.toNat);have h4:256^((bs.drop i.toNat).take n.toNat).length<=256^m:=Nat.pow_le_pow_right (by decide) (by simp;omega)
 exact Int.ofNat_lt.2 (Nat.lt_of_lt_of_le h3 h4)
theorem B5c(v:Int): -128<=A2g v 1/\A2g v 1<=127:=by rw[show A2g v 1=(v+128)%256-128 from rfl];omega
theorem B4u(v:Int): -32768<=A2g v 2/\A2g v 2<=32767:=by rw[show A2g v 2=(v+32768)%65536-32768 from rfl];omega
theorem E2w(w:World)(a:Option Addr)(n cap:Nat)(bs:List UInt8)(g p k:Nat)(hs:Sl A5q w a n bs)(hn:n<=1048576)(hcap:n<=cap)(hp:p<=1048576)(hb:A8d w g p k 0 0):
  Calls Tryz.prog 100 #[.slice a n cap,.pointer (some ⟨g,0,none⟩),.int .i64 1] w (A6q bs p 1 g k w):=by
 have HS:=hzz hs;have HBK:=hzz hb;have HV:Hid ((A5y bs ((p:Int)+1) 1).1=A2e bs p 1):=hzz rfl;have HU:=hzz (A2b bs ((p:Int)+1) 1)
 have hsm:=A2a bs ((p:Int)+1) 1 1 (by decide) (by decide)
 have HC:=hzz (fun w' (h:Below w.heap.size w w')=>A8u w' a n cap bs ((p:Int)+1) 1 (hs.below h) hn hcap (by unfold A5r;omega) (by unfold A5r;omega));rw[HV.out]at HC HU hsm
 generalize(A5y bs ((p:Int)+1) 1).2=e2 at*;have HRA:Hid (A1n bs p 1=0):=hzz (by unfold A1n;simp);have HRB:Hid (A2i bs p 1=0):=hzz (by unfold A2i;simp)
 obtain⟨x,hx⟩:=exz (A1n bs p 1);obtain⟨y,hy⟩:=exz (A2i bs p 1);have HX:=hzz hx;have HY:=hzz hy;rw[<-hx]at HRA;rw[<-hy]at HRB;clear hs hb hx hy HV;generalize A2e bs p 1=v at*
 rw[show((256^1:Nat):Int)=256 from rfl]at hsm;have hv0:=HU.out.1;go_enter Tryz.func100,Tryz.ntmps100
 go_wp2_with fail
 obtain⟨⟨c0,c1,c2,c3⟩,_,hgl⟩:=HBK.out.box;have d0:=fun w' (h:Below w.heap.size w w')=>A0e h c0
 clear c0 c1 c2 c3
 refine A0g (Below w.heap.size w) (.stir [(0,true),(1,true),(2,true),(3,true),(4,true),(5,true),(6,true),(7,false),(8,true),(9,true),(10,false),(11,true),(12,true),(13,true),(14,true),(15,true)]) (by kernel_rfl) (by kernel_rfl) (fun c a d v w h=>by cases d<;>exact h) ?_
 refine A0k (Below w.heap.size w) (fun _ h=>h) brz.drew ?_
 iterate 7
  refine A0h fun K hK=>tkX ?_
  go_simp
  try go_bits
  refine hK _ ?_;clear hK K
 refine A0h (fun K hK=> ?_);simp only[A2h,List.getElem?_toArray,List.getElem?_cons_succ,List.getElem?_cons_zero];rw[if_pos (by rfl)];apply Exists.intro;refine⟨fun w' hS'=> ?_,?_⟩
 ·go_simp;exact A4r.call (Calls.mono ((A5h w' 1 (by decide))) fun e w'' h=>⟨h.1,(fun hb''=>hb''▸hS') h.2⟩)
 go_simp;refine hK _ ?_;clear hK K;rw[show A1r 1=1 from rfl]
 iterate 2
  refine A0h fun K hK=>tkX ?_
  go_simp
  try go_bits
  refine hK _ ?_;clear hK K
 refine A0h (fun K hK=> ?_);simp only[A2h,List.getElem?_toArray,List.getElem?_cons_succ,List.getElem?_cons_zero];rw[if_pos (by rfl)];apply Exists.intro;refine⟨fun w' hS'=> ?_,?_⟩
 ·go_simp;exact A4r.call (Calls.mono ((HC.out w' hS')) fun e w'' h=>⟨h.1,(fun hb''=>hb''▸hS') h.2⟩)
 go_simp;refine hK _ ?_;clear hK K
 iterate 5
  refine A0h fun K hK=>tkX ?_
  go_simp
  try go_bits
  refine hK _ ?_;clear hK K
 refine A0n (fun y1 hy=> ?_);have HY1:=hzz hy;have HB1:=hzz (HBK.out.below hy);clear d0 hy HC;obtain⟨⟨c0,c1,c2,c3⟩,⟨f2,f3⟩,hg1⟩:=HB1.out.box
 go_wp2_with fail
 go_ret;exact⟨rfl,by rw[<-HX.out,<-HY.out,HRA.out,HRB.out];exact HB1.out,A3f HY1.out⟩
theorem E2f(w:World)(a:Option Addr)(n cap:Nat)(bs:List UInt8)(g p k:Nat)(hs:Sl A5q w a n bs)(hn:n<=1048576)(hcap:n<=cap)(hp:p<=1048576)(hb:A8d w g p k 0 0):
  Calls Tryz.prog 100 #[.slice a n cap,.pointer (some ⟨g,0,none⟩),.int .i64 2] w (A6q bs p 2 g k w):=by
 have HS:=hzz hs;have HBK:=hzz hb;have HV:Hid ((A5y bs ((p:Int)+1) 1).1=A2e bs p 2):=hzz rfl;have HU:=hzz (A2b bs ((p:Int)+1) 1)
 have hsm:=A2a bs ((p:Int)+1) 1 1 (by decide) (by decide)
 have HC:=hzz (fun w' (h:Below w.heap.size w w')=>A8u w' a n cap bs ((p:Int)+1) 1 (hs.below h) hn hcap (by unfold A5r;omega) (by unfold A5r;omega));rw[HV.out]at HC HU hsm
 generalize(A5y bs ((p:Int)+1) 1).2=e2 at*;have HRA:Hid (A1n bs p 2=A2e bs p 2):=hzz (by unfold A1n;simp);have HRB:Hid (A2i bs p 2=0):=hzz (by unfold A2i;simp)
 obtain⟨x,hx⟩:=exz (A1n bs p 2);obtain⟨y,hy⟩:=exz (A2i bs p 2);have HX:=hzz hx;have HY:=hzz hy;rw[<-hx]at HRA;rw[<-hy]at HRB;clear hs hb hx hy HV;generalize A2e bs p 2=v at*
 rw[show((256^1:Nat):Int)=256 from rfl]at hsm;have hv0:=HU.out.1;go_enter Tryz.func100,Tryz.ntmps100
 go_wp2_with fail
 obtain⟨⟨c0,c1,c2,c3⟩,_,hgl⟩:=HBK.out.box;have d0:=fun w' (h:Below w.heap.size w w')=>A0e h c0
 clear c0 c1 c2 c3
 refine A0g (Below w.heap.size w) (.stir [(0,true),(1,true),(2,true),(3,true),(4,true),(5,true),(6,true),(7,false),(8,true),(9,true),(10,false),(11,true),(12,true),(13,true),(14,true),(15,true)]) (by kernel_rfl) (by kernel_rfl) (fun c a d v w h=>by cases d<;>exact h) ?_
 refine A0k (Below w.heap.size w) (fun _ h=>h) brz.drew ?_
 iterate 7
  refine A0h fun K hK=>tkX ?_
  go_simp
  try go_bits
  refine hK _ ?_;clear hK K
 refine A0h (fun K hK=> ?_);simp only[A2h,List.getElem?_toArray,List.getElem?_cons_succ,List.getElem?_cons_zero];rw[if_pos (by rfl)];apply Exists.intro;refine⟨fun w' hS'=> ?_,?_⟩
 ·go_simp;exact A4r.call (Calls.mono ((A5h w' 2 (by decide))) fun e w'' h=>⟨h.1,(fun hb''=>hb''▸hS') h.2⟩)
 go_simp;refine hK _ ?_;clear hK K;rw[show A1r 2=2 from rfl]
 iterate 2
  refine A0h fun K hK=>tkX ?_
  go_simp
  try go_bits
  refine hK _ ?_;clear hK K
 refine A0h (fun K hK=> ?_);simp only[A2h,List.getElem?_toArray,List.getElem?_cons_succ,List.getElem?_cons_zero];rw[if_pos (by rfl)];apply Exists.intro;refine⟨fun w' hS'=> ?_,?_⟩
 ·go_simp;exact A4r.call (Calls.mono ((HC.out w' hS')) fun e w'' h=>⟨h.1,(fun hb''=>hb''▸hS') h.2⟩)
 go_simp;refine hK _ ?_;clear hK K
 iterate 5
  refine A0h fun K hK=>tkX ?_
  go_simp
  try go_bits
  refine hK _ ?_;clear hK K
 refine A0n (fun y1 hy=> ?_);have HY1:=hzz hy;have HB1:=hzz (HBK.out.below hy);clear d0 hy HC;obtain⟨⟨c0,c1,c2,c3⟩,⟨f2,f3⟩,hg1⟩:=HB1.out.box
 go_wp2_with fail
 go_ret;exact⟨rfl,by rw[<-HX.out,<-HY.out,HRA.out,HRB.out];exact HB1.out.set2,A4w (A3f HY1.out)⟩
theorem E1w(w:World)(a:Option Addr)(n cap:Nat)(bs:List UInt8)(g p k:Nat)(hs:Sl A5q w a n bs)(hn:n<=1048576)(hcap:n<=cap)(hp:p<=1048576)(hb:A8d w g p k 0 0):
  Calls Tryz.prog 100 #[.slice a n cap,.pointer (some ⟨g,0,none⟩),.int .i64 3] w (A6q bs p 3 g k w):=by
 have HS:=hzz hs;have HBK:=hzz hb;have HV:Hid ((A5y bs ((p:Int)+1) 1).1=A2e bs p 3):=hzz rfl;have HU:=hzz (A2b bs ((p:Int)+1) 1)
 have hsm:=A2a bs ((p:Int)+1) 1 1 (by decide) (by decide)
 have HC:=hzz (fun w' (h:Below w.heap.size w w')=>A8u w' a n cap bs ((p:Int)+1) 1 (hs.below h) hn hcap (by unfold A5r;omega) (by unfold A5r;omega));rw[HV.out]at HC HU hsm
 generalize(A5y bs ((p:Int)+1) 1).2=e2 at*;have HRA:Hid (A1n bs p 3=A2g (A2e bs p 3) 1):=hzz (by unfold A1n;simp);have HRB:Hid (A2i bs p 3=0):=hzz (by unfold A2i;simp)
 obtain⟨x,hx⟩:=exz (A1n bs p 3);obtain⟨y,hy⟩:=exz (A2i bs p 3);have HX:=hzz hx;have HY:=hzz hy;rw[<-hx]at HRA;rw[<-hy]at HRB;clear hs hb hx hy HV;generalize A2e bs p 3=v at*
 rw[show((256^1:Nat):Int)=256 from rfl]at hsm;have hv0:=HU.out.1;go_enter Tryz.func100,Tryz.ntmps100
 go_wp2_with fail
 obtain⟨⟨c0,c1,c2,c3⟩,_,hgl⟩:=HBK.out.box;have d0:=fun w' (h:Below w.heap.size w w')=>A0e h c0
 clear c0 c1 c2 c3
 refine A0g (Below w.heap.size w) (.stir [(0,true),(1,true),(2,true),(3,true),(4,true),(5,true),(6,true),(7,false),(8,true),(9,true),(10,false),(11,true),(12,true),(13,true),(14,true),(15,true)]) (by kernel_rfl) (by kernel_rfl) (fun c a d v w h=>by cases d<;>exact h) ?_
 refine A0k (Below w.heap.size w) (fun _ h=>h) brz.drew ?_
 iterate 7
  refine A0h fun K hK=>tkX ?_
  go_simp
  try go_bits
  refine hK _ ?_;clear hK K
 refine A0h (fun K hK=> ?_);simp only[A2h,List.getElem?_toArray,List.getElem?_cons_succ,List.getElem?_cons_zero];rw[if_pos (by rfl)];apply Exists.intro;refine⟨fun w' hS'=> ?_,?_⟩
 ·go_simp;exact A4r.call (Calls.mono ((A5h w' 3 (by decide))) fun e w'' h=>⟨h.1,(fun hb''=>hb''▸hS') h.2⟩)
 go_simp;refine hK _ ?_;clear hK K;rw[show A1r 3=2 from rfl]
 iterate 2
  refine A0h fun K hK=>tkX ?_
  go_simp
  try go_bits
  refine hK _ ?_;clear hK K
 refine A0h (fun K hK=> ?_);simp only[A2h,List.getElem?_toArray,List.getElem?_cons_succ,List.getElem?_cons_zero];rw[if_pos (by rfl)];apply Exists.intro;refine⟨fun w' hS'=> ?_,?_⟩
 ·go_simp;exact A4r.call (Calls.mono ((HC.out w' hS')) fun e w'' h=>⟨h.1,(fun hb''=>hb''▸hS') h.2⟩)
 go_simp;refine hK _ ?_;clear hK K
 iterate 5
  refine A0h fun K hK=>tkX ?_
  go_simp
  try go_bits
  refine hK _ ?_;clear hK K
 refine A0n (fun y1 hy=> ?_);have HY1:=hzz hy;have HB1:=hzz (HBK.out.below hy);clear d0 hy HC;obtain⟨⟨c0,c1,c2,c3⟩,⟨f2,f3⟩,hg1⟩:=HB1.out.box
 have HSG:=hzz (B4n y1 v 1 HU.out (by unfold A5r;omega))
 go_wp2_with fail
 refine HSG.out.mono ?_;rintro e w' ⟨rfl,rfl⟩
 go_wp2_with fail
 go_ret;exact⟨rfl,by rw[<-HX.out,<-HY.out,HRA.out,HRB.out];exact HB1.out.set2,A4w (A3f HY1.out)⟩
theorem E1h(w:World)(a:Option Addr)(n cap:Nat)(bs:List UInt8)(g p k:Nat)(hs:Sl A5q w a n bs)(hn:n<=1048576)(hcap:n<=cap)(hp:p<=1048576)(hb:A8d w g p k 0 0):
  Calls Tryz.prog 100 #[.slice a n cap,.pointer (some ⟨g,0,none⟩),.int .i64 4] w (A6q bs p 4 g k w):=by
 have HS:=hzz hs;have HBK:=hzz hb;have HV:Hid ((A5y bs ((p:Int)+1) 2).1=A2e bs p 4):=hzz rfl;have HU:=hzz (A2b bs ((p:Int)+1) 2)
 have hsm:=A2a bs ((p:Int)+1) 2 2 (by decide) (by decide)
 have HC:=hzz (fun w' (h:Below w.heap.size w w')=>A8u w' a n cap bs ((p:Int)+1) 2 (hs.below h) hn hcap (by unfold A5r;omega) (by unfold A5r;omega));rw[HV.out]at HC HU hsm
 generalize(A5y bs ((p:Int)+1) 2).2=e2 at*;have HRA:Hid (A1n bs p 4=A2g (A2e bs p 4) 2):=hzz (by unfold A1n;simp);have HRB:Hid (A2i bs p 4=0):=hzz (by unfold A2i;simp)
 obtain⟨x,hx⟩:=exz (A1n bs p 4);obtain⟨y,hy⟩:=exz (A2i bs p 4);have HX:=hzz hx;have HY:=hzz hy;rw[<-hx]at HRA;rw[<-hy]at HRB;clear hs hb hx hy HV;generalize A2e bs p 4=v at*
 rw[show((256^2:Nat):Int)=65536 from rfl]at hsm;have hv0:=HU.out.1;go_enter Tryz.func100,Tryz.ntmps100
 go_wp2_with fail
 obtain⟨⟨c0,c1,c2,c3⟩,_,hgl⟩:=HBK.out.box;have d0:=fun w' (h:Below w.heap.size w w')=>A0e h c0
 clear c0 c1 c2 c3
 refine A0g (Below w.heap.size w) (.stir [(0,true),(1,true),(2,true),(3,true),(4,true),(5,true),(6,true),(7,false),(8,true),(9,true),(10,false),(11,true),(12,true),(13,true),(14,true),(15,true)]) (by kernel_rfl) (by kernel_rfl) (fun c a d v w h=>by cases d<;>exact h) ?_
 refine A0k (Below w.heap.size w) (fun _ h=>h) brz.drew ?_
 iterate 7
  refine A0h fun K hK=>tkX ?_
  go_simp
  try go_bits
  refine hK _ ?_;clear hK K
 refine A0h (fun K hK=> ?_);simp only[A2h,List.getElem?_toArray,List.getElem?_cons_succ,List.getElem?_cons_zero];rw[if_pos (by rfl)];apply Exists.intro;refine⟨fun w' hS'=> ?_,?_⟩
 ·go_simp;exact A4r.call (Calls.mono ((A5h w' 4 (by decide))) fun e w'' h=>⟨h.1,(fun hb''=>hb''▸hS') h.2⟩)
 go_simp;refine hK _ ?_;clear hK K;rw[show A1r 4=3 from rfl]
 iterate 2
  refine A0h fun K hK=>tkX ?_
  go_simp
  try go_bits
  refine hK _ ?_;clear hK K
 refine A0h (fun K hK=> ?_);simp only[A2h,List.getElem?_toArray,List.getElem?_cons_succ,List.getElem?_cons_zero];rw[if_pos (by rfl)];apply Exists.intro;refine⟨fun w' hS'=> ?_,?_⟩
 ·go_simp;exact A4r.call (Calls.mono ((HC.out w' hS')) fun e w'' h=>⟨h.1,(fun hb''=>hb''▸hS') h.2⟩)
 go_simp;refine hK _ ?_;clear hK K
 iterate 5
  refine A0h fun K hK=>tkX ?_
  go_simp
  try go_bits
  refine hK _ ?_;clear hK K
 refine A0n (fun y1 hy=> ?_);have HY1:=hzz hy;have HB1:=hzz (HBK.out.below hy);clear d0 hy HC;obtain⟨⟨c0,c1,c2,c3⟩,⟨f2,f3⟩,hg1⟩:=HB1.out.box
 have HSG:=hzz (B4n y1 v 2 HU.out (by unfold A5r;omega))
 go_wp2_with fail
 refine HSG.out.mono ?_;rintro e w' ⟨rfl,rfl⟩
 go_wp2_with fail
 go_ret;exact⟨rfl,by rw[<-HX.out,<-HY.out,HRA.out,HRB.out];exact HB1.out.set2,A4w (A3f HY1.out)⟩
theorem E1u(w:World)(a:Option Addr)(n cap:Nat)(bs:List UInt8)(g p k:Nat)(hs:Sl A5q w a n bs)(hn:n<=1048576)(hcap:n<=cap)(hp:p<=1048576)(hb:A8d w g p k 0 0):
  Calls Tryz.prog 100 #[.slice a n cap,.pointer (some ⟨g,0,none⟩),.int .i64 5] w (A6q bs p 5 g k w):=by
 have HS:=hzz hs;have HBK:=hzz hb;have HV:Hid ((A5y bs ((p:Int)+1) 1).1=A2e bs p 5):=hzz rfl;have HU:=hzz (A2b bs ((p:Int)+1) 1)
 have hsm:=A2a bs ((p:Int)+1) 1 1 (by decide) (by decide)
 have HC:=hzz (fun w' (h:Below w.heap.size w w')=>A8u w' a n cap bs ((p:Int)+1) 1 (hs.below h) hn hcap (by unfold A5r;omega) (by unfold A5r;omega));rw[HV.out]at HC HU hsm
 generalize(A5y bs ((p:Int)+1) 1).2=e2 at*;have HRA:Hid (A1n bs p 5=A2e bs p 5):=hzz (by unfold A1n;simp);have HRB:Hid (A2i bs p 5=0):=hzz (by unfold A2i;simp)
 obtain⟨x,hx⟩:=exz (A1n bs p 5);obtain⟨y,hy⟩:=exz (A2i bs p 5);have HX:=hzz hx;have HY:=hzz hy;rw[<-hx]at HRA;rw[<-hy]at HRB;clear hs hb hx hy HV;generalize A2e bs p 5=v at*
 rw[show((256^1:Nat):Int)=256 from rfl]at hsm;have hv0:=HU.out.1;go_enter Tryz.func100,Tryz.ntmps100
 go_wp2_with fail
 obtain⟨⟨c0,c1,c2,c3⟩,_,hgl⟩:=HBK.out.box;have d0:=fun w' (h:Below w.heap.size w w')=>A0e h c0
 clear c0 c1 c2 c3
 refine A0g (Below w.heap.size w) (.stir [(0,true),(1,true),(2,true),(3,true),(4,true),(5,true),(6,true),(7,false),(8,true),(9,true),(10,false),(11,true),(12,true),(13,true),(14,true),(15,true)]) (by kernel_rfl) (by kernel_rfl) (fun c a d v w h=>by cases d<;>exact h) ?_
 refine A0k (Below w.heap.size w) (fun _ h=>h) brz.drew ?_
 iterate 7
  refine A0h fun K hK=>tkX ?_
  go_simp
  try go_bits
  refine hK _ ?_;clear hK K
 refine A0h (fun K hK=> ?_);simp only[A2h,List.getElem?_toArray,List.getElem?_cons_succ,List.getElem?_cons_zero];rw[if_pos (by rfl)];apply Exists.intro;refine⟨fun w' hS'=> ?_,?_⟩
 ·go_simp;exact A4r.call (Calls.mono ((A5h w' 5 (by decide))) fun e w'' h=>⟨h.1,(fun hb''=>hb''▸hS') h.2⟩)
 go_simp;refine hK _ ?_;clear hK K;rw[show A1r 5=2 from rfl]
 iterate 2
  refine A0h fun K hK=>tkX ?_
  go_simp
  try go_bits
  refine hK _ ?_;clear hK K
 refine A0h (fun K hK=> ?_);simp only[A2h,List.getElem?_toArray,List.getElem?_cons_succ,List.getElem?_cons_zero];rw[if_pos (by rfl)];apply Exists.intro;refine⟨fun w' hS'=> ?_,?_⟩
 ·go_simp;exact A4r.call (Calls.mono ((HC.out w' hS')) fun e w'' h=>⟨h.1,(fun hb''=>hb''▸hS') h.2⟩)
 go_simp;refine hK _ ?_;clear hK K
 iterate 5
  refine A0h fun K hK=>tkX ?_
  go_simp
  try go_bits
  refine hK _ ?_;clear hK K
 refine A0n (fun y1 hy=> ?_);have HY1:=hzz hy;have HB1:=hzz (HBK.out.below hy);clear d0 hy HC;obtain⟨⟨c0,c1,c2,c3⟩,⟨f2,f3⟩,hg1⟩:=HB1.out.box
 go_wp2_with fail
 go_ret;exact⟨rfl,by rw[<-HX.out,<-HY.out,HRA.out,HRB.out];exact HB1.out.set2,A4w (A3f HY1.out)⟩
theorem E1n(w:World)(a:Option Addr)(n cap:Nat)(bs:List UInt8)(g p k:Nat)(hs:Sl A5q w a n bs)(hn:n<=1048576)(hcap:n<=cap)(hp:p<=1048576)(hb:A8d w g p k 0 0):
  Calls Tryz.prog 100 #[.slice a n cap,.pointer (some ⟨g,0,none⟩),.int .i64 6] w (A6q bs p 6 g k w):=by
 have HS:=hzz hs;have HBK:=hzz hb;have HV:Hid ((A5y bs ((p:Int)+1) 2).1=A2e bs p 6):=hzz rfl;have HU:=hzz (A2b bs ((p:Int)+1) 2)
 have hsm:=A2a bs ((p:Int)+1) 2 2 (by decide) (by decide)
 have HC:=hzz (fun w' (h:Below w.heap.size w w')=>A8u w' a n cap bs ((p:Int)+1) 2 (hs.below h) hn hcap (by unfold A5r;omega) (by unfold A5r;omega));rw[HV.out]at HC HU hsm
 generalize(A5y bs ((p:Int)+1) 2).2=e2 at*;have HRA:Hid (A1n bs p 6=A2e bs p 6):=hzz (by unfold A1n;simp);have HRB:Hid (A2i bs p 6=0):=hzz (by unfold A2i;simp)
 obtain⟨x,hx⟩:=exz (A1n bs p 6);obtain⟨y,hy⟩:=exz (A2i bs p 6);have HX:=hzz hx;have HY:=hzz hy;rw[<-hx]at HRA;rw[<-hy]at HRB;clear hs hb hx hy HV;generalize A2e bs p 6=v at*
 rw[show((256^2:Nat):Int)=65536 from rfl]at hsm;have hv0:=HU.out.1;go_enter Tryz.func100,Tryz.ntmps100
 go_wp2_with fail
 obtain⟨⟨c0,c1,c2,c3⟩,_,hgl⟩:=HBK.out.box;have d0:=fun w' (h:Below w.heap.size w w')=>A0e h c0
 clear c0 c1 c2 c3
 refine A0g (Below w.heap.size w) (.stir [(0,true),(1,true),(2,true),(3,true),(4,true),(5,true),(6,true),(7,false),(8,true),(9,true),(10,false),(11,true),(12,true),(13,true),(14,true),(15,true)]) (by kernel_rfl) (by kernel_rfl) (fun c a d v w h=>by cases d<;>exact h) ?_
 refine A0k (Below w.heap.size w) (fun _ h=>h) brz.drew ?_
 iterate 7
  refine A0h fun K hK=>tkX ?_
  go_simp
  try go_bits
  refine hK _ ?_;clear hK K
 refine A0h (fun K hK=> ?_);simp only[A2h,List.getElem?_toArray,List.getElem?_cons_succ,List.getElem?_cons_zero];rw[if_pos (by rfl)];apply Exists.intro;refine⟨fun w' hS'=> ?_,?_⟩
 ·go_simp;exact A4r.call (Calls.mono ((A5h w' 6 (by decide))) fun e w'' h=>⟨h.1,(fun hb''=>hb''▸hS') h.2⟩)
 go_simp;refine hK _ ?_;clear hK K;rw[show A1r 6=3 from rfl]
 iterate 2
  refine A0h fun K hK=>tkX ?_
  go_simp
  try go_bits
  refine hK _ ?_;clear hK K
 refine A0h (fun K hK=> ?_);simp only[A2h,List.getElem?_toArray,List.getElem?_cons_succ,List.getElem?_cons_zero];rw[if_pos (by rfl)];apply Exists.intro;refine⟨fun w' hS'=> ?_,?_⟩
 ·go_simp;exact A4r.call (Calls.mono ((HC.out w' hS')) fun e w'' h=>⟨h.1,(fun hb''=>hb''▸hS') h.2⟩)
 go_simp;refine hK _ ?_;clear hK K
 iterate 5
  refine A0h fun K hK=>tkX ?_
  go_simp
  try go_bits
  refine hK _ ?_;clear hK K
 refine A0n (fun y1 hy=> ?_);have HY1:=hzz hy;have HB1:=hzz (HBK.out.below hy);clear d0 hy HC;obtain⟨⟨c0,c1,c2,c3⟩,⟨f2,f3⟩,hg1⟩:=HB1.out.box
 go_wp2_with fail
 go_ret;exact⟨rfl,by rw[<-HX.out,<-HY.out,HRA.out,HRB.out];exact HB1.out.set2,A4w (A3f HY1.out)⟩
theorem E3c(w:World)(a:Option Addr)(n cap:Nat)(bs:List UInt8)(g p k:Nat)(hs:Sl A5q w a n bs)(hn:n<=1048576)(hcap:n<=cap)(hp:p<=1048576)(hb:A8d w g p k 0 0):
  Calls Tryz.prog 100 #[.slice a n cap,.pointer (some ⟨g,0,none⟩),.int .i64 7] w (A6q bs p 7 g k w):=by
 have HS:=hzz hs;have HBK:=hzz hb;have HV:Hid ((A5y bs ((p:Int)+1) 2).1=A2e bs p 7):=hzz rfl;have HU:=hzz (A2b bs ((p:Int)+1) 2)
 have hsm:=A2a bs ((p:Int)+1) 2 2 (by decide) (by decide)
 have HC:=hzz (fun w' (h:Below w.heap.size w w')=>A8u w' a n cap bs ((p:Int)+1) 2 (hs.below h) hn hcap (by unfold A5r;omega) (by unfold A5r;omega));rw[HV.out]at HC HU hsm
 generalize(A5y bs ((p:Int)+1) 2).2=e2 at*;have HRA:Hid (A1n bs p 7=(p:Int)+A2g (A2e bs p 7) 2):=hzz (by unfold A1n;simp);have HRB:Hid (A2i bs p 7=0):=hzz (by unfold A2i;simp)
 obtain⟨x,hx⟩:=exz (A1n bs p 7);obtain⟨y,hy⟩:=exz (A2i bs p 7);have HX:=hzz hx;have HY:=hzz hy;rw[<-hx]at HRA;rw[<-hy]at HRB;clear hs hb hx hy HV;generalize A2e bs p 7=v at*
 rw[show((256^2:Nat):Int)=65536 from rfl]at hsm;have hv0:=HU.out.1;go_enter Tryz.func100,Tryz.ntmps100
 go_wp2_with fail
 obtain⟨⟨c0,c1,c2,c3⟩,_,hgl⟩:=HBK.out.box;have d0:=fun w' (h:Below w.heap.size w w')=>A0e h c0
 clear c0 c1 c2 c3
 refine A0g (Below w.heap.size w) (.stir [(0,true),(1,true),(2,true),(3,true),(4,true),(5,true),(6,true),(7,false),(8,true),(9,true),(10,false),(11,true),(12,true),(13,true),(14,true),(15,true)]) (by kernel_rfl) (by kernel_rfl) (fun c a d v w h=>by cases d<;>exact h) ?_
 refine A0k (Below w.heap.size w) (fun _ h=>h) brz.drew ?_
 iterate 7
  refine A0h fun K hK=>tkX ?_
  go_simp
  try go_bits
  refine hK _ ?_;clear hK K
 refine A0h (fun K hK=> ?_);simp only[A2h,List.getElem?_toArray,List.getElem?_cons_succ,List.getElem?_cons_zero];rw[if_pos (by rfl)];apply Exists.intro;refine⟨fun w' hS'=> ?_,?_⟩
 ·go_simp;exact A4r.call (Calls.mono ((A5h w' 7 (by decide))) fun e w'' h=>⟨h.1,(fun hb''=>hb''▸hS') h.2⟩)
 go_simp;refine hK _ ?_;clear hK K;rw[show A1r 7=3 from rfl]
 iterate 2
  refine A0h fun K hK=>tkX ?_
  go_simp
  try go_bits
  refine hK _ ?_;clear hK K
 refine A0h (fun K hK=> ?_);simp only[A2h,List.getElem?_toArray,List.getElem?_cons_succ,List.getElem?_cons_zero];rw[if_pos (by rfl)];apply Exists.intro;refine⟨fun w' hS'=> ?_,?_⟩
 ·go_simp;exact A4r.call (Calls.mono ((HC.out w' hS')) fun e w'' h=>⟨h.1,(fun hb''=>hb''▸hS') h.2⟩)
 go_simp;refine hK _ ?_;clear hK K
 iterate 5
  refine A0h fun K hK=>tkX ?_
  go_simp
  try go_bits
  refine hK _ ?_;clear hK K
 refine A0n (fun y1 hy=> ?_);have HY1:=hzz hy;have HB1:=hzz (HBK.out.below hy);clear d0 hy HC;obtain⟨⟨c0,c1,c2,c3⟩,⟨f2,f3⟩,hg1⟩:=HB1.out.box
 have HSG:=hzz (fun w'=>B4n w' v 2 HU.out (by unfold A5r;omega));have hs2:=B4u v
 go_wp2_with fail
 have d0:=fun w' (h:D8i y1 g p k w')=>h.1.choose_spec.box.1.1
 have HBd:=HB1.out.below (Below.refl y1.heap.size y1).drew;have hSw:D8i y1 g p k y1.drew:=⟨⟨0,HBd⟩,A3f brz.drew⟩;clear c0 c1 c2 c3 f2 f3;have HBD:=hzz HBd;clear HBd
 refine A0g (D8i y1 g p k) (.of [(0,true),(1,true),(2,true),(3,true),(4,true),(5,true),(6,false),(7,true),(8,true),(9,true),(10,false)] (.stir [])) (by kernel_rfl) (by kernel_rfl) (fun c a d v w h=>by cases d<;>exact h) ?_
 iterate 6
  refine A0b fun K hK=>tkF ?_
  go_simp
  try go_bits
  refine hK _ _ ?_;clear hK K
 refine A0b fun K hK=>alF ?_
 go_step;refine(HSG.out _).mono ?_;rintro e w' ⟨rfl,rfl⟩;go_simp;refine hK _ _ ?_;clear hK K
 iterate 3
  refine A0b fun K hK=>tkF ?_
  go_simp
  try go_bits
  refine hK _ _ ?_;clear hK K
 obtain⟨⟨c0,c1,c2,c3⟩,⟨f2,f3⟩,hg1⟩:=HBD.out.box;refine A0b fun K hK=>alF ?_
 go_step;have HX2:A8d (y1.setCell ⟨g,2,none⟩ (.int .i64 ((p:Int)+A2g v 2))).drew g p k ((p:Int)+A2g v 2) 0:=HB1.out.set2
 have HG2:w.grownBy (y1.setCell ⟨g,2,none⟩ (.int .i64 ((p:Int)+A2g v 2))).drew (some g):=B3f (A4w (A3f HY1.out))
 refine⟨⟨⟨_,HX2⟩,B3f (A4w (A3f brz))⟩,hK _ _ ?_⟩;clear hK K;have HXX:=hzz HX2;have HGG:=hzz HG2;clear HX2 HG2 c0 c1 c2 c3 f2 f3 d0 hSw
 refine A0k (fun z=>z=(y1.setCell ⟨g,2,none⟩ (.int .i64 ((p:Int)+A2g v 2))).drew) (fun z hz=>by subst hz;exact⟨⟨_,HXX.out⟩,B3f (A4w (A3f brz))⟩) rfl ?_
 refine A0n (fun y2 hy=> ?_);subst hy
 go_wp2_with fail
 go_ret;exact⟨rfl,by rw[<-HX.out,<-HY.out,HRA.out,HRB.out];exact HXX.out,HGG.out⟩
theorem E2q(w:World)(a:Option Addr)(n cap:Nat)(bs:List UInt8)(g p k:Nat)(hs:Sl A5q w a n bs)(hn:n<=1048576)(hcap:n<=cap)(hp:p<=1048576)(hb:A8d w g p k 0 0):
  Calls Tryz.prog 100 #[.slice a n cap,.pointer (some ⟨g,0,none⟩),.int .i64 8] w (A6q bs p 8 g k w):=by
 have HS:=hzz hs;have HBK:=hzz hb;have HV:Hid ((A5y bs ((p:Int)+1) 2).1=A2e bs p 8):=hzz rfl;have HU:=hzz (A2b bs ((p:Int)+1) 2)
 have hsm:=A2a bs ((p:Int)+1) 2 2 (by decide) (by decide)
 have HC:=hzz (fun w' (h:Below w.heap.size w w')=>A8u w' a n cap bs ((p:Int)+1) 2 (hs.below h) hn hcap (by unfold A5r;omega) (by unfold A5r;omega));rw[HV.out]at HC HU hsm
 generalize(A5y bs ((p:Int)+1) 2).2=e2 at*;have HRA:Hid (A1n bs p 8=A2e bs p 8/256):=hzz (by unfold A1n;simp)
 have HRB:Hid (A2i bs p 8=A2g (A2e bs p 8) 1):=hzz (by unfold A2i;simp);obtain⟨x,hx⟩:=exz (A1n bs p 8);obtain⟨y,hy⟩:=exz (A2i bs p 8);have HX:=hzz hx;have HY:=hzz hy;rw[<-hx]at HRA
 rw[<-hy]at HRB;clear hs hb hx hy HV;generalize A2e bs p 8=v at*;rw[show((256^2:Nat):Int)=65536 from rfl]at hsm;have hv0:=HU.out.1;go_enter Tryz.func100,Tryz.ntmps100
 go_wp2_with fail
 obtain⟨⟨c0,c1,c2,c3⟩,_,hgl⟩:=HBK.out.box;have d0:=fun w' (h:Below w.heap.size w w')=>A0e h c0
 clear c0 c1 c2 c3
 refine A0g (Below w.heap.size w) (.stir [(0,true),(1,true),(2,true),(3,true),(4,true),(5,true),(6,true),(7,false),(8,true),(9,true),(10,false),(11,true),(12,true),(13,true),(14,true),(15,true)]) (by kernel_rfl) (by kernel_rfl) (fun c a d v w h=>by cases d<;>exact h) ?_
 refine A0k (Below w.heap.size w) (fun _ h=>h) brz.drew ?_
 iterate 7
  refine A0h fun K hK=>tkX ?_
  go_simp
  try go_bits
  refine hK _ ?_;clear hK K
 refine A0h (fun K hK=> ?_);simp only[A2h,List.getElem?_toArray,List.getElem?_cons_succ,List.getElem?_cons_zero];rw[if_pos (by rfl)];apply Exists.intro;refine⟨fun w' hS'=> ?_,?_⟩
 ·go_simp;exact A4r.call (Calls.mono ((A5h w' 8 (by decide))) fun e w'' h=>⟨h.1,(fun hb''=>hb''▸hS') h.2⟩)
 go_simp;refine hK _ ?_;clear hK K;rw[show A1r 8=3 from rfl]
 iterate 2
  refine A0h fun K hK=>tkX ?_
  go_simp
  try go_bits
  refine hK _ ?_;clear hK K
 refine A0h (fun K hK=> ?_);simp only[A2h,List.getElem?_toArray,List.getElem?_cons_succ,List.getElem?_cons_zero];rw[if_pos (by rfl)];apply Exists.intro;refine⟨fun w' hS'=> ?_,?_⟩
 ·go_simp;exact A4r.call (Calls.mono ((HC.out w' hS')) fun e w'' h=>⟨h.1,(fun hb''=>hb''▸hS') h.2⟩)
 go_simp;refine hK _ ?_;clear hK K
 iterate 5
  refine A0h fun K hK=>tkX ?_
  go_simp
  try go_bits
  refine hK _ ?_;clear hK K
 refine A0n (fun y1 hy=> ?_);have HY1:=hzz hy;have HB1:=hzz (HBK.out.below hy);clear d0 hy HC;obtain⟨⟨c0,c1,c2,c3⟩,⟨f2,f3⟩,hg1⟩:=HB1.out.box
 have HSG:=hzz (B4n y1 v 1 HU.out (by unfold A5r;omega))
 go_wp2_with fail
 refine HSG.out.mono ?_;rintro e w' ⟨rfl,rfl⟩
 go_wp2_with fail
 go_ret;exact⟨rfl,by rw[<-HX.out,<-HY.out,HRA.out,HRB.out];exact HB1.out.set2.set3,A4w (A4w (A3f HY1.out))⟩
theorem E1m(w:World)(a:Option Addr)(n cap:Nat)(bs:List UInt8)(g p k:Nat)(hs:Sl A5q w a n bs)(hn:n<=1048576)(hcap:n<=cap)(hp:p<=1048576)(hb:A8d w g p k 0 0):
  Calls Tryz.prog 100 #[.slice a n cap,.pointer (some ⟨g,0,none⟩),.int .i64 9] w (A6q bs p 9 g k w):=by
 have HS:=hzz hs;have HBK:=hzz hb;have HV:Hid ((A5y bs ((p:Int)+1) 1).1=A2e bs p 9):=hzz rfl;have HU:=hzz (A2b bs ((p:Int)+1) 1)
 have hsm:=A2a bs ((p:Int)+1) 1 1 (by decide) (by decide)
 have HC:=hzz (fun w' (h:Below w.heap.size w w')=>A8u w' a n cap bs ((p:Int)+1) 1 (hs.below h) hn hcap (by unfold A5r;omega) (by unfold A5r;omega));rw[HV.out]at HC HU hsm
 generalize(A5y bs ((p:Int)+1) 1).2=e2 at*;have HRA:Hid (A1n bs p 9=A2e bs p 9):=hzz (by unfold A1n;simp);have HRB:Hid (A2i bs p 9=0):=hzz (by unfold A2i;simp)
 obtain⟨x,hx⟩:=exz (A1n bs p 9);obtain⟨y,hy⟩:=exz (A2i bs p 9);have HX:=hzz hx;have HY:=hzz hy;rw[<-hx]at HRA;rw[<-hy]at HRB;clear hs hb hx hy HV;generalize A2e bs p 9=v at*
 rw[show((256^1:Nat):Int)=256 from rfl]at hsm;have hv0:=HU.out.1;go_enter Tryz.func100,Tryz.ntmps100
 go_wp2_with fail
 obtain⟨⟨c0,c1,c2,c3⟩,_,hgl⟩:=HBK.out.box;have d0:=fun w' (h:Below w.heap.size w w')=>A0e h c0
 clear c0 c1 c2 c3
 refine A0g (Below w.heap.size w) (.stir [(0,true),(1,true),(2,true),(3,true),(4,true),(5,true),(6,true),(7,false),(8,true),(9,true),(10,false),(11,true),(12,true),(13,true),(14,true),(15,true)]) (by kernel_rfl) (by kernel_rfl) (fun c a d v w h=>by cases d<;>exact h) ?_
 refine A0k (Below w.heap.size w) (fun _ h=>h) brz.drew ?_
 iterate 7
  refine A0h fun K hK=>tkX ?_
  go_simp
  try go_bits
  refine hK _ ?_;clear hK K
 refine A0h (fun K hK=> ?_);simp only[A2h,List.getElem?_toArray,List.getElem?_cons_succ,List.getElem?_cons_zero];rw[if_pos (by rfl)];apply Exists.intro;refine⟨fun w' hS'=> ?_,?_⟩
 ·go_simp;exact A4r.call (Calls.mono ((A5h w' 9 (by decide))) fun e w'' h=>⟨h.1,(fun hb''=>hb''▸hS') h.2⟩)
 go_simp;refine hK _ ?_;clear hK K;rw[show A1r 9=2 from rfl]
 iterate 2
  refine A0h fun K hK=>tkX ?_
  go_simp
  try go_bits
  refine hK _ ?_;clear hK K
 refine A0h (fun K hK=> ?_);simp only[A2h,List.getElem?_toArray,List.getElem?_cons_succ,List.getElem?_cons_zero];rw[if_pos (by rfl)];apply Exists.intro;refine⟨fun w' hS'=> ?_,?_⟩
 ·go_simp;exact A4r.call (Calls.mono ((HC.out w' hS')) fun e w'' h=>⟨h.1,(fun hb''=>hb''▸hS') h.2⟩)
 go_simp;refine hK _ ?_;clear hK K
 iterate 5
  refine A0h fun K hK=>tkX ?_
  go_simp
  try go_bits
  refine hK _ ?_;clear hK K
 refine A0n (fun y1 hy=> ?_);have HY1:=hzz hy;have HB1:=hzz (HBK.out.below hy);clear d0 hy HC;obtain⟨⟨c0,c1,c2,c3⟩,⟨f2,f3⟩,hg1⟩:=HB1.out.box
 have HBD:Hid (A1z bs p 9=(!(A1n bs p 9==8)&& !(A1n bs p 9==10))):=hzz rfl;rw[<-HX.out,HRA.out]at HBD
 have HFIN:=hzz (show ∀r:Int,r=(if A1z bs p 9=true then 8 else 0)->A6q bs p 9 g k w (.returned (.int .i64 r)) (y1.setCell ⟨g,2,none⟩ (.int .i64 v))from fun r hr=>
  ⟨by rw[hr],by rw[<-HX.out,<-HY.out,HRA.out,HRB.out];exact HB1.out.set2,A4w (A3f HY1.out)⟩)
 by_cases h8:v=8
 ·have e8:(v !=8)=false:=by simp[h8]
  have HR:=hzz (show A1z bs p 9=false by rw[HBD.out];simp[h8]);rw[HR.out]at HFIN;clear h8 HBD
  go_wp2_with fail
  go_ret;exact HFIN.out 0 rfl
 have e8:(v !=8)=true:=by simp[h8]
 by_cases h10:v=10
 ·have e10:(v !=10)=false:=by simp[h10]
  have HR:=hzz (show A1z bs p 9=false by rw[HBD.out];simp[h10]);rw[HR.out]at HFIN;clear h8 h10 HBD
  go_wp2_with fail
  go_ret;exact HFIN.out 0 rfl
 have e10:(v !=10)=true:=by simp[h10]
 have HR:=hzz (show A1z bs p 9=true by rw[HBD.out];simp[h8,h10]);rw[HR.out]at HFIN;clear h8 h10 HBD
 go_wp2_with fail
 go_ret;exact HFIN.out 8 rfl
theorem D4n(w:World)(a:Option Addr)(n cap:Nat)(bs:List UInt8)(g p k f:Nat)(hs:Sl A5q w a n bs)(hn:n<=1048576)(hcap:n<=cap)(hp:p<=1048576)(hb:A8d w g p k 0 0)(h1:f≠0)(h9:f<=9):
  Calls Tryz.prog 100 #[.slice a n cap,.pointer (some ⟨g,0,none⟩),.int .i64 (f:Nat)] w (A6q bs p f g k w):=by
 have h:f=1\/f=2\/f=3\/f=4\/f=5\/f=6\/f=7\/f=8\/f=9:=by omega
 rcases h with rfl|rfl|rfl|rfl|rfl|rfl|rfl|rfl|rfl
 ·exact E2w w a n cap bs g p k hs hn hcap hp hb
 ·exact E2f w a n cap bs g p k hs hn hcap hp hb
 ·exact E1w w a n cap bs g p k hs hn hcap hp hb
 ·exact E1h w a n cap bs g p k hs hn hcap hp hb
 ·exact E1u w a n cap bs g p k hs hn hcap hp hb
 ·exact E1n w a n cap bs g p k hs hn hcap hp hb
 ·exact E3c w a n cap bs g p k hs hn hcap hp hb
 ·exact E2q w a n cap bs g p k hs hn hcap hp hb
 exact E1m w a n cap bs g p k hs hn hcap hp hb
theorem C3w(bs:List UInt8)(p:Nat):A3w bs p<256:=(bs.getD p 0).toNat_lt
theorem A8e{f:Nat}(h0:f≠0)(h9:f<=9):1<=A1r f:=by
 match f,h0,h9 with
 |1,_,_|2,_,_|3,_,_|4,_,_|5,_,_|6,_,_|7,_,_|8,_,_|9,_,_=>decide
 |n+10,_,h=>omega
theorem B1h(bs:List UInt8)(p f:Nat):0<=A2e bs p f/\A2e bs p f<65536:=by
 have h1:=A2b bs ((p:Int)+1) ((max (A1r f-1) 1:Nat):Int);have h2:=A2a bs ((p:Int)+1) ((max (A1r f-1) 1:Nat):Int) 2 (by have:=B1q f;omega) (by decide);unfold A2e
 refine⟨h1.1,?_⟩;rw[show((256^2:Nat):Int)=65536 from rfl]at h2;exact h2
theorem C4j(bs:List UInt8)(p f:Nat): -32768<=A1n bs p f/\A1n bs p f<=(p:Int)+65536:=by
 have h:=B1h bs p f;unfold A1n;generalize A2e bs p f=v at*;have h1:=B5c v;have h2:=B4u v;simp only;split
 ·omega
 split
 ·omega
 split
 ·omega
 split
 ·omega
 split
 ·omega
 omega
theorem A1u{n:Int}(h: -9223372036854775808<=n/\n<=9223372036854775807):A4p n:=by
 unfold A4p Lit.wf;simp only[Bool.and_eq_true,decide_eq_true_eq];exact h
theorem C6k(bs:List UInt8)(p:Nat)(hp:p<=1048576):A4p (A7s bs p).pos/\A4p (A7s bs p).a/\(A7s bs p).op<256:=by
 have h:=C4j bs p (A0q (A3w bs p));exact⟨A1u (by unfold A7s;simp only;omega),A1u (by unfold A7s;simp only;omega),C3w bs p⟩
theorem B4g(bs:List UInt8)(fuel p:Nat)(acc:List RW)(h:bs.length<=p):B0c bs fuel p acc=(0,acc):=by
 cases fuel
 ·rfl
 unfold B0c;rw[if_pos h]
theorem B4r(bs:List UInt8)(fuel p:Nat)(acc:List RW)(h:p<bs.length)(h0:A0q (A3w bs p)=0):B0c bs (fuel+1) p acc=(8,[]):=by
 rw[B0c,if_neg (by omega),if_pos h0]
theorem B3h(bs:List UInt8)(fuel p:Nat)(acc:List RW)(h:p<bs.length)(h0:A0q (A3w bs p)≠0)(h1:bs.length-p<A1r (A0q (A3w bs p))):B0c bs (fuel+1) p acc=(6,[]):=by
 rw[B0c,if_neg (by omega),if_neg h0,if_pos h1]
theorem B9r(bs:List UInt8)(fuel p:Nat)(acc:List RW)(h:p<bs.length)(h0:A0q (A3w bs p)≠0)(h1:¬bs.length-p<A1r (A0q (A3w bs p)))(h2:A1z bs p (A0q (A3w bs p))=true):B0c bs (fuel+1) p acc=(8,[]):=by
 rw[B0c,if_neg (by omega),if_neg h0,if_neg h1,if_pos h2]
theorem B2g(bs:List UInt8)(fuel p:Nat)(acc:List RW)(h:p<bs.length)(h0:A0q (A3w bs p)≠0)(h1:¬bs.length-p<A1r (A0q (A3w bs p)))(h2:A1z bs p (A0q (A3w bs p))=false):
  B0c bs (fuel+1) p acc=B0c bs fuel (p+A1r (A0q (A3w bs p))) (acc++[A7s bs p]):=by
 rw[B0c,if_neg (by omega),if_neg h0,if_neg h1,if_neg (by rw[h2];decide)]
theorem B5t{bs:List UInt8}(h:4096<bs.length):A1y bs=(9,[]):=by unfold A1y;rw[if_pos h]
theorem A3c{bs:List UInt8}{e:Int}(h:¬4096<bs.length)(hd:B0c bs (bs.length+1) 0 []=(e,[]))(he:e≠0):A1y bs=(e,[]):=by
 unfold A1y;rw[if_neg h,hd,if_pos he]
theorem B3v{bs:List UInt8}{l:List RW}(h:¬4096<bs.length)(hd:B0c bs (bs.length+1) 0 []=(0,l))(hg:A7b l=false):A1y bs=(2,[]):=by
 unfold A1y;rw[if_neg h,hd,if_neg (by simp),if_neg (by simp[hg])]
theorem B6d{bs:List UInt8}{l:List RW}(h:¬4096<bs.length)(hd:B0c bs (bs.length+1) 0 []=(0,l))(hg:A7b l=true):A1y bs=(0,l):=by
 unfold A1y;rw[if_neg h,hd,if_neg (by simp),if_pos hg]
theorem stR:StE 112 118 (.agg #[.int .i64 0,.int .u8 0,.int .i64 0,.int .i64 0]) 4 32:=⟨Tryz.underlying112,by kernel_rfl,rfl⟩
theorem C4g{w:World}{B:Nat}{e:TypeId}{size:Nat}{v:Value}{n:Nat}{xs:List Value}(h:w.ownsRow B e size v n xs):some w.heap.size≠v.ownBlock:=by
 intro he;have:=(h.lt _ he.symm).2;omega
theorem C0x{w w':World}{B:Nat}{e t:TypeId}{size:Nat}{v:Value}{n g:Nat}{xs:List Value}{o:Obj}{cs:Array Value}{fr:Nat×Nat}(ho:w.ownsRow B e size v n xs)(hg:(w.alloc o).grownBy w' v.ownBlock)(hx:w.heap[g]? =some (.cells cs t fr))(hne:e≠t):w'.heap[g]? =some (.cells cs t fr):=by
 have hlt:=(Array.getElem?_eq_some_iff.1 hx).1;rw[hg.block g (by simp;omega) ?_,Below.heap_alloc _ _ _ hlt]
 ·exact hx
 intro he
 rcases ho.2 with⟨rfl,_⟩|⟨g2,cap,cur,rfl,_,hg2,_⟩
 ·simp[Value.ownBlock]at he
 simp[Value.ownBlock]at he;subst he;rw[hg2]at hx;simp at hx;exact hne hx.2.1
theorem D0r{w w':World}{o:Obj}{row:Option Nat}{g:Nat}(hg:(w.alloc o).grownBy w' row)(h:g<w.heap.size):g<w'.heap.size:=by
 have h1:=hg.size;simp at h1;omega
def A2d(R:Int×List RW)(w:World)(e:Ending)(w':World):Prop:=
 ∃v m,e= .returned (.tuple #[v,.int .i64 R.1])/\w'.ownsRow w.heap.size 118 4 v m (R.2.flatMap RW.cells)/\(∀r∈R.2,A4p r.pos/\A4p r.a/\r.op<256)/\Below w.heap.size w w'
theorem A2d.err{R:Int×List RW}{w w':World}{e:Int}(h:R=(e,[]))(hb:Below w.heap.size w w'):A2d R w (.returned (.tuple #[.slice none 0 0,.int .i64 e])) w':=by
 subst h
 exact⟨_,0,rfl,World.ownsRow_nil _ _ _ _,(fun r hr=>by cases hr),hb⟩
theorem C4u(w:World)(a:Option Addr)(n cap:Nat)(bs:List UInt8)(hs:Sl A5q w a n bs)(hn:n<=65536)(hcap:n<=cap):Calls Tryz.prog 53 #[.slice a n cap] w (A2d (A1y bs) w):=by
 have HS:=hzz hs;have HLn:=hzz hs.1;obtain⟨R,hR⟩:=exz (A1y bs);rw[<-hR];have HR:=hzz hR;clear hs hR;by_cases h4:4096<n
 ·have HQ:=hzz (show R=(9,[]) by rw[HR.out];exact B5t (by rw[HLn.out];exact h4));have e1:decide ((4096:Int)<n)=true:=by simp;omega
  go_enter Tryz.func53,Tryz.ntmps53
  go_wp2_with fail
  go_ret2;exact A2d.err HQ.out brz
 have e1:decide ((4096:Int)<n)=false:=by simp;omega
 have H4:=hzz (show ¬4096<bs.length by rw[HLn.out];exact h4);have hz:=D9n;go_enter Tryz.func53,Tryz.ntmps53
 go_wp2_with fail
 refine(B5j _).mono ?_;rintro e w1 ⟨rfl,hb1⟩;have HB1:=hzz hb1;clear hb1
 go_wp2_with (first
  |(refine A9e rfl _ _ _ rfl _ rfl rfl _ _ (by rw[A3p];exact B1j) (by simp[A3p,zs8]) (B8w _) ?_))
 clear hz;have HT1:=hzz (heap_alloc_last w1 (.cells (A9h A0q) 164));have HB2:=hzz (HB1.out.alloc HB1.out.size (.cells (A9h A0q) 164))
 have hg1:w1.heap.size<(w1.alloc (.cells (A9h A0q) 164)).heap.size:=by simp
 generalize w1.alloc _=w2 at*;generalize hgt:w1.heap.size=gt at*;clear hgt HB1
 go_loopg [5,6] n (fun gn v i wr=>∃p fuel m:Nat,∃acc,p<=n/\gn=n-p/\i= .int .i64 p/\n<fuel+p/\m<=p/\Hid (wr.ownsRow w.heap.size 118 4 v m (acc.flatMap RW.cells))/\Hid (∀r∈acc,A4p r.pos/\A4p r.a/\r.op<256)/\
  Hid (wr.heap[gt]? =some (.cells (A9h A0q) 164))/\Hid (Below w.heap.size w wr)/\Hid (B0c bs (bs.length+1) 0 []=B0c bs fuel p acc)/\gt<wr.heap.size)
 case atStart=>exact⟨0,n+1,0,[],by omega,by omega,by go_num,by omega,by omega,hzz (World.ownsRow_nil _ _ _ _),hzz (fun r hr=>by cases hr),HT1,HB2,hzz (by rw[HLn.out]),hg1⟩
 obtain⟨p,fuel,m,acc,hp,rfl,rfl,hf,hm,HO,HW,HT,HB,HD,hgl⟩:=hrel;by_cases hlt:p<n
 ·obtain⟨fuel,rfl⟩:∃f,fuel=f+1:=⟨fuel-1,by omega⟩;obtain⟨b,off,rfl,hbl,hc⟩:=(HS.out.below HB.out).2 (by omega);have hpl:p<bs.length:=by rw[HLn.out];exact hlt
  have q0:=hc p hpl;have hop:bs[p].toNat=A3w bs p:=by unfold A3w;simp[List.getD,hpl]
  unfold A5q at q0;rw[hop]at q0;have hol:=C3w bs p;have hf9:=A3s (A3w bs p)
  have HRD:=hzz (fun(w':World) (hb:Below w.heap.size w w') (g:Nat) (hk:A8d w' g p (A3w bs p) 0 0) (h0:A0q (A3w bs p)≠0)=>D4n w' (some ⟨b,off,none⟩) n cap bs g p (A3w bs p) (A0q (A3w bs p)) (HS.out.below hb) (by omega) hcap (by omega) hk h0 hf9)
  have HSZ:=hzz (fun(w':World)=>A5h w' (A0q (A3w bs p)) hf9);have HNO:=hzz (B4r bs fuel p acc hpl);have HSH:=hzz (B3h bs fuel p acc hpl)
  have HBA:=hzz (B9r bs fuel p acc hpl);have HNX:=hzz (B2g bs fuel p acc hpl);have HRW:Hid (A7s bs p=⟨p,A3w bs p,A1n bs p (A0q (A3w bs p)),A2i bs p (A0q (A3w bs p))⟩):=hzz rfl
  have HWF:=hzz (C6k bs p (by omega));have hsp:=fun h0=>A8e (f:=A0q (A3w bs p)) h0 hf9
  have hs3:=B1q (A0q (A3w bs p));have tc:wr.cell? ⟨gt,A3w bs p,none⟩=some (.int .u8 (A0q (A3w bs p):Nat)):=by rw[cell_of_row wr _ _ _ _ _ HT.out];exact B1f _ _ hol
  have p1:(p:Int)<n:=by omega
  have o1:(A3w bs p:Int)<256:=by omega
  rw[HLn.out]at HSH HBA HNX;clear hc hop hpl;unfold A6q at HRD;generalize A1z bs p (A0q (A3w bs p))=bad at*;generalize A1n bs p (A0q (A3w bs p))=ra at*
  generalize A2i bs p (A0q (A3w bs p))=rb at*;generalize A0q (A3w bs p)=f at*;generalize A1r f=s at*;generalize A3w bs p=o at*;by_cases h0:f=0
  ·subst h0;have HQ:=hzz (show R=(8,[]) by rw[HR.out];exact A3c H4.out (by rw[HD.out];exact HNO.out rfl) (by decide));clear HNO HSH HBA HNX HRD HSZ
   go_wp2_with fail
   go_ret2;exact A2d.err HQ.out (HB.out.alloc HB.out.size _)
  have hs1:=hsp h0;have e0:((f:Int)==0)=false:=by simp;omega
  clear hsp;by_cases h1:n-p<s
  ·have HQ:=hzz (show R=(6,[]) by rw[HR.out];exact A3c H4.out (by rw[HD.out];exact HSH.out h0 h1) (by decide));have e2:decide ((n:Int) -p<s)=true:=by simp;omega
   clear HNO HSH HBA HNX HRD h0
   go_wp2_with fail
   refine(HSZ.out _).mono ?_;rintro e w' ⟨rfl,rfl⟩
   go_wp2_with fail
   go_ret2;exact A2d.err HQ.out (HB.out.alloc HB.out.size _)
  have e2:decide ((n:Int) -p<s)=false:=by simp;omega
  have H0:=hzz h0;have H1:=hzz h1;have hsn:p+s<=n:=by omega
  clear h0 h1
  go_wp2_with fail
  refine(HSZ.out _).mono ?_;rintro e w' ⟨rfl,rfl⟩
  go_wp2_with fail
  have hal:Below w.heap.size w (wr.alloc (.cells #[.int .i64 p,.int .u8 (o:Nat),.int .i64 0,.int .i64 0] 118)):=HB.out.alloc HB.out.size _
  refine(HRD.out _ hal wr.heap.size (heap_alloc_last wr _) H0.out).mono ?_;rintro e w3 ⟨rfl,hk3,hg3⟩
  have HWW:=hzz (((Below.refl wr.heap.size wr).alloc nlz (.cells #[.int .i64 p,.int .u8 (o:Nat),.int .i64 0,.int .i64 0] 118)).grown hg3 (by simp) (fun k hk=>by cases hk;exact Nat.le_refl _))
  have HB3:=btz HB HWW.out;have HK3:=hzz hk3;clear hk3 hg3 hal;obtain⟨⟨c0,c1,c2,c3⟩,_,hgw⟩:=HK3.out.box
  cases bad
  ·simp only[Bool.false_eq_true,if_false];have HO3:=hzz (A1p HO.out HWW.out);have HT3:=hzz (show w3.heap[gt]? =some (.cells (A9h A0q) 164) by rw[HWW.out.block gt hgl];exact HT.out)
   have hg3':gt<w3.heap.size:=(Array.getElem?_eq_some_iff.1 HT3.out).1;have HDN:=hzz (HD.out.trans (HNX.out H0.out H1.out rfl));rw[HRW.out]at HDN HWF
   go_wp2_with (at_builtin;first
    |(refine A0r stR rfl _ _ rfl w.heap.size _ _ _ rfl HO3.out _ 1 _ _ rfl rfl rfl rfl (by omega) (by unfold maxLen;omega) HB3.out.size ?_;intro v4 w4 hown4 hg4 hb4;have HO4:=hzz hown4;have HB4:=hzz (HB3.out.trans hb4);have HT4:=hzz (C0x HO3.out hg4 HT3.out (by decide));have hg4':=D0r hg4 hg3';clear hown4 hg4 hb4))
   refine(HSZ.out _).mono ?_;rintro e w' ⟨rfl,rfl⟩
   go_wp2_with fail
   go_roundg (n-(p+s))
   case measure=>omega
   case rel=>exact⟨p+s,fuel,m+1,acc++[⟨p,o,ra,rb⟩],by omega,rfl,by go_num,by omega,by omega,hzz (by rw[List.flatMap_append];exact HO4.out),hzz (fun r hr=>by
    rcases List.mem_append.1 hr with h|h
    ·exact HW.out r h
    rw[List.mem_singleton.1 h];exact HWF.out),HT4,HB4,HDN,hg4'⟩
  simp only[if_true];have HQ:=hzz (show R=(8,[]) by rw[HR.out];exact A3c H4.out (by rw[HD.out];exact HBA.out H0.out H1.out rfl) (by decide));clear HNO HSH HBA HNX HRD HSZ
  go_wp2_with fail
  go_ret2;exact A2d.err HQ.out HB3.out
 obtain rfl:p=n:=by omega
 have HDE:=hzz (HD.out.trans (B4g bs fuel p acc (by rw[HLn.out];exact Nat.le_refl _)));obtain⟨va,vc,rfl,hss,hcc⟩:=Ss.ofOwn RW.cells_length (by decide) HO.out
 have HG:=hzz (fun w' (hb:Below wr.heap.size wr w')=>C6g w' va m vc acc (Rs.below hss hb) (by omega) HW.out);clear hss
 go_wp2_with (first
  |(refine wpList_load_row rfl _ _ rfl _ rfl _ _ _ _ HT.out Tryz.underlying164 rfl (by rw[A3p];exact B1j) ?_))
 refine(HG.out _ brz).mono ?_;rintro e w3 ⟨rfl,hb3⟩;have HB3:=btz HB hb3;have HO3:=hzz (A1p HO.out hb3);clear hb3
 cases hg:A7b acc
 ·have HQ:=hzz (show R=(2,[]) by rw[HR.out];exact B3v H4.out HDE.out hg);clear hg
  go_wp2_with fail
  go_ret2;exact A2d.err HQ.out HB3.out
 have HQ:=hzz (show R=(0,acc) by rw[HR.out];exact B6d H4.out HDE.out hg);clear hg
 go_wp2_with fail
 go_ret2;exact⟨_,m,by rw[HQ.out];rfl,by rw[HQ.out];exact HO3.out,by rw[HQ.out];exact HW.out,HB3.out⟩
theorem A6e(w:World)(n lo hi:Int):Calls Tryz.prog 176 #[.int .i64 n,.int .i64 lo,.int .i64 hi] w fun e w'=>e= .returned (.bool (decide (lo<=n/\n<=hi)))/\w=w':=by
 by_cases h1:lo<=n
 ·by_cases h2:n<=hi
  ·rw[decide_eq_true (And.intro h1 h2)];have e1:=decide_eq_true h1;have e2:=decide_eq_true h2;go_enter Tryz.func176,Tryz.ntmps176
   go_wp2_with fail
   go_ret;exact⟨rfl,rfl⟩
  rw[decide_eq_false (fun x:lo<=n/\n<=hi=>h2 x.2)];have e1:=decide_eq_true h1;have e2:=decide_eq_false h2;go_enter Tryz.func176,Tryz.ntmps176
  go_wp2_with fail
  go_ret;exact⟨rfl,rfl⟩
 rw[decide_eq_false (fun x:lo<=n/\n<=hi=>h1 x.1)];have e1:=decide_eq_false h1;go_enter Tryz.func176,Tryz.ntmps176
 go_wp2_with fail
 go_ret;exact⟨rfl,rfl⟩
def A7i(r:Bool)(w:World)(e:Ending)(w':World):Prop:=e= .returned (.bool r)/\Below w.heap.size w w'
theorem E2a(w:World)(p:Int)(k:Nat)(x y:Int):Calls Tryz.prog 156 #[.agg #[.int .i64 p,.int .u8 (k:Nat),.int .i64 x,.int .i64 y],.int .i64 0] w (A7i (A2n ⟨p,k,x,y⟩ 0) w):=by
 by_cases hy:y=0
 ·rw[show A2n ⟨p,k,x,y⟩ 0=false from by unfold A2n;simp[hy]];subst hy;go_enter Tryz.func156,Tryz.ntmps156
  go_wp2_with fail
  go_ret;exact⟨rfl,brz.alloc nlz _⟩
 rw[show A2n ⟨p,k,x,y⟩ 0=false from by unfold A2n;simp[hy]];have ey:(y !=0)=true:=by simp[hy]
 clear hy;go_enter Tryz.func156,Tryz.ntmps156
 go_wp2_with fail
 go_ret;exact⟨rfl,brz.alloc nlz _⟩
theorem E1s(w:World)(p:Int)(k:Nat)(x y:Int):Calls Tryz.prog 156 #[.agg #[.int .i64 p,.int .u8 (k:Nat),.int .i64 x,.int .i64 y],.int .i64 1] w (A7i (A2n ⟨p,k,x,y⟩ 1) w):=by
 by_cases hy:y=0
 ·rw[show A2n ⟨p,k,x,y⟩ 1=decide (x=0)from by unfold A2n;simp[hy]];subst hy;by_cases ha:x=0
  ·subst ha;go_enter Tryz.func156,Tryz.ntmps156
   go_wp2_with fail
   go_ret;exact⟨rfl,brz.alloc nlz _⟩
  have ea:(x==0)=false:=by simp[ha]
  rw[decide_eq_false ha];clear ha;go_enter Tryz.func156,Tryz.ntmps156
  go_wp2_with fail
  go_ret;exact⟨rfl,brz.alloc nlz _⟩
 rw[show A2n ⟨p,k,x,y⟩ 1=false from by unfold A2n;simp[hy]];have ey:(y !=0)=true:=by simp[hy]
 clear hy;go_enter Tryz.func156,Tryz.ntmps156
 go_wp2_with fail
 go_ret;exact⟨rfl,brz.alloc nlz _⟩
theorem E3k(w:World)(p:Int)(k:Nat)(x y:Int):Calls Tryz.prog 156 #[.agg #[.int .i64 p,.int .u8 (k:Nat),.int .i64 x,.int .i64 y],.int .i64 2] w (A7i (A2n ⟨p,k,x,y⟩ 2) w):=by
 by_cases hy:y=0
 ·rw[show A2n ⟨p,k,x,y⟩ 2=decide ((0:Int)<=x/\x<=255)from by unfold A2n;simp[hy]];subst hy;have HWI:=hzz (fun w'=>A6e w' x (0) (255))
  generalize decide ((0:Int)<=x/\x<=255)=d at*;go_enter Tryz.func156,Tryz.ntmps156
  go_wp2_with fail
  refine(HWI.out _).mono ?_;rintro e w' ⟨rfl,rfl⟩
  go_wp2_with fail
  go_ret;exact⟨rfl,brz.alloc nlz _⟩
 rw[show A2n ⟨p,k,x,y⟩ 2=false from by unfold A2n;simp[hy]];have ey:(y !=0)=true:=by simp[hy]
 clear hy;go_enter Tryz.func156,Tryz.ntmps156
 go_wp2_with fail
 go_ret;exact⟨rfl,brz.alloc nlz _⟩
theorem E1t(w:World)(p:Int)(k:Nat)(x y:Int):Calls Tryz.prog 156 #[.agg #[.int .i64 p,.int .u8 (k:Nat),.int .i64 x,.int .i64 y],.int .i64 3] w (A7i (A2n ⟨p,k,x,y⟩ 3) w):=by
 by_cases hy:y=0
 ·rw[show A2n ⟨p,k,x,y⟩ 3=decide ((-128:Int)<=x/\x<=127)from by unfold A2n;simp[hy]];subst hy;have HWI:=hzz (fun w'=>A6e w' x (-128) (127))
  generalize decide ((-128:Int)<=x/\x<=127)=d at*;go_enter Tryz.func156,Tryz.ntmps156
  go_wp2_with fail
  refine(HWI.out _).mono ?_;rintro e w' ⟨rfl,rfl⟩
  go_wp2_with fail
  go_ret;exact⟨rfl,brz.alloc nlz _⟩
 rw[show A2n ⟨p,k,x,y⟩ 3=false from by unfold A2n;simp[hy]];have ey:(y !=0)=true:=by simp[hy]
 clear hy;go_enter Tryz.func156,Tryz.ntmps156
 go_wp2_with fail
 go_ret;exact⟨rfl,brz.alloc nlz _⟩
theorem E1k(w:World)(p:Int)(k:Nat)(x y:Int):Calls Tryz.prog 156 #[.agg #[.int .i64 p,.int .u8 (k:Nat),.int .i64 x,.int .i64 y],.int .i64 4] w (A7i (A2n ⟨p,k,x,y⟩ 4) w):=by
 by_cases hy:y=0
 ·rw[show A2n ⟨p,k,x,y⟩ 4=decide ((-32768:Int)<=x/\x<=32767)from by unfold A2n;simp[hy]];subst hy;have HWI:=hzz (fun w'=>A6e w' x (-32768) (32767))
  generalize decide ((-32768:Int)<=x/\x<=32767)=d at*;go_enter Tryz.func156,Tryz.ntmps156
  go_wp2_with fail
  refine(HWI.out _).mono ?_;rintro e w' ⟨rfl,rfl⟩
  go_wp2_with fail
  go_ret;exact⟨rfl,brz.alloc nlz _⟩
 rw[show A2n ⟨p,k,x,y⟩ 4=false from by unfold A2n;simp[hy]];have ey:(y !=0)=true:=by simp[hy]
 clear hy;go_enter Tryz.func156,Tryz.ntmps156
 go_wp2_with fail
 go_ret;exact⟨rfl,brz.alloc nlz _⟩
theorem E2k(w:World)(p:Int)(k:Nat)(x y:Int):Calls Tryz.prog 156 #[.agg #[.int .i64 p,.int .u8 (k:Nat),.int .i64 x,.int .i64 y],.int .i64 5] w (A7i (A2n ⟨p,k,x,y⟩ 5) w):=by
 by_cases hy:y=0
 ·rw[show A2n ⟨p,k,x,y⟩ 5=decide ((0:Int)<=x/\x<=255)from by unfold A2n;simp[hy]];subst hy;have HWI:=hzz (fun w'=>A6e w' x (0) (255))
  generalize decide ((0:Int)<=x/\x<=255)=d at*;go_enter Tryz.func156,Tryz.ntmps156
  go_wp2_with fail
  refine(HWI.out _).mono ?_;rintro e w' ⟨rfl,rfl⟩
  go_wp2_with fail
  go_ret;exact⟨rfl,brz.alloc nlz _⟩
 rw[show A2n ⟨p,k,x,y⟩ 5=false from by unfold A2n;simp[hy]];have ey:(y !=0)=true:=by simp[hy]
 clear hy;go_enter Tryz.func156,Tryz.ntmps156
 go_wp2_with fail
 go_ret;exact⟨rfl,brz.alloc nlz _⟩
theorem E2p(w:World)(p:Int)(k:Nat)(x y:Int):Calls Tryz.prog 156 #[.agg #[.int .i64 p,.int .u8 (k:Nat),.int .i64 x,.int .i64 y],.int .i64 6] w (A7i (A2n ⟨p,k,x,y⟩ 6) w):=by
 by_cases hy:y=0
 ·rw[show A2n ⟨p,k,x,y⟩ 6=decide ((0:Int)<=x/\x<=65535)from by unfold A2n;simp[hy]];subst hy;have HWI:=hzz (fun w'=>A6e w' x (0) (65535))
  generalize decide ((0:Int)<=x/\x<=65535)=d at*;go_enter Tryz.func156,Tryz.ntmps156
  go_wp2_with fail
  refine(HWI.out _).mono ?_;rintro e w' ⟨rfl,rfl⟩
  go_wp2_with fail
  go_ret;exact⟨rfl,brz.alloc nlz _⟩
 rw[show A2n ⟨p,k,x,y⟩ 6=false from by unfold A2n;simp[hy]];have ey:(y !=0)=true:=by simp[hy]
 clear hy;go_enter Tryz.func156,Tryz.ntmps156
 go_wp2_with fail
 go_ret;exact⟨rfl,brz.alloc nlz _⟩
theorem E1f(w:World)(p:Int)(k:Nat)(x y:Int):Calls Tryz.prog 156 #[.agg #[.int .i64 p,.int .u8 (k:Nat),.int .i64 x,.int .i64 y],.int .i64 7] w (A7i (A2n ⟨p,k,x,y⟩ 7) w):=by
 by_cases hy:y=0
 ·rw[show A2n ⟨p,k,x,y⟩ 7=true from by unfold A2n;simp[hy]];subst hy;go_enter Tryz.func156,Tryz.ntmps156
  go_wp2_with fail
  go_ret;exact⟨rfl,brz.alloc nlz _⟩
 rw[show A2n ⟨p,k,x,y⟩ 7=false from by unfold A2n;simp[hy]];have ey:(y !=0)=true:=by simp[hy]
 clear hy;go_enter Tryz.func156,Tryz.ntmps156
 go_wp2_with fail
 go_ret;exact⟨rfl,brz.alloc nlz _⟩
theorem E2t(w:World)(p:Int)(k:Nat)(x y:Int):Calls Tryz.prog 156 #[.agg #[.int .i64 p,.int .u8 (k:Nat),.int .i64 x,.int .i64 y],.int .i64 8] w (A7i (A2n ⟨p,k,x,y⟩ 8) w):=by
 rw[show A2n ⟨p,k,x,y⟩ 8=(decide ((0:Int)<=x/\x<=255)&&decide ((-128:Int)<=y/\y<=127))from by unfold A2n;simp];have HWI:=hzz (fun w'=>A6e w' x 0 255)
 have HWJ:=hzz (fun w'=>A6e w' y (-128) 127);generalize decide ((0:Int)<=x/\x<=255)=d at*;generalize decide ((-128:Int)<=y/\y<=127)=d2 at*
 cases d
 ·go_enter Tryz.func156,Tryz.ntmps156
  go_wp2_with fail
  refine(HWI.out _).mono ?_;rintro e w' ⟨rfl,rfl⟩
  go_wp2_with fail
  go_ret;exact⟨rfl,brz.alloc nlz _⟩
 go_enter Tryz.func156,Tryz.ntmps156
 go_wp2_with fail
 refine(HWI.out _).mono ?_;rintro e w' ⟨rfl,rfl⟩
 go_wp2_with fail
 refine(HWJ.out _).mono ?_;rintro e w' ⟨rfl,rfl⟩
 go_wp2_with fail
 go_ret;exact⟨rfl,brz.alloc nlz _⟩
theorem E2c(w:World)(p:Int)(k:Nat)(x y:Int):Calls Tryz.prog 156 #[.agg #[.int .i64 p,.int .u8 (k:Nat),.int .i64 x,.int .i64 y],.int .i64 9] w (A7i (A2n ⟨p,k,x,y⟩ 9) w):=by
 by_cases hy:y=0
 ·rw[show A2n ⟨p,k,x,y⟩ 9=decide (x=8\/x=10)from by unfold A2n;simp[hy]];subst hy;by_cases h8:x=8
  ·subst h8;rw[decide_eq_true (.inl rfl)];go_enter Tryz.func156,Tryz.ntmps156
   go_wp2_with fail
   go_ret;exact⟨rfl,brz.alloc nlz _⟩
  by_cases h10:x=10
  ·subst h10;rw[decide_eq_true (.inr rfl)];go_enter Tryz.func156,Tryz.ntmps156
   go_wp2_with fail
   go_ret;exact⟨rfl,brz.alloc nlz _⟩
  have e8:(x==8)=false:=by simp[h8]
  have e10:(x==10)=false:=by simp[h10]
  rw[decide_eq_false (fun z:x=8\/x=10=>z.elim h8 h10)];clear h8 h10;go_enter Tryz.func156,Tryz.ntmps156
  go_wp2_with fail
  go_ret;exact⟨rfl,brz.alloc nlz _⟩
 rw[show A2n ⟨p,k,x,y⟩ 9=false from by unfold A2n;simp[hy]];have ey:(y !=0)=true:=by simp[hy]
 clear hy;go_enter Tryz.func156,Tryz.ntmps156
 go_wp2_with fail
 go_ret;exact⟨rfl,brz.alloc nlz _⟩
theorem D5v(w:World)(r:RW)(f:Nat)(hf:f<=9):Calls Tryz.prog 156 #[.agg #[.int .i64 r.pos,.int .u8 (r.op:Nat),.int .i64 r.a,.int .i64 r.b],.int .i64 (f:Nat)] w (A7i (A2n r f) w):=by
 obtain⟨p,k,x,y⟩:=r;have h:f=0\/f=1\/f=2\/f=3\/f=4\/f=5\/f=6\/f=7\/f=8\/f=9:=by omega
 rcases h with rfl|rfl|rfl|rfl|rfl|rfl|rfl|rfl|rfl|rfl
 ·exact E2a w p k x y
 ·exact E1s w p k x y
 ·exact E3k w p k x y
 ·exact E1t w p k x y
 ·exact E1k w p k x y
 ·exact E2k w p k x y
 ·exact E2p w p k x y
 ·exact E1f w p k x y
 ·exact E2t w p k x y
 exact E2c w p k x y
end
end Go.Proofs.YtclpkipaehpkdaaGreatDoor
