/- asm -/
import Derived.Test.YtclpkipaehpkdaaGreatDoorQ00AsmLowers
import Derived.Laws.StructEq
set_option linter.unusedVariables false
set_option linter.unusedSimpArgs false
set_option maxRecDepth 100000
set_option maxHeartbeats 64000000
namespace Go.Proofs.YtclpkipaehpkdaaGreatDoor
section
open Go.ChangeShapes Go.WideShapes Go.ChangeAt Go.RowKit
structure KV where
 tag:Int
 a:Int
 b:Int
 n:Int
 s:List UInt8
def KV.cells(c:KV):List Value:=[.int .i64 c.tag,.int .i64 c.a,.int .i64 c.b,.int .i64 c.n,.string ⟨c.s.toArray⟩]
theorem KV.cells_length(c:KV):c.cells.length=5:=rfl
def kz:KV:=⟨0,0,0,0,[]⟩
def kAt(l:List KV)(i:Int):KV:=l.getD i.toNat kz
def isT(l:List KV)(i t:Int):Bool:=decide (1<=i/\i<l.length/\(kAt l i).tag=t)
def A1k(l:List KV)(i:Int):List UInt8:=if isT l i 1 then(kAt l i).s else []
def A0s(l:List KV)(i:Int):List UInt8×Bool:=if isT l i 7 then(A1k l (kAt l i).a,isT l (kAt l i).a 1)else([],false)
def A1j(l:List KV)(i t:Int):List UInt8×List UInt8×List UInt8×Bool:=
 if(t=9\/t=10)/\isT l i t=true/\isT l (kAt l i).b 12=true/\(A0s l (kAt l i).a).2=true/\isT l (kAt l (kAt l i).b).a 1=true/\isT l (kAt l (kAt l i).b).b 1=true then
  ((A0s l (kAt l i).a).1,A1k l (kAt l (kAt l i).b).a,A1k l (kAt l (kAt l i).b).b,true)
 else([],[],[],false)
def A0x(c:KV):Bool:=
 (decide (c.tag=1)||c.s.isEmpty)&&(decide (c.tag=5)||decide (c.n=0)||decide (c.tag=3/\-2147483648<=c.n/\c.n<=2147483647))&&
 (decide (c.tag=9\/c.tag=10\/c.tag=12)||decide (c.b=0))&&(decide (c.tag=9\/c.tag=10\/c.tag=12\/c.tag=7\/c.tag=8)||decide (c.a=0))
def A1g(l:List KV)(i:Nat):Bool:=
 let c:=kAt l i
 if c.tag=0 then i==0||decide ((kAt l ((i:Int) -1)).tag=5)
 else if c.tag=1 then(A3m c.s).isSome&&decide (c.s.length<=65535)
 else if c.tag=3 then true
 else if c.tag=5 then decide (i+1<l.length)&&decide ((kAt l ((i:Int)+1)).tag=0)
 else if c.tag=12 then isT l c.a 1&&isT l c.b 1
 else if c.tag=7\/c.tag=8 then isT l c.a 1
 else if c.tag=9\/c.tag=10 then isT l c.a 7&&isT l c.b 12
 else false
def A1f(l:List KV)(i:Nat):Bool:=A0x (kAt l i)&&A1g l i
def A5e(l:List KV):Bool:=decide (1<=l.length)&&decide (l.length<=1024)&&decide ((kAt l 0).tag=0)&&(List.range l.length).all (A1f l)
def Ks(w:World)(a:Option Addr)(n:Nat)(L:List KV):Prop:=Ss 5 KV.cells w a n L
structure KAt(w:World)(b o:Nat)(c:KV):Prop where
 c0:w.cell? ⟨b,o,none⟩=some (.int .i64 c.tag)
 c1:w.cell? ⟨b,o+1,none⟩=some (.int .i64 c.a)
 c2:w.cell? ⟨b,o+2,none⟩=some (.int .i64 c.b)
 c3:w.cell? ⟨b,o+3,none⟩=some (.int .i64 c.n)
 c4:w.cell? ⟨b,o+4,none⟩=some (.string ⟨c.s.toArray⟩)
theorem Ks.below{w w':World}{a:Option Addr}{n:Nat}{L:List KV}(h:Ks w a n L)(hb:Below w.heap.size w w'):Ks w' a n L:=Ss.below h hb
theorem Ks.at{w:World}{a:Option Addr}{n:Nat}{L:List KV}(h:Ks w a n L)(i:Nat)(hi:i<n):∃b off,a=some ⟨b,off,none⟩/\b<w.heap.size/\KAt w b (off+i*5) (kAt L i):=by
 obtain⟨b,off,ha,hlt,hc⟩:=h.2 (by omega);have hl:i<L.length:=by rw[h.1];exact hi
 have hk:kAt L i=L[i]:=by unfold kAt;simp[List.getD,hl]
 refine⟨b,off,ha,hlt,?_⟩;rw[hk];exact⟨hc i hl 0 (by omega),hc i hl 1 (by omega),hc i hl 2 (by omega),hc i hl 3 (by omega),hc i hl 4 (by omega)⟩
theorem D2k{L:List KV}{i t:Int}(h:i<1):isT L i t=false:=by unfold isT;rw[decide_eq_false];omega
theorem C5m{L:List KV}{i t:Int}(h:(L.length:Int)<=i):isT L i t=false:=by unfold isT;rw[decide_eq_false];omega
theorem D8c{L:List KV}{i t:Int}(h0:1<=i)(h1:i<L.length):isT L i t=decide ((kAt L i).tag=t):=by
 unfold isT;by_cases h:(kAt L i).tag=t
 ·rw[decide_eq_true h,decide_eq_true ⟨h0,h1,h⟩]
 rw[decide_eq_false h,decide_eq_false fun x=>h x.2.2]
theorem A5a{L:List KV}{i t:Int}(h:isT L i t=true):1<=i/\i<L.length/\(kAt L i).tag=t:=of_decide_eq_true h
theorem A9g(w:World)(a:Option Addr)(n cap:Nat)(L:List KV)(i t:Int)(hs:Ks w a n L)(hn:n<=65536):
  Calls Tryz.prog 93 #[.slice a n cap,.int .i64 i,.int .i64 t] w fun e w'=>e= .returned (.bool (isT L i t))/\w=w':=by
 by_cases h1:i<1
 ·rw[D2k h1];have h0:decide (0<i)=false:=by simp;omega
  clear hs;go_enter Tryz.func93,Tryz.ntmps93
  go_wp2_with fail
  go_ret;exact⟨rfl,rfl⟩
 by_cases h2:(n:Int)<=i
 ·rw[C5m (by rw[hs.1];exact h2)];have h0:decide (0<i)=true:=by simp;omega
  have h3:decide (i<(n:Int))=false:=by simp;omega
  clear hs;go_enter Tryz.func93,Tryz.ntmps93
  go_wp2_with fail
  go_ret;exact⟨rfl,rfl⟩
 obtain⟨k,rfl⟩:∃k:Nat,i=k:=⟨i.toNat,by omega⟩;rw[D8c (by omega) (by rw[hs.1];omega)];obtain⟨b,off,rfl,_,hk⟩:=hs.at k (by omega);have g0:=hk.c0;have k0:0<k:=by omega
 have k1:k<n:=by omega
 obtain⟨t0,ht0⟩:∃t0,t0=(kAt L k).tag:=⟨_,rfl⟩;rw[<-ht0]at g0⊢;clear hk hs h1 h2 ht0;by_cases ht:t0=t
 ·subst ht;have e1:(t0==t0)=true:=by simp
  go_enter Tryz.func93,Tryz.ntmps93
  go_wp2_with fail
  go_ret;exact⟨by simp,rfl⟩
 have e1:(t0==t)=false:=by simp[ht]
 rw[decide_eq_false ht];clear ht;go_enter Tryz.func93,Tryz.ntmps93
 go_wp2_with fail
 go_ret;exact⟨rfl,rfl⟩
theorem A4i(w:World)(a:Option Addr)(n cap:Nat)(L:List KV)(i t:Int)(hs:Ks w a n L)(hn:n<=65536):
  Calls Tryz.prog 62 #[.slice a n cap,.int .i64 i,.int .i64 t] w fun e w'=>e= .returned (.bool (isT L i t))/\w=w':=by
 by_cases h1:i<1
 ·rw[D2k h1];have h0:decide (1<=i)=false:=by simp;omega
  clear hs;go_enter Tryz.func62,Tryz.ntmps62
  go_wp2_with fail
  go_ret;exact⟨rfl,rfl⟩
 by_cases h2:(n:Int)<=i
 ·rw[C5m (by rw[hs.1];exact h2)];have h0:decide (1<=i)=true:=by simp;omega
  have h3:decide (i<(n:Int))=false:=by simp;omega
  clear hs;go_enter Tryz.func62,Tryz.ntmps62
  go_wp2_with fail
  go_ret;exact⟨rfl,rfl⟩
 obtain⟨k,rfl⟩:∃k:Nat,i=k:=⟨i.toNat,by omega⟩;rw[D8c (by omega) (by rw[hs.1];omega)];obtain⟨b,off,rfl,_,hk⟩:=hs.at k (by omega);have g0:=hk.c0;have k0:(1:Int)<=k:=by omega
 have k1:k<n:=by omega
 obtain⟨t0,ht0⟩:∃t0,t0=(kAt L k).tag:=⟨_,rfl⟩;rw[<-ht0]at g0⊢;clear hk hs h1 h2 ht0;by_cases ht:t0=t
 ·subst ht;have e1:(t0==t0)=true:=by simp
  go_enter Tryz.func62,Tryz.ntmps62
  go_wp2_with fail
  go_ret;exact⟨by simp,rfl⟩
 have e1:(t0==t)=false:=by simp[ht]
 rw[decide_eq_false ht];clear ht;go_enter Tryz.func62,Tryz.ntmps62
 go_wp2_with fail
 go_ret;exact⟨rfl,rfl⟩
def A5j(L:List KV)(i:Int)(w:World)(e:Ending)(w':World):Prop:=e= .returned (.tuple #[.string ⟨(A1k L i).toArray⟩,.bool (isT L i 1)])/\w=w'
def A4f(L:List KV)(i:Int)(w:World)(e:Ending)(w':World):Prop:=e= .returned (.tuple #[.string ⟨(A0s L i).1.toArray⟩,.bool (A0s L i).2])/\w=w'
def A1s(L:List KV)(i t:Int)(w:World)(e:Ending)(w':World):Prop:=
 e= .returned (.tuple #[.string ⟨(A1j L i t).1.toArray⟩,.string ⟨(A1j L i t).2.1.toArray⟩,.string ⟨(A1j L i t).2.2.1.toArray⟩,.bool (A1j L i t).2.2.2])/\Below w.heap.size w w'
theorem A1s.no{L:List KV}{i t:Int}{w w':World}(h:¬((t=9\/t=10)/\isT L i t=true/\isT L (kAt L i).b 12=true/\(A0s L (kAt L i).a).2=true/\isT L (kAt L (kAt L i).b).a 1=true/\isT L (kAt L (kAt L i).b).b 1=true))(hb:Below w.heap.size w w'):
  A1s L i t w (.returned (.tuple #[.string ⟨#[]⟩,.string ⟨#[]⟩,.string ⟨#[]⟩,.bool false])) w':=by
 unfold A1s A1j;rw[if_neg h];exact⟨rfl,hb⟩
theorem A1s.yes{L:List KV}{i t:Int}{w w':World}(h:((t=9\/t=10)/\isT L i t=true/\isT L (kAt L i).b 12=true/\(A0s L (kAt L i).a).2=true/\isT L (kAt L (kAt L i).b).a 1=true/\isT L (kAt L (kAt L i).b).b 1=true))(hb:Below w.heap.size w w'):
  A1s L i t w (.returned (.tuple #[.string ⟨(A0s L (kAt L i).a).1.toArray⟩,.string ⟨(A1k L (kAt L (kAt L i).b).a).toArray⟩,.string ⟨(A1k L (kAt L (kAt L i).b).b).toArray⟩,.bool true])) w':=by
 unfold A1s A1j;rw[if_pos h];exact⟨rfl,hb⟩
theorem B1y(w:World)(a:Option Addr)(n cap:Nat)(L:List KV)(i:Int)(hs:Ks w a n L)(hn:n<=65536):Calls Tryz.prog 50 #[.slice a n cap,.int .i64 i] w (A5j L i w):=by
 have C1:=A9g w a n cap L i 1 hs hn;unfold A5j A1k
 cases h:isT L i 1
 ·rw[h]at C1;have K1:=hzz C1;clear C1 hs h;go_enter Tryz.func50,Tryz.ntmps50
  go_wp2_with fail
  refine K1.out.mono ?_;rintro e w' ⟨rfl,rfl⟩
  go_wp2_with fail
  go_ret2;exact⟨rfl,rfl⟩
 rw[h]at C1;have K1:=hzz C1;obtain⟨h1,h2,_⟩:=A5a h;rw[hs.1]at h2;obtain⟨k,rfl⟩:∃k:Nat,i=k:=⟨i.toNat,by omega⟩;obtain⟨b,off,rfl,_,hk⟩:=hs.at k (by omega);have g4:=hk.c4
 have k0:0<k:=by omega
 have k1:k<n:=by omega
 rw[if_pos rfl];clear C1 hs h h1 h2 hk;go_enter Tryz.func50,Tryz.ntmps50
 go_wp2_with fail
 refine K1.out.mono ?_;rintro e w' ⟨rfl,rfl⟩
 go_wp2_with fail
 go_ret2;exact⟨rfl,rfl⟩
theorem B6n(w:World)(a:Option Addr)(n cap:Nat)(L:List KV)(i:Int)(hs:Ks w a n L)(hn:n<=65536):Calls Tryz.prog 48 #[.slice a n cap,.int .i64 i] w (A4f L i w):=by
 have C1:=A9g w a n cap L i 7 hs hn;unfold A4f A0s
 cases h:isT L i 7
 ·rw[h]at C1;have K1:=hzz C1;clear C1 hs h;go_enter Tryz.func48,Tryz.ntmps48
  go_wp2_with fail
  refine K1.out.mono ?_;rintro e w' ⟨rfl,rfl⟩
  go_wp2_with fail
  go_ret2;exact⟨rfl,rfl⟩
 rw[h]at C1;have K1:=hzz C1;obtain⟨h1,h2,_⟩:=A5a h;rw[hs.1]at h2;obtain⟨k,rfl⟩:∃k:Nat,i=k:=⟨i.toNat,by omega⟩;have C2:=B1y w a n cap L (kAt L k).a hs hn;unfold A5j at C2
 have K2:=hzz C2;obtain⟨b,off,rfl,_,hk⟩:=hs.at k (by omega);have g1:=hk.c1;have k0:0<k:=by omega
 have k1:k<n:=by omega
 rw[if_pos rfl];clear C1 C2 hs h h1 h2 hk;go_enter Tryz.func48,Tryz.ntmps48
 go_wp2_with fail
 refine K1.out.mono ?_;rintro e w' ⟨rfl,rfl⟩
 go_wp2_with fail
 refine K2.out.mono ?_;rintro e w' ⟨rfl,rfl⟩
 go_wp2_with fail
 go_ret2;exact⟨rfl,rfl⟩
theorem C8z(w:World)(a:Option Addr)(n cap:Nat)(L:List KV)(i t:Int)(hs:Ks w a n L)(hn:n<=65536):Calls Tryz.prog 150 #[.slice a n cap,.int .i64 i,.int .i64 t] w (A1s L i t w):=by
 by_cases h9:t=9\/t=10
 ·have e9:((t !=9)&&(t !=10))=false:=by rcases h9 with rfl|rfl<;>rfl
  have C1:=A9g w a n cap L i t hs hn;have H9:=hzz h9
  have tw:(t=9/\True)\/(t=10/\True):=by rcases h9 with rfl|rfl;exact .inl ⟨rfl,trivial⟩;exact .inr ⟨rfl,trivial⟩
  clear e9 h9
  cases h:isT L i t
  ·rw[h]at C1;have K1:=hzz C1;have HH:=hzz h;clear C1 hs h
   rcases tw with⟨rfl,_⟩|⟨rfl,_⟩
   all_goals
    go_enter Tryz.func150,Tryz.ntmps150
    go_wp2_with fail
    refine K1.out.mono ?_;rintro e w' ⟨rfl,rfl⟩
    go_wp2_with fail
    refine bodyPost_ret (v:= .tuple #[.string ⟨#[]⟩,.string ⟨#[]⟩,.string ⟨#[]⟩,.bool false]) (by simp[results,Tryz.results150,go_sem]) rfl (A1s.no (fun x=> ?_) brz);rw[HH.out]at x
    exact absurd x.2.1 (by decide)
  rw[h]at C1;have K1:=hzz C1;obtain⟨h1,h2,_⟩:=A5a h;rw[hs.1]at h2;obtain⟨k,rfl⟩:∃k:Nat,i=k:=⟨i.toNat,by omega⟩;have HH:=hzz h;have C2:=A9g w a n cap L (kAt L k).b 12 hs hn
  obtain⟨b,off,rfl,hbl,hk⟩:=hs.at k (by omega);have g1:=hk.c1;have g2:=hk.c2;have k0:0<k:=by omega
  have k1:k<n:=by omega
  have HS:=hzz hs;clear C1 h1 h2 hk h hs
  cases h:isT L (kAt L k).b 12
  ·rw[h]at C2;have K2:=hzz C2;have HI:=hzz h;clear C2 h
   rcases tw with⟨rfl,_⟩|⟨rfl,_⟩
   all_goals
    go_enter Tryz.func150,Tryz.ntmps150
    go_wp2_with fail
    refine K1.out.mono ?_;rintro e w' ⟨rfl,rfl⟩
    go_wp2_with fail
    refine K2.out.mono ?_;rintro e w' ⟨rfl,rfl⟩
    go_wp2_with fail
    refine bodyPost_ret (v:= .tuple #[.string ⟨#[]⟩,.string ⟨#[]⟩,.string ⟨#[]⟩,.bool false]) (by simp[results,Tryz.results150,go_sem]) rfl (A1s.no (fun x=> ?_) brz);rw[HI.out]at x
    exact absurd x.2.2.1 (by decide)
  rw[h]at C2;have K2:=hzz C2;have HI:=hzz h;obtain⟨h1,h2,_⟩:=A5a h;rw[HS.out.1]at h2;obtain⟨m,hm⟩:∃m:Nat,(kAt L k).b=m:=⟨(kAt L k).b.toNat,by omega⟩;rw[hm]at h1 h2 g2 K2
  obtain⟨b',off',he,_,hk⟩:=HS.out.at m (by omega)
  cases he
  have m0:0<m:=by omega
  have m1:m<n:=by omega
  obtain⟨q0,q1,q2,q3,q4⟩:=hk;have HM:=hzz hm;clear C2 h h1 h2 hm
  have CC:∀w',Below w.heap.size w w'->Calls Tryz.prog 48 #[.slice (some ⟨b,off,none⟩) n cap,.int .i64 (kAt L k).a] w' (A4f L (kAt L k).a w'):=fun w' hb=>B6n w' _ n cap L _ (HS.out.below hb) hn
  have TA:∀w',Below w.heap.size w w'->Calls Tryz.prog 50 #[.slice (some ⟨b,off,none⟩) n cap,.int .i64 (kAt L m).a] w' (A5j L (kAt L m).a w'):=fun w' hb=>B1y w' _ n cap L _ (HS.out.below hb) hn
  have TB:∀w',Below w.heap.size w w'->Calls Tryz.prog 50 #[.slice (some ⟨b,off,none⟩) n cap,.int .i64 (kAt L m).b] w' (A5j L (kAt L m).b w'):=fun w' hb=>B1y w' _ n cap L _ (HS.out.below hb) hn
  unfold A4f at CC;unfold A5j at TA TB;have HCC:=hzz CC;have HTA:=hzz TA;have HTB:=hzz TB;have fin:∀(W:World),Below w.heap.size w W->Below w.heap.size w W:=fun _ h=>h
  clear CC TA TB fin
  have HR:=hzz (show ∀W,Below w.heap.size w W->(A0s L (kAt L k).a).2=true->isT L (kAt L m).a 1=true->isT L (kAt L m).b 1=true->A1s L k t w (.returned (.tuple #[.string ⟨(A0s L (kAt L k).a).1.toArray⟩,.string ⟨(A1k L (kAt L m).a).toArray⟩,.string ⟨(A1k L (kAt L m).b).toArray⟩,.bool true])) W from
   fun W hW c1 c2 c3=>by
    have:=A1s.yes (L:=L) (i:=k) (t:=t) (w:=w) (w':=W) ⟨H9.out,HH.out,HI.out,c1,by rw[HM.out];exact c2,by rw[HM.out];exact c3⟩ hW;rw[HM.out]at this;exact this)
  have HN:=hzz (show ∀W,Below w.heap.size w W->((A0s L (kAt L k).a).2=false\/isT L (kAt L m).a 1=false\/isT L (kAt L m).b 1=false)->A1s L k t w (.returned (.tuple #[.string ⟨#[]⟩,.string ⟨#[]⟩,.string ⟨#[]⟩,.bool false])) W from
   fun W hW hx=>by
    refine A1s.no (fun x=> ?_) hW;rw[HM.out]at x
    rcases hx with hx|hx|hx<;>simp[hx]at x)
  generalize(A0s L (kAt L k).a).1=s1 at*;generalize(A0s L (kAt L k).a).2=o1 at*;generalize isT L (kAt L m).a 1=o2 at*;generalize isT L (kAt L m).b 1=o3 at*
  generalize A1k L (kAt L m).a=s2 at*;generalize A1k L (kAt L m).b=s3 at*;have KF:=hzz (Below.refl w.heap.size w)
  rcases tw with⟨rfl,_⟩|⟨rfl,_⟩
  all_goals
   go_enter Tryz.func150,Tryz.ntmps150
   go_wp2_with fail
   refine K1.out.mono ?_;rintro e w' ⟨rfl,rfl⟩
   go_wp2_with fail
   refine K2.out.mono ?_;rintro e w' ⟨rfl,rfl⟩
   go_wp2_with fail
   refine(HCC.out _ (brz.alloc nlz _)).mono ?_;rintro e w' ⟨rfl,rfl⟩
   go_wp2_with fail
   refine(HTA.out _ (brz.alloc nlz _)).mono ?_;rintro e w' ⟨rfl,rfl⟩
   go_wp2_with fail
   refine(HTB.out _ (brz.alloc nlz _)).mono ?_;rintro e w' ⟨rfl,rfl⟩
   cases o1
   ·go_wp2_with fail
    exact bodyPost_ret (v:= .tuple #[.string ⟨#[]⟩,.string ⟨#[]⟩,.string ⟨#[]⟩,.bool false]) (by simp[results,Tryz.results150,go_sem]) rfl (HN.out _ (brz.alloc nlz _) (by simp))
   ·cases o2
    ·go_wp2_with fail
     exact bodyPost_ret (v:= .tuple #[.string ⟨#[]⟩,.string ⟨#[]⟩,.string ⟨#[]⟩,.bool false]) (by simp[results,Tryz.results150,go_sem]) rfl (HN.out _ (brz.alloc nlz _) (by simp))
    cases o3
    ·go_wp2_with fail
     exact bodyPost_ret (v:= .tuple #[.string ⟨#[]⟩,.string ⟨#[]⟩,.string ⟨#[]⟩,.bool false]) (by simp[results,Tryz.results150,go_sem]) rfl (HN.out _ (brz.alloc nlz _) (by simp))
    go_wp2_with fail
    exact bodyPost_ret (v:= .tuple #[.string ⟨s1.toArray⟩,.string ⟨s2.toArray⟩,.string ⟨s3.toArray⟩,.bool true]) (by simp[results,Tryz.results150,go_sem]) rfl (HR.out _ (brz.alloc nlz _) (by simp) (by simp) (by simp))
 have HH:=hzz h9;have e1:(t !=9)=true:=by simp;omega
 have e2:(t !=10)=true:=by simp;omega
 clear hs h9;go_enter Tryz.func150,Tryz.ntmps150
 go_wp2_with fail
 exact bodyPost_ret (v:= .tuple #[.string ⟨#[]⟩,.string ⟨#[]⟩,.string ⟨#[]⟩,.bool false]) (by simp[results,Tryz.results150,go_sem]) rfl (A1s.no (fun x=>HH.out x.1) brz)
theorem A7g(w:World)(a:Option Addr)(n cap:Nat)(L:List KV)(i:Int)(hs:Ks w a n L)(hn:n<=65536):Calls Tryz.prog 63 #[.slice a n cap,.int .i64 i] w (A5j L i w):=by
 have C1:=A4i w a n cap L i 1 hs hn;unfold A5j A1k
 cases h:isT L i 1
 ·rw[h]at C1;have K1:=hzz C1;clear C1 hs h;go_enter Tryz.func63,Tryz.ntmps63
  go_wp2_with fail
  refine K1.out.mono ?_;rintro e w' ⟨rfl,rfl⟩
  go_wp2_with fail
  go_ret2;exact⟨rfl,rfl⟩
 rw[h]at C1;have K1:=hzz C1;obtain⟨h1,h2,_⟩:=A5a h;rw[hs.1]at h2;obtain⟨k,rfl⟩:∃k:Nat,i=k:=⟨i.toNat,by omega⟩;obtain⟨b,off,rfl,_,hk⟩:=hs.at k (by omega);have g4:=hk.c4
 have k0:0<k:=by omega
 have k1:k<n:=by omega
 rw[if_pos rfl];clear C1 hs h h1 h2 hk;go_enter Tryz.func63,Tryz.ntmps63
 go_wp2_with fail
 refine K1.out.mono ?_;rintro e w' ⟨rfl,rfl⟩
 go_wp2_with fail
 go_ret2;exact⟨rfl,rfl⟩
theorem A4y(w:World)(a:Option Addr)(n cap:Nat)(L:List KV)(i:Int)(hs:Ks w a n L)(hn:n<=65536):Calls Tryz.prog 26 #[.slice a n cap,.int .i64 i] w (A4f L i w):=by
 have C1:=A4i w a n cap L i 7 hs hn;unfold A4f A0s
 cases h:isT L i 7
 ·rw[h]at C1;have K1:=hzz C1;clear C1 hs h;go_enter Tryz.func26,Tryz.ntmps26
  go_wp2_with fail
  refine K1.out.mono ?_;rintro e w' ⟨rfl,rfl⟩
  go_wp2_with fail
  go_ret2;exact⟨rfl,rfl⟩
 rw[h]at C1;have K1:=hzz C1;obtain⟨h1,h2,_⟩:=A5a h;rw[hs.1]at h2;obtain⟨k,rfl⟩:∃k:Nat,i=k:=⟨i.toNat,by omega⟩;have C2:=A7g w a n cap L (kAt L k).a hs hn;unfold A5j at C2
 have K2:=hzz C2;obtain⟨b,off,rfl,_,hk⟩:=hs.at k (by omega);have g1:=hk.c1;have k0:0<k:=by omega
 have k1:k<n:=by omega
 rw[if_pos rfl];clear C1 C2 hs h h1 h2 hk;go_enter Tryz.func26,Tryz.ntmps26
 go_wp2_with fail
 refine K1.out.mono ?_;rintro e w' ⟨rfl,rfl⟩
 go_wp2_with fail
 refine K2.out.mono ?_;rintro e w' ⟨rfl,rfl⟩
 go_wp2_with fail
 go_ret2;exact⟨rfl,rfl⟩
theorem B1t(w:World)(a:Option Addr)(n cap:Nat)(L:List KV)(i t:Int)(hs:Ks w a n L)(hn:n<=65536):Calls Tryz.prog 154 #[.slice a n cap,.int .i64 i,.int .i64 t] w (A1s L i t w):=by
 by_cases h9:t=9\/t=10
 ·have e9:((t !=9)&&(t !=10))=false:=by rcases h9 with rfl|rfl<;>rfl
  have C1:=A4i w a n cap L i t hs hn;have H9:=hzz h9
  have tw:(t=9/\True)\/(t=10/\True):=by rcases h9 with rfl|rfl;exact .inl ⟨rfl,trivial⟩;exact .inr ⟨rfl,trivial⟩
  clear e9 h9
  cases h:isT L i t
  ·rw[h]at C1;have K1:=hzz C1;have HH:=hzz h;clear C1 hs h
   rcases tw with⟨rfl,_⟩|⟨rfl,_⟩
   all_goals
    go_enter Tryz.func154,Tryz.ntmps154
    go_wp2_with fail
    refine K1.out.mono ?_;rintro e w' ⟨rfl,rfl⟩
    go_wp2_with fail
    refine bodyPost_ret (v:= .tuple #[.string ⟨#[]⟩,.string ⟨#[]⟩,.string ⟨#[]⟩,.bool false]) (by simp[results,Tryz.results154,go_sem]) rfl (A1s.no (fun x=> ?_) brz);rw[HH.out]at x
    exact absurd x.2.1 (by decide)
  rw[h]at C1;have K1:=hzz C1;obtain⟨h1,h2,_⟩:=A5a h;rw[hs.1]at h2;obtain⟨k,rfl⟩:∃k:Nat,i=k:=⟨i.toNat,by omega⟩;have HH:=hzz h
  have C2:=A4i w a n cap L (kAt L k).b 12 hs hn;obtain⟨b,off,rfl,hbl,hk⟩:=hs.at k (by omega);have g1:=hk.c1;have g2:=hk.c2;have k0:0<k:=by omega
  have k1:k<n:=by omega
  have HS:=hzz hs;clear C1 h1 h2 hk h hs
  cases h:isT L (kAt L k).b 12
  ·rw[h]at C2;have K2:=hzz C2;have HI:=hzz h;clear C2 h
   rcases tw with⟨rfl,_⟩|⟨rfl,_⟩
   all_goals
    go_enter Tryz.func154,Tryz.ntmps154
    go_wp2_with fail
    refine K1.out.mono ?_;rintro e w' ⟨rfl,rfl⟩
    go_wp2_with fail
    refine K2.out.mono ?_;rintro e w' ⟨rfl,rfl⟩
    go_wp2_with fail
    refine bodyPost_ret (v:= .tuple #[.string ⟨#[]⟩,.string ⟨#[]⟩,.string ⟨#[]⟩,.bool false]) (by simp[results,Tryz.results154,go_sem]) rfl (A1s.no (fun x=> ?_) brz);rw[HI.out]at x
    exact absurd x.2.2.1 (by decide)
  rw[h]at C2;have K2:=hzz C2;have HI:=hzz h;obtain⟨h1,h2,_⟩:=A5a h;rw[HS.out.1]at h2;obtain⟨m,hm⟩:∃m:Nat,(kAt L k).b=m:=⟨(kAt L k).b.toNat,by omega⟩;rw[hm]at h1 h2 g2 K2
  obtain⟨b',off',he,_,hk⟩:=HS.out.at m (by omega)
  cases he
  have m0:0<m:=by omega
  have m1:m<n:=by omega
  obtain⟨q0,q1,q2,q3,q4⟩:=hk;have HM:=hzz hm;clear C2 h h1 h2 hm
  have CC:∀w',Below w.heap.size w w'->Calls Tryz.prog 26 #[.slice (some ⟨b,off,none⟩) n cap,.int .i64 (kAt L k).a] w' (A4f L (kAt L k).a w'):=fun w' hb=>A4y w' _ n cap L _ (HS.out.below hb) hn
  have TA:∀w',Below w.heap.size w w'->Calls Tryz.prog 63 #[.slice (some ⟨b,off,none⟩) n cap,.int .i64 (kAt L m).a] w' (A5j L (kAt L m).a w'):=fun w' hb=>A7g w' _ n cap L _ (HS.out.below hb) hn
  have TB:∀w',Below w.heap.size w w'->Calls Tryz.prog 63 #[.slice (some ⟨b,off,none⟩) n cap,.int .i64 (kAt L m).b] w' (A5j L (kAt L m).b w'):=fun w' hb=>A7g w' _ n cap L _ (HS.out.below hb) hn
  unfold A4f at CC;unfold A5j at TA TB;have HCC:=hzz CC;have HTA:=hzz TA;have HTB:=hzz TB;have fin:∀(W:World),Below w.heap.size w W->Below w.heap.size w W:=fun _ h=>h
  clear CC TA TB fin
  have HR:=hzz (show ∀W,Below w.heap.size w W->(A0s L (kAt L k).a).2=true->isT L (kAt L m).a 1=true->isT L (kAt L m).b 1=true->A1s L k t w (.returned (.tuple #[.string ⟨(A0s L (kAt L k).a).1.toArray⟩,.string ⟨(A1k L (kAt L m).a).toArray⟩,.string ⟨(A1k L (kAt L m).b).toArray⟩,.bool true])) W from
   fun W hW c1 c2 c3=>by
    have:=A1s.yes (L:=L) (i:=k) (t:=t) (w:=w) (w':=W) ⟨H9.out,HH.out,HI.out,c1,by rw[HM.out];exact c2,by rw[HM.out];exact c3⟩ hW;rw[HM.out]at this;exact this)
  have HN:=hzz (show ∀W,Below w.heap.size w W->((A0s L (kAt L k).a).2=false\/isT L (kAt L m).a 1=false\/isT L (kAt L m).b 1=false)->A1s L k t w (.returned (.tuple #[.string ⟨#[]⟩,.string ⟨#[]⟩,.string ⟨#[]⟩,.bool false])) W from
   fun W hW hx=>by
    refine A1s.no (fun x=> ?_) hW;rw[HM.out]at x
    rcases hx with hx|hx|hx<;>simp[hx]at x)
  generalize(A0s L (kAt L k).a).1=s1 at*;generalize(A0s L (kAt L k).a).2=o1 at*;generalize isT L (kAt L m).a 1=o2 at*;generalize isT L (kAt L m).b 1=o3 at*
  generalize A1k L (kAt L m).a=s2 at*;generalize A1k L (kAt L m).b=s3 at*;have KF:=hzz (Below.refl w.heap.size w)
  rcases tw with⟨rfl,_⟩|⟨rfl,_⟩
  all_goals
   go_enter Tryz.func154,Tryz.ntmps154
   go_wp2_with fail
   refine K1.out.mono ?_;rintro e w' ⟨rfl,rfl⟩
   go_wp2_with fail
   refine K2.out.mono ?_;rintro e w' ⟨rfl,rfl⟩
   go_wp2_with fail
   refine(HCC.out _ (brz.alloc nlz _)).mono ?_;rintro e w' ⟨rfl,rfl⟩
   go_wp2_with fail
   refine(HTA.out _ (brz.alloc nlz _)).mono ?_;rintro e w' ⟨rfl,rfl⟩
   go_wp2_with fail
   refine(HTB.out _ (brz.alloc nlz _)).mono ?_;rintro e w' ⟨rfl,rfl⟩
   cases o1
   ·go_wp2_with fail
    exact bodyPost_ret (v:= .tuple #[.string ⟨#[]⟩,.string ⟨#[]⟩,.string ⟨#[]⟩,.bool false]) (by simp[results,Tryz.results154,go_sem]) rfl (HN.out _ (brz.alloc nlz _) (by simp))
   ·cases o2
    ·go_wp2_with fail
     exact bodyPost_ret (v:= .tuple #[.string ⟨#[]⟩,.string ⟨#[]⟩,.string ⟨#[]⟩,.bool false]) (by simp[results,Tryz.results154,go_sem]) rfl (HN.out _ (brz.alloc nlz _) (by simp))
    cases o3
    ·go_wp2_with fail
     exact bodyPost_ret (v:= .tuple #[.string ⟨#[]⟩,.string ⟨#[]⟩,.string ⟨#[]⟩,.bool false]) (by simp[results,Tryz.results154,go_sem]) rfl (HN.out _ (brz.alloc nlz _) (by simp))
    go_wp2_with fail
    exact bodyPost_ret (v:= .tuple #[.string ⟨s1.toArray⟩,.string ⟨s2.toArray⟩,.string ⟨s3.toArray⟩,.bool true]) (by simp[results,Tryz.results154,go_sem]) rfl (HR.out _ (brz.alloc nlz _) (by simp) (by simp) (by simp))
 have HH:=hzz h9;have e1:(t !=9)=true:=by simp;omega
 have e2:(t !=10)=true:=by simp;omega
 clear hs h9;go_enter Tryz.func154,Tryz.ntmps154
 go_wp2_with fail
 exact bodyPost_ret (v:= .tuple #[.string ⟨#[]⟩,.string ⟨#[]⟩,.string ⟨#[]⟩,.bool false]) (by simp[results,Tryz.results154,go_sem]) rfl (A1s.no (fun x=>HH.out x.1) brz)
def A6x(c:KV):KV:=
 ⟨c.tag,if c.tag=9\/c.tag=10\/c.tag=12\/c.tag=7\/c.tag=8 then c.a else 0,if c.tag=9\/c.tag=10\/c.tag=12 then c.b else 0,if c.tag=3 then wrap32 c.n else if c.tag=5 then c.n else 0,if c.tag=1 then c.s else []⟩
def kV(c:KV):Value:= .agg #[.int .i64 c.tag,.int .i64 c.a,.int .i64 c.b,.int .i64 c.n,.string ⟨c.s.toArray⟩]
theorem A5t:(Tryz.prog.info? 61).map (·.size)=some 5:=by kernel_rfl
theorem B9k(w:World)(A B C:Obj):(((w.alloc A).alloc B).alloc C).heap[w.heap.size+1]? =some B:=by
 rw[Below.heap_alloc _ _ _ (by simp)];have:=heap_alloc_last (w.alloc A) B;simpa using this
theorem A8y(w:World)(A B C:Obj):Below w.heap.size w (((w.alloc A).alloc B).alloc C):=((brz.alloc nlz _).alloc (by simp) _).alloc (by simp;omega) _
theorem E3j(w:World)(t a b n:Int)(s:List UInt8):Calls Tryz.prog 87 #[kV ⟨1,a,b,n,s⟩] w fun e w'=>e= .returned (kV (A6x ⟨1,a,b,n,s⟩))/\Below w.heap.size w w':=by
 unfold kV;go_enter Tryz.func87,Tryz.ntmps87
 go_wp2_with fail
 unfold A6x;simp only[reduceCtorEq,if_true,if_false,or_true,true_or,or_false,false_or,Int.reduceEq,or_self]
 exact bodyPost_ret (results_cell_row rfl _ _ (w.heap.size+1) _ _ _ _ rfl (B9k _ _ _ _) Tryz.underlying61 rfl A5t) rfl ⟨rfl,A8y _ _ _ _⟩
theorem E3e(w:World)(t a b n:Int)(s:List UInt8):Calls Tryz.prog 87 #[kV ⟨3,a,b,n,s⟩] w fun e w'=>e= .returned (kV (A6x ⟨3,a,b,n,s⟩))/\Below w.heap.size w w':=by
 unfold kV;go_enter Tryz.func87,Tryz.ntmps87
 go_wp2_with fail
 unfold A6x;simp only[reduceCtorEq,if_true,if_false,or_true,true_or,or_false,false_or,Int.reduceEq,or_self];have hw:wrap64 (wrap32 n)=wrap32 n:=by unfold wrap64 wrap32;omega
 rw[hw];exact bodyPost_ret (results_cell_row rfl _ _ (w.heap.size+1) _ _ _ _ rfl (B9k _ _ _ _) Tryz.underlying61 rfl A5t) rfl ⟨rfl,A8y _ _ _ _⟩
theorem E3f(w:World)(t a b n:Int)(s:List UInt8):Calls Tryz.prog 87 #[kV ⟨5,a,b,n,s⟩] w fun e w'=>e= .returned (kV (A6x ⟨5,a,b,n,s⟩))/\Below w.heap.size w w':=by
 unfold kV;go_enter Tryz.func87,Tryz.ntmps87
 go_wp2_with fail
 unfold A6x;simp only[reduceCtorEq,if_true,if_false,or_true,true_or,or_false,false_or,Int.reduceEq,or_self]
 exact bodyPost_ret (results_cell_row rfl _ _ (w.heap.size+1) _ _ _ _ rfl (B9k _ _ _ _) Tryz.underlying61 rfl A5t) rfl ⟨rfl,A8y _ _ _ _⟩
theorem E1j(w:World)(t a b n:Int)(s:List UInt8):Calls Tryz.prog 87 #[kV ⟨9,a,b,n,s⟩] w fun e w'=>e= .returned (kV (A6x ⟨9,a,b,n,s⟩))/\Below w.heap.size w w':=by
 unfold kV;go_enter Tryz.func87,Tryz.ntmps87
 go_wp2_with fail
 unfold A6x;simp only[reduceCtorEq,if_true,if_false,or_true,true_or,or_false,false_or,Int.reduceEq,or_self]
 exact bodyPost_ret (results_cell_row rfl _ _ (w.heap.size+1) _ _ _ _ rfl (B9k _ _ _ _) Tryz.underlying61 rfl A5t) rfl ⟨rfl,A8y _ _ _ _⟩
theorem E0e(w:World)(t a b n:Int)(s:List UInt8):Calls Tryz.prog 87 #[kV ⟨10,a,b,n,s⟩] w fun e w'=>e= .returned (kV (A6x ⟨10,a,b,n,s⟩))/\Below w.heap.size w w':=by
 unfold kV;go_enter Tryz.func87,Tryz.ntmps87
 go_wp2_with fail
 unfold A6x;simp only[reduceCtorEq,if_true,if_false,or_true,true_or,or_false,false_or,Int.reduceEq,or_self]
 exact bodyPost_ret (results_cell_row rfl _ _ (w.heap.size+1) _ _ _ _ rfl (B9k _ _ _ _) Tryz.underlying61 rfl A5t) rfl ⟨rfl,A8y _ _ _ _⟩
theorem D9c(w:World)(t a b n:Int)(s:List UInt8):Calls Tryz.prog 87 #[kV ⟨12,a,b,n,s⟩] w fun e w'=>e= .returned (kV (A6x ⟨12,a,b,n,s⟩))/\Below w.heap.size w w':=by
 unfold kV;go_enter Tryz.func87,Tryz.ntmps87
 go_wp2_with fail
 unfold A6x;simp only[reduceCtorEq,if_true,if_false,or_true,true_or,or_false,false_or,Int.reduceEq,or_self]
 exact bodyPost_ret (results_cell_row rfl _ _ (w.heap.size+1) _ _ _ _ rfl (B9k _ _ _ _) Tryz.underlying61 rfl A5t) rfl ⟨rfl,A8y _ _ _ _⟩
theorem E2r(w:World)(t a b n:Int)(s:List UInt8):Calls Tryz.prog 87 #[kV ⟨7,a,b,n,s⟩] w fun e w'=>e= .returned (kV (A6x ⟨7,a,b,n,s⟩))/\Below w.heap.size w w':=by
 unfold kV;go_enter Tryz.func87,Tryz.ntmps87
 go_wp2_with fail
 unfold A6x;simp only[reduceCtorEq,if_true,if_false,or_true,true_or,or_false,false_or,Int.reduceEq,or_self]
 exact bodyPost_ret (results_cell_row rfl _ _ (w.heap.size+1) _ _ _ _ rfl (B9k _ _ _ _) Tryz.underlying61 rfl A5t) rfl ⟨rfl,A8y _ _ _ _⟩
theorem E1d(w:World)(t a b n:Int)(s:List UInt8):Calls Tryz.prog 87 #[kV ⟨8,a,b,n,s⟩] w fun e w'=>e= .returned (kV (A6x ⟨8,a,b,n,s⟩))/\Below w.heap.size w w':=by
 unfold kV;go_enter Tryz.func87,Tryz.ntmps87
 go_wp2_with fail
 unfold A6x;simp only[reduceCtorEq,if_true,if_false,or_true,true_or,or_false,false_or,Int.reduceEq,or_self]
 exact bodyPost_ret (results_cell_row rfl _ _ (w.heap.size+1) _ _ _ _ rfl (B9k _ _ _ _) Tryz.underlying61 rfl A5t) rfl ⟨rfl,A8y _ _ _ _⟩
theorem D2m(w:World)(t a b n:Int)(s:List UInt8)(h:t≠1/\t≠3/\t≠5/\t≠9/\t≠10/\t≠12/\t≠7/\t≠8):Calls Tryz.prog 87 #[kV ⟨t,a,b,n,s⟩] w fun e w'=>e= .returned (kV (A6x ⟨t,a,b,n,s⟩))/\Below w.heap.size w w':=by
 unfold kV;obtain⟨h1,h3,h5,h9,h10,h12,h7,h8⟩:=h;have HB:=hzz (show A6x ⟨t,a,b,n,s⟩=⟨t,0,0,0,[]⟩ by unfold A6x;simp[h1,h3,h5,h9,h10,h12,h7,h8])
 have e1:(t==1)=false:=by simp[h1]
 have e3:(t==3)=false:=by simp[h3]
 have e5:(t==5)=false:=by simp[h5]
 have e9:(t==9)=false:=by simp[h9]
 have e10:(t==10)=false:=by simp[h10]
 have e12:(t==12)=false:=by simp[h12]
 have e7:(t==7)=false:=by simp[h7]
 have e8:(t==8)=false:=by simp[h8]
 clear h1 h3 h5 h9 h10 h12 h7 h8;go_enter Tryz.func87,Tryz.ntmps87
 go_wp2_with fail
 rw[HB.out];exact bodyPost_ret (results_cell_row rfl _ _ (w.heap.size+1) _ _ _ _ rfl (B9k _ _ _ _) Tryz.underlying61 rfl A5t) rfl ⟨rfl,A8y _ _ _ _⟩
theorem D6p(w:World)(c:KV):Calls Tryz.prog 87 #[kV c] w fun e w'=>e= .returned (kV (A6x c))/\Below w.heap.size w w':=by
 obtain⟨t,a,b,n,s⟩:=c;by_cases h1:t=1
 ·subst h1;exact E3j w 0 a b n s
 by_cases h3:t=3
 ·subst h3;exact E3e w 0 a b n s
 by_cases h5:t=5
 ·subst h5;exact E3f w 0 a b n s
 by_cases h9:t=9
 ·subst h9;exact E1j w 0 a b n s
 by_cases h10:t=10
 ·subst h10;exact E0e w 0 a b n s
 by_cases h12:t=12
 ·subst h12;exact D9c w 0 a b n s
 by_cases h7:t=7
 ·subst h7;exact E2r w 0 a b n s
 by_cases h8:t=8
 ·subst h8;exact E1d w 0 a b n s
 exact D2m w t a b n s ⟨h1,h3,h5,h9,h10,h12,h7,h8⟩
def A0m(r:Bool)(w:World)(e:Ending)(w':World):Prop:=e= .returned (.bool r)/\Below w.heap.size w w'
theorem A0f(w:World)(A:Obj):Below w.heap.size w (w.alloc A):=brz.alloc nlz _
theorem E1x(w:World)(a:Option Addr)(n cap:Nat)(L:List KV)(i:Nat)(hs:Ks w a n L)(hn:n<=65536)(hi:i<n)(ht:(kAt L i).tag=0):Calls Tryz.prog 88 #[.slice a n cap,.int .i64 i] w (A0m (A1g L i) w):=by
 obtain⟨b,off,rfl,hbl,hk⟩:=hs.at i hi;obtain⟨q0,q1,q2,q3,q4⟩:=hk;rw[ht]at q0;by_cases h0:i=0
 ·subst h0;have ht':(kAt L 0).tag=0:=ht;rw[show A1g L 0=true from by unfold A1g;simp[ht']];simp only[Nat.zero_mul,Nat.add_zero]at q0 q1 q2 q3 q4;clear hs ht ht'
  go_enter Tryz.func88,Tryz.ntmps88
  go_wp2_with fail
  go_ret;exact⟨rfl,A0f _ _⟩
 obtain⟨b',off',he,_,hk⟩:=hs.at (i-1) (by omega)
 cases he
 have p0:=hk.c0;have hij:((i-1:Nat):Int)=(i:Int) -1:=by omega
 rw[show off+(i-1)*5=off+(i-1)*5 from rfl]at p0;have e0:((i:Int)==0)=false:=by simp;omega
 have i1:(1:Int)<=i:=by omega
 have i2:((i:Int) -1).toNat=i-1:=by omega
 have i3:(i:Int) -1<n:=by omega
 rw[show A1g L i=decide ((kAt L ((i:Int) -1)).tag=5)from by unfold A1g;simp[ht,h0],<-hij];generalize(kAt L ((i-1:Nat):Int)).tag=t1 at*;clear hs ht hk hij h0
 generalize(kAt L i).a=ca at*;generalize(kAt L i).b=cb at*;generalize(kAt L i).n=cn at*;generalize(kAt L i).s=cs at*;by_cases h5:t1=5
 ·subst h5;go_enter Tryz.func88,Tryz.ntmps88
  go_wp2_with fail
  go_ret;exact⟨rfl,A0f _ _⟩
 have e5:(t1==5)=false:=by simp[h5]
 rw[decide_eq_false h5];clear h5;go_enter Tryz.func88,Tryz.ntmps88
 go_wp2_with fail
 go_ret;exact⟨rfl,A0f _ _⟩
theorem E2x(w:World)(a:Option Addr)(n cap:Nat)(L:List KV)(i:Nat)(hs:Ks w a n L)(hn:n<=65536)(hi:i<n)(ht:(kAt L i).tag=1)(hl:(kAt L i).s.length<=65536):Calls Tryz.prog 88 #[.slice a n cap,.int .i64 i] w (A0m (A1g L i) w):=by
 obtain⟨b,off,rfl,hbl,hk⟩:=hs.at i hi;obtain⟨q0,q1,q2,q3,q4⟩:=hk;rw[ht]at q0;obtain⟨r,hrr⟩:=exz (A1g L i);rw[<-hrr]
 have HRR:=hzz (show r=((A3m (kAt L i).s).isSome&&decide ((kAt L i).s.length<=65535))from by rw[hrr];unfold A1g;simp[ht]);clear hrr;generalize(kAt L i).a=ca at*
 generalize(kAt L i).b=cb at*;generalize(kAt L i).n=cn at*;generalize(kAt L i).s=cs at*
 obtain⟨c,w1,hr,hs1,hc1,hb1,hz1⟩:=B3e (w.alloc (.cells #[.int .i64 1,.int .i64 ca,.int .i64 cb,.int .i64 cn,.string ⟨cs.toArray⟩] 61)) cs
 have hz:(w.alloc (.cells #[.int .i64 1,.int .i64 ca,.int .i64 cb,.int .i64 cn,.string ⟨cs.toArray⟩] 61)).heap.size=w.heap.size+1:=by simp
 rw[hz]at hr hs1;clear hz;have CL:=D8r w1 _ cs.length c cs hs1 hl hc1;have HB1:=hzz (show Below w.heap.size w w1 from(A0f _ _).trans (hb1.mono (by simp)))
 have HK1:=hzz (A0e hb1 (cell_of_row (w.alloc (.cells #[.int .i64 1,.int .i64 ca,.int .i64 cb,.int .i64 cn,.string ⟨cs.toArray⟩] 61)) w.heap.size 4 _ _ _ (heap_alloc_last w _)));have HL:=hzz CL
 clear CL hs hs1 hc1 hb1 ht hz1;go_enter Tryz.func88,Tryz.ntmps88
 go_wp2_with fail
 refine HL.out.mono ?_;rintro e w2 ⟨rfl,hb2⟩;have HB2:=btz HB1 hb2;have c4:w2.cell? ⟨w.heap.size,4,none⟩=some (.string ⟨cs.toArray⟩):=A0e hb2 HK1.out;clear hb2 hr
 cases hd:A3m cs with
 |none=>
  rw[hd]at HRR;simp only[D5x];clear hd
  go_wp2_with fail
  go_ret;exact⟨by rw[HRR.out];rfl,HB2.out⟩
 |some us=>
 rw[hd]at HRR;simp only[D5x];clear hd;by_cases h6:cs.length<=65535
 ·have h7:decide ((cs.length:Int)<=65535)=true:=by simp;omega
  have H6:=hzz (show r=true by rw[HRR.out,decide_eq_true h6];rfl)
  go_wp2_with fail
  go_ret;exact⟨by rw[H6.out];rfl,HB2.out⟩
 have h7:decide ((cs.length:Int)<=65535)=false:=by simp;omega
 have H6:=hzz (show r=false by rw[HRR.out,decide_eq_false h6];rfl)
 go_wp2_with fail
 go_ret;exact⟨by rw[H6.out];rfl,HB2.out⟩
theorem E1v(w:World)(a:Option Addr)(n cap:Nat)(L:List KV)(i:Nat)(hs:Ks w a n L)(hn:n<=65536)(hi:i<n)(ht:(kAt L i).tag=3):Calls Tryz.prog 88 #[.slice a n cap,.int .i64 i] w (A0m (A1g L i) w):=by
 obtain⟨b,off,rfl,hbl,hk⟩:=hs.at i hi;obtain⟨q0,q1,q2,q3,q4⟩:=hk;rw[ht]at q0;rw[show A1g L i=true from by unfold A1g;simp[ht]];clear hs ht;generalize(kAt L i).a=ca at*
 generalize(kAt L i).b=cb at*;generalize(kAt L i).n=cn at*;generalize(kAt L i).s=cs at*;go_enter Tryz.func88,Tryz.ntmps88
 go_wp2_with fail
 go_ret;exact⟨rfl,A0f _ _⟩
theorem E3h(w:World)(a:Option Addr)(n cap:Nat)(L:List KV)(i:Nat)(hs:Ks w a n L)(hn:n<=65536)(hi:i<n)(ht:(kAt L i).tag=5):Calls Tryz.prog 88 #[.slice a n cap,.int .i64 i] w (A0m (A1g L i) w):=by
 obtain⟨b,off,rfl,hbl,hk⟩:=hs.at i hi;obtain⟨q0,q1,q2,q3,q4⟩:=hk;rw[ht]at q0
 rw[show A1g L i=(decide (i+1<n)&&decide ((kAt L ((i:Int)+1)).tag=0))from by unfold A1g;simp[ht,hs.1]];by_cases h1:i+1<n
 ·obtain⟨b',off',he,_,hk⟩:=hs.at (i+1) h1
  cases he
  have p0:=hk.c0;have hij:((i+1:Nat):Int)=(i:Int)+1:=by omega
  rw[<-hij,decide_eq_true h1,Bool.true_and];have e1:decide ((i:Int)+1<n)=true:=by simp;omega
  have i3:(i:Int)+1<n:=by omega
  generalize(kAt L ((i+1:Nat):Int)).tag=t1 at*;clear hs ht hk hij;generalize(kAt L i).a=ca at*;generalize(kAt L i).b=cb at*;generalize(kAt L i).n=cn at*;generalize(kAt L i).s=cs at*
  by_cases h5:t1=0
  ·subst h5;go_enter Tryz.func88,Tryz.ntmps88
   go_wp2_with fail
   go_ret;exact⟨rfl,A0f _ _⟩
  have e5:(t1==0)=false:=by simp[h5]
  rw[decide_eq_false h5];clear h5;go_enter Tryz.func88,Tryz.ntmps88
  go_wp2_with fail
  go_ret;exact⟨rfl,A0f _ _⟩
 rw[decide_eq_false h1,Bool.false_and];have e1:decide ((i:Int)+1<n)=false:=by simp;omega
 clear hs ht;generalize(kAt L i).a=ca at*;generalize(kAt L i).b=cb at*;generalize(kAt L i).n=cn at*;generalize(kAt L i).s=cs at*;go_enter Tryz.func88,Tryz.ntmps88
 go_wp2_with fail
 go_ret;exact⟨rfl,A0f _ _⟩
theorem E0m(w:World)(a:Option Addr)(n cap:Nat)(L:List KV)(i:Nat)(hs:Ks w a n L)(hn:n<=65536)(hi:i<n)(ht:(kAt L i).tag=12):Calls Tryz.prog 88 #[.slice a n cap,.int .i64 i] w (A0m (A1g L i) w):=by
 obtain⟨b,off,rfl,hbl,hk⟩:=hs.at i hi;obtain⟨q0,q1,q2,q3,q4⟩:=hk;rw[ht]at q0;rw[show A1g L i=(isT L (kAt L i).a 1&&isT L (kAt L i).b 1)from by unfold A1g;simp[ht]]
 have C1:=hzz (A9g (w.alloc (.cells #[.int .i64 12,.int .i64 (kAt L i).a,.int .i64 (kAt L i).b,.int .i64 (kAt L i).n,.string ⟨(kAt L i).s.toArray⟩] 61)) _ n cap L (kAt L i).a 1 (hs.below (A0f _ _)) hn)
 have C2:=hzz (A9g (w.alloc (.cells #[.int .i64 12,.int .i64 (kAt L i).a,.int .i64 (kAt L i).b,.int .i64 (kAt L i).n,.string ⟨(kAt L i).s.toArray⟩] 61)) _ n cap L (kAt L i).b 1 (hs.below (A0f _ _)) hn)
 generalize isT L (kAt L i).a 1=r1 at*;generalize isT L (kAt L i).b 1=r2 at*;clear hs ht;generalize(kAt L i).a=ca at*;generalize(kAt L i).b=cb at*;generalize(kAt L i).n=cn at*
 generalize(kAt L i).s=cs at*
 cases r1
 ·go_enter Tryz.func88,Tryz.ntmps88
  go_wp2_with fail
  refine C1.out.mono ?_;rintro e w' ⟨rfl,rfl⟩
  go_wp2_with fail
  go_ret;exact⟨rfl,A0f _ _⟩
 go_enter Tryz.func88,Tryz.ntmps88
 go_wp2_with fail
 refine C1.out.mono ?_;rintro e w' ⟨rfl,rfl⟩
 go_wp2_with fail
 refine C2.out.mono ?_;rintro e w' ⟨rfl,rfl⟩
 go_wp2_with fail
 go_ret;exact⟨rfl,A0f _ _⟩
theorem E1p(w:World)(a:Option Addr)(n cap:Nat)(L:List KV)(i:Nat)(hs:Ks w a n L)(hn:n<=65536)(hi:i<n)(ht:(kAt L i).tag=7):Calls Tryz.prog 88 #[.slice a n cap,.int .i64 i] w (A0m (A1g L i) w):=by
 obtain⟨b,off,rfl,hbl,hk⟩:=hs.at i hi;obtain⟨q0,q1,q2,q3,q4⟩:=hk;rw[ht]at q0;rw[show A1g L i=isT L (kAt L i).a 1 from by unfold A1g;simp[ht]]
 have C1:=hzz (A9g (w.alloc (.cells #[.int .i64 7,.int .i64 (kAt L i).a,.int .i64 (kAt L i).b,.int .i64 (kAt L i).n,.string ⟨(kAt L i).s.toArray⟩] 61)) _ n cap L (kAt L i).a 1 (hs.below (A0f _ _)) hn)
 generalize isT L (kAt L i).a 1=r1 at*;clear hs ht;generalize(kAt L i).a=ca at*;generalize(kAt L i).b=cb at*;generalize(kAt L i).n=cn at*;generalize(kAt L i).s=cs at*
 go_enter Tryz.func88,Tryz.ntmps88
 go_wp2_with fail
 refine C1.out.mono ?_;rintro e w' ⟨rfl,rfl⟩
 go_wp2_with fail
 go_ret;exact⟨rfl,A0f _ _⟩
theorem E2d(w:World)(a:Option Addr)(n cap:Nat)(L:List KV)(i:Nat)(hs:Ks w a n L)(hn:n<=65536)(hi:i<n)(ht:(kAt L i).tag=8):Calls Tryz.prog 88 #[.slice a n cap,.int .i64 i] w (A0m (A1g L i) w):=by
 obtain⟨b,off,rfl,hbl,hk⟩:=hs.at i hi;obtain⟨q0,q1,q2,q3,q4⟩:=hk;rw[ht]at q0;rw[show A1g L i=isT L (kAt L i).a 1 from by unfold A1g;simp[ht]]
 have C1:=hzz (A9g (w.alloc (.cells #[.int .i64 8,.int .i64 (kAt L i).a,.int .i64 (kAt L i).b,.int .i64 (kAt L i).n,.string ⟨(kAt L i).s.toArray⟩] 61)) _ n cap L (kAt L i).a 1 (hs.below (A0f _ _)) hn)
 generalize isT L (kAt L i).a 1=r1 at*;clear hs ht;generalize(kAt L i).a=ca at*;generalize(kAt L i).b=cb at*;generalize(kAt L i).n=cn at*;generalize(kAt L i).s=cs at*
 go_enter Tryz.func88,Tryz.ntmps88
 go_wp2_with fail
 refine C1.out.mono ?_;rintro e w' ⟨rfl,rfl⟩
 go_wp2_with fail
 go_ret;exact⟨rfl,A0f _ _⟩
theorem E1g(w:World)(a:Option Addr)(n cap:Nat)(L:List KV)(i:Nat)(hs:Ks w a n L)(hn:n<=65536)(hi:i<n)(ht:(kAt L i).tag=9):Calls Tryz.prog 88 #[.slice a n cap,.int .i64 i] w (A0m (A1g L i) w):=by
 obtain⟨b,off,rfl,hbl,hk⟩:=hs.at i hi;obtain⟨q0,q1,q2,q3,q4⟩:=hk;rw[ht]at q0;rw[show A1g L i=(isT L (kAt L i).a 7&&isT L (kAt L i).b 12)from by unfold A1g;simp[ht]]
 have C1:=hzz (A9g (w.alloc (.cells #[.int .i64 9,.int .i64 (kAt L i).a,.int .i64 (kAt L i).b,.int .i64 (kAt L i).n,.string ⟨(kAt L i).s.toArray⟩] 61)) _ n cap L (kAt L i).a 7 (hs.below (A0f _ _)) hn)
 have C2:=hzz (A9g (w.alloc (.cells #[.int .i64 9,.int .i64 (kAt L i).a,.int .i64 (kAt L i).b,.int .i64 (kAt L i).n,.string ⟨(kAt L i).s.toArray⟩] 61)) _ n cap L (kAt L i).b 12 (hs.below (A0f _ _)) hn)
 generalize isT L (kAt L i).a 7=r1 at*;generalize isT L (kAt L i).b 12=r2 at*;clear hs ht;generalize(kAt L i).a=ca at*;generalize(kAt L i).b=cb at*;generalize(kAt L i).n=cn at*
 generalize(kAt L i).s=cs at*
 cases r1
 ·go_enter Tryz.func88,Tryz.ntmps88
  go_wp2_with fail
  refine C1.out.mono ?_;rintro e w' ⟨rfl,rfl⟩
  go_wp2_with fail
  go_ret;exact⟨rfl,A0f _ _⟩
 go_enter Tryz.func88,Tryz.ntmps88
 go_wp2_with fail
 refine C1.out.mono ?_;rintro e w' ⟨rfl,rfl⟩
 go_wp2_with fail
 refine C2.out.mono ?_;rintro e w' ⟨rfl,rfl⟩
 go_wp2_with fail
 go_ret;exact⟨rfl,A0f _ _⟩
theorem E0i(w:World)(a:Option Addr)(n cap:Nat)(L:List KV)(i:Nat)(hs:Ks w a n L)(hn:n<=65536)(hi:i<n)(ht:(kAt L i).tag=10):Calls Tryz.prog 88 #[.slice a n cap,.int .i64 i] w (A0m (A1g L i) w):=by
 obtain⟨b,off,rfl,hbl,hk⟩:=hs.at i hi;obtain⟨q0,q1,q2,q3,q4⟩:=hk;rw[ht]at q0;rw[show A1g L i=(isT L (kAt L i).a 7&&isT L (kAt L i).b 12)from by unfold A1g;simp[ht]]
 have C1:=hzz (A9g (w.alloc (.cells #[.int .i64 10,.int .i64 (kAt L i).a,.int .i64 (kAt L i).b,.int .i64 (kAt L i).n,.string ⟨(kAt L i).s.toArray⟩] 61)) _ n cap L (kAt L i).a 7 (hs.below (A0f _ _)) hn)
 have C2:=hzz (A9g (w.alloc (.cells #[.int .i64 10,.int .i64 (kAt L i).a,.int .i64 (kAt L i).b,.int .i64 (kAt L i).n,.string ⟨(kAt L i).s.toArray⟩] 61)) _ n cap L (kAt L i).b 12 (hs.below (A0f _ _)) hn)
 generalize isT L (kAt L i).a 7=r1 at*;generalize isT L (kAt L i).b 12=r2 at*;clear hs ht;generalize(kAt L i).a=ca at*;generalize(kAt L i).b=cb at*;generalize(kAt L i).n=cn at*
 generalize(kAt L i).s=cs at*
 cases r1
 ·go_enter Tryz.func88,Tryz.ntmps88
  go_wp2_with fail
  refine C1.out.mono ?_;rintro e w' ⟨rfl,rfl⟩
  go_wp2_with fail
  go_ret;exact⟨rfl,A0f _ _⟩
 go_enter Tryz.func88,Tryz.ntmps88
 go_wp2_with fail
 refine C1.out.mono ?_;rintro e w' ⟨rfl,rfl⟩
 go_wp2_with fail
 refine C2.out.mono ?_;rintro e w' ⟨rfl,rfl⟩
 go_wp2_with fail
 go_ret;exact⟨rfl,A0f _ _⟩
theorem D0h(w:World)(a:Option Addr)(n cap:Nat)(L:List KV)(i:Nat)(hs:Ks w a n L)(hn:n<=65536)(hi:i<n)(h0:(kAt L i).tag≠0)(h1:(kAt L i).tag≠1)(h3:(kAt L i).tag≠3)(h5:(kAt L i).tag≠5)(h12:(kAt L i).tag≠12)(h7:(kAt L i).tag≠7)(h8:(kAt L i).tag≠8)(h9:(kAt L i).tag≠9)(h10:(kAt L i).tag≠10):Calls Tryz.prog 88 #[.slice a n cap,.int .i64 i] w (A0m (A1g L i) w):=by
 obtain⟨b,off,rfl,hbl,hk⟩:=hs.at i hi;obtain⟨q0,q1,q2,q3,q4⟩:=hk;rw[show A1g L i=false from by unfold A1g;simp[h0,h1,h3,h5,h12,h7,h8,h9,h10]];clear hs
 generalize(kAt L i).tag=t at*;generalize(kAt L i).a=ca at*;generalize(kAt L i).b=cb at*;generalize(kAt L i).n=cn at*;generalize(kAt L i).s=cs at*;have e0:(t==0)=false:=by simp[h0]
 have e1:(t==1)=false:=by simp[h1]
 have e3:(t==3)=false:=by simp[h3]
 have e5:(t==5)=false:=by simp[h5]
 have e12:(t==12)=false:=by simp[h12]
 have e7:(t==7)=false:=by simp[h7]
 have e8:(t==8)=false:=by simp[h8]
 have e9:(t==9)=false:=by simp[h9]
 have e10:(t==10)=false:=by simp[h10]
 clear h0 h1 h3 h5 h12 h7 h8 h9 h10;go_enter Tryz.func88,Tryz.ntmps88
 go_wp2_with fail
 go_ret;exact⟨rfl,A0f _ _⟩
theorem D2w(w:World)(a:Option Addr)(n cap:Nat)(L:List KV)(i:Nat)(hs:Ks w a n L)(hn:n<=65536)(hi:i<n)(hl:(kAt L i).s.length<=65536):Calls Tryz.prog 88 #[.slice a n cap,.int .i64 i] w (A0m (A1g L i) w):=by
 by_cases h0:(kAt L i).tag=0
 ·exact E1x w a n cap L i hs hn hi h0
 by_cases h1:(kAt L i).tag=1
 ·exact E2x w a n cap L i hs hn hi h1 hl
 by_cases h3:(kAt L i).tag=3
 ·exact E1v w a n cap L i hs hn hi h3
 by_cases h5:(kAt L i).tag=5
 ·exact E3h w a n cap L i hs hn hi h5
 by_cases h12:(kAt L i).tag=12
 ·exact E0m w a n cap L i hs hn hi h12
 by_cases h7:(kAt L i).tag=7
 ·exact E1p w a n cap L i hs hn hi h7
 by_cases h8:(kAt L i).tag=8
 ·exact E2d w a n cap L i hs hn hi h8
 by_cases h9:(kAt L i).tag=9
 ·exact E1g w a n cap L i hs hn hi h9
 by_cases h10:(kAt L i).tag=10
 ·exact E0i w a n cap L i hs hn hi h10
 exact D0h w a n cap L i hs hn hi h0 h1 h3 h5 h12 h7 h8 h9 h10
end
end Go.Proofs.YtclpkipaehpkdaaGreatDoor
