/- asm -/
import Derived.Test.YtclpkipaehpkdaaGreatDoorQ03AsmBack
import Derived.Test.YtclpkipaehpkdaaGreatDoorQ04AsmBack
import Derived.Test.YtclpkipaehpkdaaGreatDoorQ05AsmBack
import Derived.Laws.EntriesVeiled
import Derived.Test.YtclpkipaehpkdaaGreatDoorQ02AsmBack
import Derived.StillTailTactics
set_option linter.unusedVariables false
set_option linter.unusedSimpArgs false
set_option maxRecDepth 100000
set_option maxHeartbeats 64000000
open Go.Proofs.Tryz
namespace Go.Proofs.YtclpkipaehpkdaaGreatDoor
section
open Go.ChangeShapes Go.WideShapes Go.ChangeAt Go.RowKit
theorem dp:prog.underlying 61=some (.struct (prog.fieldsOf 61)):=by kernel_rfl
theorem aW:prog.stoodInHeld 61=false:=by kernel_rfl
theorem cF:prog.eqGuardType prog.depth 61=false:=by kernel_rfl
theorem aj:(prog.fieldsOf 61).toList.map (fun f=>(f.name,f.type,f.offset))=[("Tag",3,0),("A",3,1),("B",3,2),("N",2,3),("S",9,4)]:=by kernel_rfl
def sP(c d:KV):Bool:=decide (c.tag=d.tag/\c.a=d.a/\c.b=d.b/\c.n=d.n/\c.s=d.s)
theorem qM(l:List UInt8):(⟨l.toArray⟩:ByteArray).toList=l:=by rw[ByteArray.toList_eq]
theorem aF(w:World)(d:Nat)(x y:KV):(Op.equalIn (d+1+1) 61 (kV x) (kV y)).run prog w= .ok (sP x y) w:=by
 unfold kV;rw[run_equalIn_struct w (d+1) _ _ _ dp aW];have hl:=aj
 match hf:(prog.fieldsOf 61).toList,hl with
 |[f0,f1,f2,f3,f4],hl=>
  simp only[List.map_cons,List.map_nil,List.cons.injEq,Prod.mk.injEq,and_true]at hl;obtain⟨⟨n0,t0,o0⟩,⟨n1,t1,o1⟩,⟨n2,t2,o2⟩,⟨n3,t3,o3⟩,⟨n4,t4,o4⟩⟩:=hl;simp only[Op.eqFields,n0,n1,n2,n3,n4,t0,t1,t2,t3,t4,o0,o1,o2,o3,o4]
  have b:∀(e:Value) (i:Nat) (t:TypeId) (d':TypeDesc) (cs:Array Value) (w:World),prog.underlying t=some d'->(match d' with| .struct _| .array _ _=>false|_=>true)=true->cs[i]? =some e->(part t cs i).run prog w= .ok e w:=by
   intro e i t d' cs w h1 h2 h3
   cases d'<;>simp[part,isAgg,run_underlying h1,h3]at h2⊢
  have i0:∀(i:Nat) (cs:Array Value) (w:World) (h:i<cs.size),(part 3 cs i).run prog w= .ok cs[i] w:=fun i cs w h=>b _ i _ _ cs w underlying3 rfl (Array.getElem?_eq_getElem h)
  have i3:∀(i:Nat) (cs:Array Value) (w:World) (h:i<cs.size),(part 2 cs i).run prog w= .ok cs[i] w:=fun i cs w h=>b _ i _ _ cs w underlying2 rfl (Array.getElem?_eq_getElem h)
  have i4:∀(i:Nat) (cs:Array Value) (w:World) (h:i<cs.size),(part 9 cs i).run prog w= .ok cs[i] w:=fun i cs w h=>b _ i _ _ cs w underlying9 rfl (Array.getElem?_eq_getElem h)
  by_cases g0:x.tag=y.tag
  ·by_cases g1:x.a=y.a
   ·by_cases g2:x.b=y.b
    ·by_cases g3:x.n=y.n
     ·simp[i0,i3,i4,run_equalIn_int _ _ _ _ _ _ _ underlying3,run_equalIn_int _ _ _ _ _ _ _ underlying2,run_equalIn_string _ _ _ _ _ underlying9,g0,g1,g2,g3,sP,qM];by_cases g4:x.s=y.s<;>simp[g4]
     simp[i0,i3,i4,run_equalIn_int _ _ _ _ _ _ _ underlying3,run_equalIn_int _ _ _ _ _ _ _ underlying2,g0,g1,g2,g3,sP]
    simp[i0,i3,i4,run_equalIn_int _ _ _ _ _ _ _ underlying3,g0,g1,g2,sP]
   simp[i0,run_equalIn_int _ _ _ _ _ _ _ underlying3,g0,g1,sP]
  simp[i0,run_equalIn_int _ _ _ _ _ _ _ underlying3,g0,sP]
 |[],hl|[_],hl|[_,_],hl|[_,_,_],hl|[_,_,_,_],hl|_::_::_::_::_::_::_,hl=>simp at hl
theorem D8w(w:World)(x y:KV)(o1 o2:Operand):((eqGuard .neq 61 o1 o2 (kV x) (kV y)).run prog w).andThen (fun _ w'=>(binOp .neq 61 (kV x) (kV y)).run prog w')= .ok (.bool (!sP x y)) w:=by
 have h:=aF w 9998 x y;unfold kV at h⊢;rw[run_eqGuard_agg w _ _ _ _ _ _ cF,Result.andThen_ok,run_neq_struct,h,Result.andThen_ok]
theorem D2a(c:KV):sP c (wk c)=yM c:=by
 obtain⟨t,a,b,n,s⟩:=c;unfold sP wk yM wrap32;rw[Bool.eq_iff_iff]
 by_cases h1:t=1<;>by_cases h3:t=3<;>by_cases h5:t=5<;>by_cases h9:t=9<;>by_cases X1:t=10<;>by_cases VD:t=12<;>by_cases h7:t=7<;>by_cases h8:t=8<;>first|(exfalso;omega)|(simp[h1,h3,h5,h9,X1,VD,h7,h8];done)|(simp[h1,h3,h5,h9,X1,VD,h7,h8];omega)|(simp[h1,h3,h5,h9,X1,VD,h7,h8];grind)
theorem jL{P:Program}{ρ:Operand->Value}{o:Oper}{op:BinOp}{t:TypeId}{x y:Operand}{ty:TypeId}(ho:o.op= .binOp op t x y ty){v:Value}{w:World}
  (h:((eqGuard op t x y (ρ x) (ρ y)).run P w).andThen (fun _ w'=>(binOp op t (ρ x) (ρ y)).run P w')= .ok v w):(execOp ρ o).run P w= .ok (.value v) w:=by
 unfold execOp;simp only[ho,Sem.run_bind,Sem.run_pure];rw[h];rfl
def gV(L:List KV)(w:World)(e:Ending)(w':World):Prop:=e= .returned (.int .i64 (if xP L then 0 else 8))/\Below w.heap.size w w'
theorem pE{L:List KV}(h:L.length=0\/1024<L.length):xP L=false:=by
 unfold xP
 rcases h with h|h
 ·rw[decide_eq_false (show ¬1<=L.length by omega)];rfl
 rw[decide_eq_false (show ¬L.length<=1024 by omega)];simp
theorem iS{L:List KV}(h:(kAt L 0).tag≠0):xP L=false:=by
 unfold xP;rw[decide_eq_false h];simp
theorem iT{L:List KV}(j:Nat)(hj:j<L.length)(h:xS L j=false):xP L=false:=by
 unfold xP
 have:(List.range L.length).all (xS L)=false:=by
  rw[List.all_eq_false];exact⟨j,by simpa using hj,by simp[h]⟩
 rw[this];simp
theorem jy{L:List KV}(h1:1<=L.length)(h2:L.length<=1024)(h3:(kAt L 0).tag=0)(h:∀k,k<L.length->xS L k=true):xP L=true:=by
 unfold xP;rw[decide_eq_true h1,decide_eq_true h2,decide_eq_true h3];simp;exact h
theorem D2r(w:World)(a:Option Addr)(n cap:Nat)(L:List KV)(hs:Ks w a n L)(hn:n<=65536)(hl:∀i:Nat,i<n->(kAt L i).s.length<=65536):Calls prog 43 #[.slice a n cap] w (gV L w):=by
 have hL:=hs.1;by_cases h0:n=0
 ·subst h0;have HR:=Z' (pE (L:=L) (.inl hL));clear hs hl;go_enter func43,ntmps43
  go_wp2_with fail
  go_ret;exact⟨by rw[HR.out];rfl,Z6⟩
 by_cases hm:1024<n
 ·have HR:=Z' (pE (L:=L) (.inr (by omega)));have e0:((n:Int)==0)=false:=by simp;omega
  have e1:decide ((1024:Int)<n)=true:=by simp;omega
  clear hs hl h0 hL;go_enter func43,ntmps43
  go_wp2_with fail
  go_ret;exact⟨by rw[HR.out];rfl,Z6⟩
 obtain⟨b,off,rfl,Zu,hk⟩:=hs.at 0 (by omega);have p0:=hk.c0;simp only[Nat.zero_mul,Nat.add_zero]at p0;have e0:((n:Int)==0)=false:=by simp;omega
 have e1:decide ((1024:Int)<n)=false:=by simp;omega
 have z0:0<n:=by omega
 by_cases ht:(kAt L 0).tag=0
 ·have Gv:w.cell? ⟨b,off,none⟩=some (.int .i64 0):=by rw[p0];rw[<-ht];rfl
  have HS:=Z' hs;have HT:=Z' ht;have Zd:=Z' hL;have HL:=Z' hl;clear hk p0 hs ht hl hL;go_enter func43,ntmps43
  go_wp2_with fail
  clear Gv
  go_loopg [22] n (fun gn i wr=>∃j:Nat,j<=n/\gn=n-j/\i= .int .i64 j/\Hid (∀k,k<j->xS L k=true)/\Hid (Below w.heap.size w wr))
  case atStart=>exact⟨0,by omega,by omega,by go_num,Z' (fun k h=>by omega),Z' Z6⟩
  obtain⟨j,hj,rfl,rfl,HP,HB⟩:=hrel;by_cases ZX:j<n
  ·obtain⟨b',off',he,_,hk⟩:=(HS.out.below HB.out).at j ZX
   cases he
   obtain⟨q0,q1,q2,q3,q4⟩:=hk;have LN:=Z' (fun w'=>E0b w' (kAt L j));have Y4:=Z' (fun w' (hw:Below w.heap.size w w')=>D5t w' (some ⟨b,off,none⟩) n cap L j (HS.out.below hw) hn ZX (HL.out j ZX));have Vk:=Z' (fun w' o1 o2=>D8w w' (kAt L j) (wk (kAt L j)) o1 o2);rw[D2a]at Vk;have RH:=Z' (iT (L:=L) j (by rw[Zd.out];exact ZX));have Lu:Hid (xS L j=(yM (kAt L j)&&yn L j)):=Z' rfl;generalize yM (kAt L j)=r1 at*;generalize yn L j=r2 at*;generalize UX:kV (wk (kAt L j))=vb at*;unfold kV at LN Vk;clear UX;generalize(kAt L j).tag=ct at*;generalize(kAt L j).a=ca at*;generalize(kAt L j).b=cb at*;generalize(kAt L j).n=cn at*;generalize(kAt L j).s=cs at*;have j1:(j:Int)<n:=by omega
   obtain⟨W0,rfl⟩:=Z8 (wr)
   go_upto_region 6 with fail
   have l0:=fun(x:Value) (k:Nat) (h:(#[Value.int .i64 ct,.int .i64 ca,.int .i64 cb,.int .i64 cn,.string ⟨cs.toArray⟩])[k]? =some x)=>(cell_of_row (W0.alloc (.cells #[Value.int .i64 ct,.int .i64 ca,.int .i64 cb,.int .i64 cn,.string ⟨cs.toArray⟩] 61)) W0.heap.size k _ _ _ (heap_alloc_last W0 _)).trans h
   have c0:=l0 _ 0 rfl;have c1:=l0 _ 1 rfl;have c2:=l0 _ 2 rfl;have c3:=l0 _ 3 rfl;have c4:=l0 _ 4 rfl;have ZM:=Z' (HB.out.alloc HB.out.size (.cells #[Value.int .i64 ct,.int .i64 ca,.int .i64 cb,.int .i64 cn,.string ⟨cs.toArray⟩] 61));clear l0 q0 q1 q2 q3 q4;generalize W0.alloc _=W at*;have d0:=fun w' (h:Below W.heap.size W w')=>yF h c0
   have d1:=fun w' (h:Below W.heap.size W w')=>yF h c1
   have d2:=fun w' (h:Below W.heap.size W w')=>yF h c2
   have d3:=fun w' (h:Below W.heap.size W w')=>yF h c3
   have d4:=fun w' (h:Below W.heap.size W w')=>yF h c4
   clear c0 c1 c2 c3 c4
   refine ye (Below W.heap.size W) (.stir [(0,true),(1,true),(2,false),(3,true),(4,true),(5,true),(6,true),(7,false),(8,true),(9,true)]) (by kernel_rfl) (by kernel_rfl) (fun c a d v w h=>by cases d<;>exact h) ?_
   refine yA (Below W.heap.size W) (fun _ h=>h) Z6.drew ?_
   cases r1
   ·have HR:=Z' (RH.out (by rw[Lu.out];rfl));clear RH Lu
    iterate 2
     refine yH fun K hK=>tkX ?_
     go_simp
     try go_bits
     refine hK _ ?_;clear hK K
    refine yH (fun K hK=> ?_);simp only[xy,List.getElem?_toArray,List.getElem?_cons_succ,List.getElem?_cons_zero];rw[if_pos (by rfl)];apply Exists.intro;refine⟨fun w' Y7=> ?_,?_⟩
    ·go_simp;exact xg.call (Calls.mono ((LN.out w')) fun e w'' h=>⟨h.1,(fun Zr=>Y7.trans (Zr.mono Y7.size)) h.2⟩)
    go_simp;refine hK _ ?_;clear hK K;refine yH (fun K hK=> ?_);simp only[xy,List.getElem?_toArray,List.getElem?_cons_succ,List.getElem?_cons_zero];rw[if_pos (by rfl)];refine⟨Value.bool (!false),fun w' Y7=> ?_,?_⟩
    ·exact jL (by rfl) (Vk.out w' _ _)
    go_simp;refine hK _ ?_;clear hK K
    iterate 1
     refine yH fun K hK=>tkX ?_
     go_simp
     try go_bits
     refine hK _ ?_;clear hK K
    iterate 4
     refine yH fun K hK=>skX ?_
     go_simp;refine hK _ ?_;clear hK K
    iterate 1
     refine yH fun K hK=>tkX ?_
     go_simp
     try go_bits
     refine hK _ ?_;clear hK K
    refine yE (fun y hy=> ?_);have HY:=Z7 ZM hy;clear hy d0 d1 d2 d3 d4 LN Y4 Vk
    go_wp2_with fail
    go_ret;exact⟨by rw[HR.out];rfl,HY.out⟩
   iterate 2
    refine yH fun K hK=>tkX ?_
    go_simp
    try go_bits
    refine hK _ ?_;clear hK K
   refine yH (fun K hK=> ?_);simp only[xy,List.getElem?_toArray,List.getElem?_cons_succ,List.getElem?_cons_zero];rw[if_pos (by rfl)];apply Exists.intro;refine⟨fun w' Y7=> ?_,?_⟩
   ·go_simp;exact xg.call (Calls.mono ((LN.out w')) fun e w'' h=>⟨h.1,(fun Zr=>Y7.trans (Zr.mono Y7.size)) h.2⟩)
   go_simp;refine hK _ ?_;clear hK K;refine yH (fun K hK=> ?_);simp only[xy,List.getElem?_toArray,List.getElem?_cons_succ,List.getElem?_cons_zero];rw[if_pos (by rfl)];refine⟨Value.bool (!true),fun w' Y7=> ?_,?_⟩
   ·exact jL (by rfl) (Vk.out w' _ _)
   go_simp;refine hK _ ?_;clear hK K
   iterate 3
    refine yH fun K hK=>tkX ?_
    go_simp
    try go_bits
    refine hK _ ?_;clear hK K
   refine yH (fun K hK=> ?_);simp only[xy,List.getElem?_toArray,List.getElem?_cons_succ,List.getElem?_cons_zero];rw[if_pos (by rfl)];apply Exists.intro;refine⟨fun w' Y7=> ?_,?_⟩
   ·go_simp;exact xg.call (Calls.mono ((Y4.out w' (ZM.out.trans (Y7.mono ZM.out.size)))) fun e w'' h=>⟨h.1,(fun Zr=>Y7.trans (Zr.mono Y7.size)) h.2⟩)
   go_simp;refine hK _ ?_;clear hK K
   cases r2
   ·have HR:=Z' (RH.out (by rw[Lu.out];rfl));clear RH Lu
    iterate 2
     refine yH fun K hK=>tkX ?_
     go_simp
     try go_bits
     refine hK _ ?_;clear hK K
    refine yE (fun y hy=> ?_);have HY:=Z7 ZM hy;clear hy d0 d1 d2 d3 d4 LN Y4 Vk
    go_wp2_with fail
    go_ret;exact⟨by rw[HR.out];rfl,HY.out⟩
   have HQ:=Z9 (∀k,k<j+1->xS L k=true) (fun k hk=>by
    rcases Nat.lt_or_ge k j with h|h
    ·exact HP.out k h
    obtain rfl:k=j:=by omega
    rw[Lu.out];rfl)
   clear RH Lu
   iterate 2
    refine yH fun K hK=>tkX ?_
    go_simp
    try go_bits
    refine hK _ ?_;clear hK K
   refine yE (fun y hy=> ?_);have HY:=Z7 ZM hy;clear hy d0 d1 d2 d3 d4 LN Y4 Vk
   go_wp2_with fail
   go_roundg (n-(j+1))
   case measure=>omega
   exact⟨j+1,by omega,rfl,by go_num,HQ,HY⟩
  obtain rfl:j=n:=by omega
  have HR:=Z' (jy (L:=L) (by rw[Zd.out];omega) (by rw[Zd.out];omega) HT.out (by rw[Zd.out];exact HP.out))
  go_wp2_with fail
  go_ret;exact⟨by rw[HR.out];rfl,HB.out⟩
 have HR:=Z' (iS (L:=L) ht);generalize(kAt L 0).tag=t at*;have e3:(t !=0)=true:=by simp[ht]
 clear hk ht hs hl;go_enter func43,ntmps43
 go_wp2_with fail
 go_ret;exact⟨by rw[HR.out];rfl,Z6⟩
end
section
open Go.RowKit
theorem uZ(L:List KV)(k:Nat)(h:k<L.length):kAt L (k:Int)=L[k]:=by
 unfold kAt;simp[List.getD,h]
end
section
open Go.ChangeShapes Go.WideShapes Go.ChangeAt Go.RowKit
structure KS where
 tag:Int
 a:Int
def KS.cells(s:KS):List Value:=[.int .i64 s.tag,.int .i64 s.a]
theorem KS.cells_length(s:KS):s.cells.length=2:=rfl
structure KT where
 fr:Int
 tt:Int
 pl:Int
 cl:Int
def KT.cells(t:KT):List Value:=[.int .i64 t.fr,.int .i64 t.tt,.int .i64 t.pl,.int .i64 t.cl]
theorem KT.cells_length(t:KT):t.cells.length=4:=rfl
structure KD where
 fl:Int
 nm:Int
 ds:Int
def KD.cells(d:KD):List Value:=[.int .i64 d.fl,.int .i64 d.nm,.int .i64 d.ds]
theorem KD.cells_length(d:KD):d.cells.length=3:=rfl
structure KP where
 pl:Int
 la:Option Addr
 ln:Nat
 lc:Nat
 loc:List KS
 sa:Option Addr
 sn:Nat
 sc:Nat
 stk:List KS
def KP.cells(p:KP):List Value:=[.int .i64 p.pl,.slice p.la p.ln p.lc,.slice p.sa p.sn p.sc]
theorem KP.cells_length(p:KP):p.cells.length=3:=rfl
structure KP.Rd(p:KP)(w:World):Prop where
 loc:Ss 2 KS.cells w p.la p.ln p.loc
 stk:Ss 2 KS.cells w p.sa p.sn p.stk
theorem KP.Rd.below{p:KP}{w w':World}(h:p.Rd w)(hb:Below w.heap.size w w'):p.Rd w':=⟨h.loc.below hb,h.stk.below hb⟩
structure KM where
 fl:Int
 nm:Int
 ds:Int
 st:Int
 lo:Int
 ca:Option Addr
 cn:Nat
 cc:Nat
 code:List UInt8
 ta:Option Addr
 tn:Nat
 tc:Nat
 traps:List KT
 ma:Option Addr
 mn:Nat
 mc:Nat
 maps:List KP
def KM.cells(m:KM):List Value:=[.int .i64 m.fl,.int .i64 m.nm,.int .i64 m.ds,.int .i64 m.st,.int .i64 m.lo,.slice m.ca m.cn m.cc,.slice m.ta m.tn m.tc,.slice m.ma m.mn m.mc]
theorem KM.cells_length(m:KM):m.cells.length=8:=rfl
structure KM.Rd(m:KM)(w:World):Prop where
 code:Sl yp w m.ca m.cn m.code
 cle:m.cn<=m.cc
 traps:Ss 4 KT.cells w m.ta m.tn m.traps
 maps:Ss 3 KP.cells w m.ma m.mn m.maps
 each:∀p∈m.maps,p.Rd w
theorem KM.Rd.below{m:KM}{w w':World}(h:m.Rd w)(hb:Below w.heap.size w w'):m.Rd w':=⟨h.code.below hb,h.cle,h.traps.below hb,h.maps.below hb,fun p hp=>(h.each p hp).below hb⟩
structure KF where
 pa:Option Addr
 pn:Nat
 pc:Nat
 pool:List KV
 th:Int
 su:Int
 fa:Option Addr
 fn:Nat
 fc:Nat
 fields:List KD
 ma:Option Addr
 mn:Nat
 mc:Nat
 methods:List KM
def KF.cells(f:KF):List Value:=[.slice f.pa f.pn f.pc,.int .i64 f.th,.int .i64 f.su,.slice f.fa f.fn f.fc,.slice f.ma f.mn f.mc]
structure KF.Rd(f:KF)(w:World):Prop where
 pool:Ks w f.pa f.pn f.pool
 fields:Ss 3 KD.cells w f.fa f.fn f.fields
 methods:Ss 8 KM.cells w f.ma f.mn f.methods
 each:∀m∈f.methods,m.Rd w
theorem KF.Rd.below{f:KF}{w w':World}(h:f.Rd w)(hb:Below w.heap.size w w'):f.Rd w':=⟨h.pool.below hb,h.fields.below hb,h.methods.below hb,fun m hm=>(h.each m hm).below hb⟩
def wR(s:List UInt8)(c:KV):Bool:=decide (c.tag=1/\c.s=s)
def xm(L:List KV)(s:List UInt8):Nat:=(L.findIdx? (wR s)).getD 0
theorem D9i{L:List KV}{s:List UInt8}(h:∀k,k<L.length->wR s (kAt L k)=false):xm L s=0:=by
 unfold xm
 rw[List.findIdx?_eq_none_iff.2 (fun x hx=>by
  obtain⟨i,hi,rfl⟩:=List.getElem_of_mem hx;rw[<-uZ L i hi];exact h i hi)]
 rfl
theorem D7v{L:List KV}{s:List UInt8}(j:Nat)(hj:j<L.length)(h:∀k,k<j->wR s (kAt L k)=false)(ht:wR s (kAt L j)=true):xm L s=j:=by
 unfold xm;rw[List.findIdx?_eq_some_iff_getElem.2 ⟨hj,by rw[<-uZ L j hj];exact ht,fun k hk=>by rw[<-uZ L k (by omega),h k hk];decide⟩];rfl
def clsOk(L:List KV)(i:Int):Bool:=(yQ L i).2
def wT(L:List KV)(s:KS):Bool:=if s.tag=7 then clsOk L s.a else decide (s.tag=0\/s.tag=1\/s.tag=4\/s.tag=5)&&decide (s.a=0)
def vx(L:List KV)(most:Int)(l:List KS):Bool:=decide ((l.length:Int)<=most)&&l.all (wT L)
def xK(L:List KV)(fl nm ds:Int):Bool:=decide (fl=0\/fl=8)&&isT L nm 1&&isT L ds 1
def xe(n:Int):Bool:=decide (0<=n/\n<=65535)
def we(L:List KV)(t:KT):Bool:=[t.fr,t.tt,t.pl].all xe&&(decide (t.cl=0)||clsOk L t.cl)
def xc(L:List KV)(p:KP):Bool:=xe p.pl&&vx L 64 p.loc&&vx L 64 p.stk
def wJ:List UInt8:=[67,111,100,101]
def wH:List UInt8:=[83,116,97,99,107,77,97,112]
def sZ(m:KM):Bool:=decide (0<=m.st/\m.st<=64/\0<=m.lo/\m.lo<=64)
def ur(m:KM):Bool:=decide (0<m.code.length/\m.code.length<=4096/\m.traps.length<=255/\m.maps.length<=255)
def tT(L:List KV)(m:KM):Bool:=decide (0<xm L wJ/\(m.maps.length=0\/0<xm L wH))
def xF(L:List KV)(m:KM):Bool:=xK L m.fl m.nm m.ds&&sZ m&&ur m&&m.traps.all (we L)&&m.maps.all (xc L)&&tT L m
def xn(f:KF):Bool:=xP f.pool&&clsOk f.pool f.th&&(decide (f.su=0)||clsOk f.pool f.su)&&decide (f.fields.length<=64/\f.methods.length<=64)&&
 f.fields.all (fun d=>xK f.pool d.fl d.nm d.ds)&&f.methods.all (xF f.pool)
theorem tX{α:Type}(p:α->Bool)(l:List α)(j:Nat)(x:α)(h:l[j]? =some x):(l.take (j+1)).all p=((l.take j).all p&&p x):=by
 obtain⟨hj,he⟩:=Z4 h;rw[List.take_succ_eq_append_getElem hj,List.all_append,he];simp
theorem Ss.getC{α:Type}{z:Nat}{enc:α->List Value}{w:World}{a:Option Addr}{n:Nat}{xs:List α}(h:Ss z enc w a n xs)(j:Nat)(hj:j<n):∃b off x,a=some ⟨b,off,none⟩/\b<w.heap.size/\xs[j]? =some x/\∀i,i<z->w.cell? ⟨b,off+j*z+i,none⟩=(enc x)[i]? :=by
 obtain⟨b,off,ha,ZX,hc⟩:=h.2 (by omega);have hl:j<xs.length:=by rw[h.1];exact hj
 exact⟨b,off,xs[j],ha,ZX,List.getElem?_eq_getElem hl,hc j hl⟩
theorem D7k{s:List UInt8}{c:KV}(h:c.tag=1):wR s c=decide (c.s=s):=by unfold wR;simp[h]
theorem D8q{s:List UInt8}{c:KV}(h:c.tag≠1):wR s c=false:=by unfold wR;simp[h]
theorem D5y(w:World)(c:KV)(s:List UInt8)(g:Nat)(hg:w.heap[g]? =some (.cells #[.string ⟨s.toArray⟩] 9)):
  Calls prog 138 #[kV c,.pointer (some ⟨g,0,none⟩)] w (yS (wR s c) w):=by
 obtain⟨ct,ca,cb,cn,cs⟩:=c;have lt:=yG hg;have q0:=y8 hg 0 rfl;have ZF:w.heap.size≠g:=by omega
 have q0':(w.alloc (.cells #[.int .i64 ct,.int .i64 ca,.int .i64 cb,.int .i64 cn,.string ⟨cs.toArray⟩] 61)).cell? ⟨g,0,none⟩=some (.string ⟨s.toArray⟩):=yF (yV _ _) q0;by_cases h:ct=1
 ·subst h;rw[D7k rfl];unfold kV;clear hg;go_enter func138,ntmps138
  go_wp2_with fail
  go_ret;exact⟨by show _=Ending.returned (.bool (decide (cs=s)));congr 2;by_cases h:cs=s<;>simp[h],yV _ _⟩
 rw[D8q h];unfold kV;have e1:(ct==1)=false:=by simp[h]
 clear hg h;go_enter func138,ntmps138
 go_wp2_with fail
 go_ret;exact⟨rfl,yV _ _⟩
def r6(L:List KV)(s:List UInt8):Int:=match L.findIdx? (wR s)with|some j=>(j:Int)|none=> -1
theorem D2n(L:List KV)(s:List UInt8):(xm L s:Int)=max (r6 L s) 0:=by
 unfold xm r6
 cases L.findIdx? (wR s)<;>simp<;>omega
theorem E4a{L:List KV}{s:List UInt8}(h:∀k,k<L.length->wR s (kAt L k)=false):r6 L s= -1:=by
 unfold r6
 rw[List.findIdx?_eq_none_iff.2 (fun x hx=>by
  obtain⟨i,hi,rfl⟩:=List.getElem_of_mem hx;rw[<-uZ L i hi];exact h i hi)]
theorem E4k{L:List KV}{s:List UInt8}(j:Nat)(hj:j<L.length)(h:∀k,k<j->wR s (kAt L k)=false)(ht:wR s (kAt L j)=true):r6 L s=j:=by
 unfold r6;rw[List.findIdx?_eq_some_iff_getElem.2 ⟨hj,by rw[<-uZ L j hj];exact ht,fun k hk=>by rw[<-uZ L k (by omega),h k hk];decide⟩]
theorem D6d(w:World)(a:Option Addr)(n cap:Nat)(L:List KV)(s:List UInt8)(g:Nat)(hs:Ks w a n L)(hn:n<=65536)(hg:w.heap[g]? =some (.cells #[.string ⟨s.toArray⟩] 9)):
  Calls prog 137 #[.slice a n cap,.func (.func 138) #[] #[.pointer (some ⟨g,0,none⟩)]] w fun e w'=>e= .returned (.int .i64 (r6 L s))/\Below w.heap.size w w':=by
 have HS:=Z' hs;have Zd:=Z' hs.1;have HG:=Z' hg;clear hs hg;go_enter func137,ntmps137
 go_wp2_with fail
 go_loopg [8] n (fun gn i wr=>∃j:Nat,j<=n/\gn=n-j/\i= .int .i64 j/\Hid (∀k,k<j->wR s (kAt L k)=false)/\Hid (Below w.heap.size w wr))
 case atStart=>exact⟨0,by omega,by omega,by go_num,Z' (fun k h=>by omega),Z' Z6⟩
 obtain⟨j,hj,rfl,rfl,HP,HB⟩:=hrel;by_cases ZX:j<n
 ·obtain⟨b,off,rfl,_,hk⟩:=(HS.out.below HB.out).at j ZX;obtain⟨q0,q1,q2,q3,q4⟩:=hk;have HC:=Z' (D5y wr (kAt L j) s g (yW HG.out HB.out));have Be:=Z' (E4k (L:=L) (s:=s) j (by rw[Zd.out];exact ZX) HP.out)
  have zk:=Z9 (wR s (kAt L j)=false->∀k,k<j+1->wR s (kAt L k)=false) (fun h k hk=>by
   rcases Nat.lt_or_ge k j with hkj|hkj
   ·exact HP.out k hkj
   have:k=j:=by omega
   subst this;exact h)
  generalize wR s (kAt L j)=tx at*;unfold kV at HC;generalize(kAt L j).tag=ct at*;generalize(kAt L j).a=ca at*;generalize(kAt L j).b=cb at*;generalize(kAt L j).n=cn at*;generalize(kAt L j).s=cs at*;have XZ:(j:Int)<n:=by omega
  go_wp2_with fail
  refine HC.out.mono ?_;rintro e w1 ⟨rfl,hb⟩;have ZM:=Z7 HB hb;clear hb q0 q1 q2 q3 q4 HC
  cases tx
  ·go_wp2_with fail
   go_roundg (n-(j+1))
   case measure=>omega
   exact⟨j+1,by omega,rfl,by go_num,Z' (zk.out (by simp)),ZM⟩
  go_wp2_with fail
  go_ret;exact⟨by rw[Be.out (by simp)];rfl,ZM.out⟩
 obtain rfl:j=n:=by omega
 have HN:=Z' (E4a (L:=L) (s:=s) (by rw[Zd.out];exact HP.out))
 go_wp2_with fail
 go_ret;exact⟨by rw[HN.out];rfl,HB.out⟩
theorem fQ(w:World)(a:Option Addr)(n cap:Nat)(L:List KV)(s:List UInt8)(hs:Ks w a n L)(hn:n<=65536):
  Calls prog 92 #[.slice a n cap,.string ⟨s.toArray⟩] w fun e w'=>e= .returned (.int .i64 (xm L s))/\Below w.heap.size w w':=by
 have ZQ:Below w.heap.size w (w.alloc (.cells #[.string ⟨s.toArray⟩] 9)):=yV _ _;have HC:=Z' (D6d (w.alloc (.cells #[.string ⟨s.toArray⟩] 9)) a n cap L s w.heap.size (hs.below ZQ) hn (heap_alloc_last w _));have HM:=Z' (D2n L s);have HB:=Z' ZQ;clear hs ZQ;go_enter func92,ntmps92
 go_wp2_with fail
 refine HC.out.mono ?_;rintro e w1 ⟨rfl,hb⟩;have ZM:=Z7 HB hb;clear hb HC;generalize r6 L s=r at*;by_cases hr:r<0
 ·have HR:=Z' (show(xm L s:Int)=0 by have:=HM.out;omega)
  go_wp2_with fail
  go_ret
  exact⟨by first|(rw[HR.out];rfl)|(rw[HM.out];rfl),ZM.out⟩
 have HR:=Z' (show(xm L s:Int)=r by have:=HM.out;omega)
 go_wp2_with fail
 go_ret
 exact⟨by first|(rw[HR.out];rfl)|(rw[HM.out];rfl),ZM.out⟩
def pR(v:Int):Value:= .int .i64 v
theorem Ss.keep1{α:Type}{z:Nat}{enc:α->List Value}{g:Nat}{w w':World}{x:Option Addr}{n:Nat}{xs:List α}(hs:Ss z enc w x n xs)(h:xV g w w')(h1:wX x n g):Ss z enc w' x n xs:=by
 refine⟨hs.1,fun hn=> ?_⟩;obtain⟨b,off,ha,ZX,hc⟩:=hs.2 hn;refine⟨b,off,ha,Nat.lt_of_lt_of_le ZX h.size,fun i hi j hj=> ?_⟩;rw[<-hc i hi j hj];unfold World.cell?;rw[h.block b ZX (h1 hn b off ha)]
theorem wX.oldS{α:Type}{z:Nat}{enc:α->List Value}{w:World}{x:Option Addr}{n g:Nat}{xs:List α}(h:Ss z enc w x n xs)(hg:w.heap.size<=g):wX x n g:=by
 intro hn b off hx;obtain⟨b',off',VG,ZX,_⟩:=h.2 hn;rw[hx]at VG;simp only[Option.some.injEq,Addr.mk.injEq]at VG;omega
structure LkS(w:World)(g:Nat)(a:Option Addr)(n cap:Nat)(L:List KV)(odd:Bool):Prop where
 k:wW w g (.slice a n cap) (.bool odd) 106
 ks:Ks w a n L
 sm:n<=65536
 off:wX a n g
theorem LkS.below{w w':World}{g:Nat}{a:Option Addr}{n cap:Nat}{L:List KV}{odd:Bool}(h:LkS w g a n cap L odd)(hb:Below w.heap.size w w'):LkS w' g a n cap L odd:=⟨h.k.below hb,h.ks.below hb,h.sm,h.off⟩
theorem LkS.lt{w:World}{g:Nat}{a:Option Addr}{n cap:Nat}{L:List KV}{odd:Bool}(h:LkS w g a n cap L odd):g<w.heap.size:=h.k.box.lt
def rE(g:Nat)(a:Option Addr)(n cap:Nat)(L:List KV)(odd:Bool)(w:World)(e:Ending)(w':World):Prop:=e= .returned (.tuple #[])/\LkS w' g a n cap L odd/\xV g w w'
theorem wP(w:World)(g:Nat)(a:Option Addr)(n cap:Nat)(L:List KV)(odd ok:Bool)(h:LkS w g a n cap L odd):
  Calls prog 45 #[.pointer (some ⟨g,0,none⟩),.bool ok] w (rE g a n cap L (odd|| !ok) w):=by
 have H:=Z' h;obtain⟨c0,c1,f0,f1,lt⟩:=h.k.box;clear h
 cases odd
 ·go_enter func45,ntmps45
  go_wp2_with fail
  go_end0;exact⟨rfl,⟨H.out.k.set1,Ss.keep1 H.out.ks ((xV.refl g w).set 1 _) H.out.off,H.out.sm,H.out.off⟩,(xV.refl g w).set 1 _⟩
 go_enter func45,ntmps45
 go_wp2_with fail
 go_end0;exact⟨rfl,⟨H.out.k.set1,Ss.keep1 H.out.ks ((xV.refl g w).set 1 _) H.out.off,H.out.sm,H.out.off⟩,(xV.refl g w).set 1 _⟩
theorem pD(w:World)(g:Nat)(a:Option Addr)(n cap:Nat)(L:List KV)(odd:Bool)(i:Int)(h:LkS w g a n cap L odd):
  Calls prog 44 #[.pointer (some ⟨g,0,none⟩),.int .i64 i] w (rE g a n cap L (odd|| !clsOk L i) w):=by
 have HC:=Z' (mQ w a n cap L i h.ks h.sm);have HN:=Z' (wP w g a n cap L odd (clsOk L i) h);unfold uK at HC;unfold clsOk at HN⊢;generalize(yQ L i).1=s1 at*;generalize(yQ L i).2=b1 at*;obtain⟨c0,c1,f0,f1,lt⟩:=h.k.box;clear h;go_enter func44,ntmps44
 go_wp2_with fail
 refine HC.out.mono ?_;rintro e w' ⟨rfl,rfl⟩
 go_wp2_with fail
 refine HN.out.mono ?_;rintro e w' ⟨rfl,h1,h2⟩
 go_wp2_with fail
 go_end0;exact⟨rfl,h1,h2⟩
theorem ij(w:World)(g:Nat)(a:Option Addr)(n cap:Nat)(L:List KV)(odd:Bool)(i:Int)(h:LkS w g a n cap L odd):
  Calls prog 89 #[.pointer (some ⟨g,0,none⟩),.int .i64 i] w (rE g a n cap L (odd|| !isT L i 1) w):=by
 have HC:=Z' (qq w a n cap L i h.ks h.sm);have HN:=Z' (wP w g a n cap L odd (isT L i 1) h);unfold uJ at HC;generalize yN L i=s1 at*;generalize isT L i 1=b1 at*;obtain⟨c0,c1,f0,f1,lt⟩:=h.k.box;clear h;go_enter func89,ntmps89
 go_wp2_with fail
 refine HC.out.mono ?_;rintro e w' ⟨rfl,rfl⟩
 go_wp2_with fail
 refine HN.out.mono ?_;rintro e w' ⟨rfl,h1,h2⟩
 go_wp2_with fail
 go_end0;exact⟨rfl,h1,h2⟩
structure yZ(p:Nat->Prop)(w w':World):Prop where
 os:w'.os=w.os
 tape:w'.tape=w.tape
 output:w'.output=w.output
 size:w.heap.size<=w'.heap.size
 block:∀k,k<w.heap.size->¬p k->w'.heap[k]? =w.heap[k]?
theorem yZ.refl(p:Nat->Prop)(w:World):yZ p w w:=⟨rfl,rfl,rfl,Nat.le_refl _,fun _ _ _=>rfl⟩
theorem yZ.trans{p:Nat->Prop}{w w1 w2:World}(h:yZ p w w1)(k:yZ p w1 w2):yZ p w w2:=
 ⟨k.os.trans h.os,k.tape.trans h.tape,k.output.trans h.output,Nat.le_trans h.size k.size,fun i hi hg=>by rw[k.block i (Nat.lt_of_lt_of_le hi h.size) hg,h.block i hi hg]⟩
theorem yZ.of{p:Nat->Prop}{w w1:World}(h:Below w.heap.size w w1):yZ p w w1:=⟨h.os,h.tape,h.output,h.size,fun k hk _=>h.block k hk⟩
theorem yZ.weak{p q:Nat->Prop}{w w1:World}(h:yZ p w w1)(G7:∀k,k<w.heap.size->p k->q k):yZ q w w1:=⟨h.os,h.tape,h.output,h.size,fun k hk hq=>h.block k hk (fun hp=>hq (G7 k hk hp))⟩
theorem yZ.set{p:Nat->Prop}{w w1:World}(h:yZ p w w1){g:Nat}(hg:p g\/w.heap.size<=g)(o:Nat)(v:Value):yZ p w (w1.setCell ⟨g,o,none⟩ v):=
 ⟨h.os,h.tape,h.output,by have:=h.size;unfold World.setCell;simpa using this,fun k hk hq=>by
  rw[<-h.block k hk hq];unfold World.setCell
  have ZF:¬g=k:=by
   rintro rfl
   rcases hg with h1|h1
   ·exact hq h1
   omega
  simp[Array.getElem?_modify,ZF]⟩
theorem yZ.setg{w w1:World}{g:Nat}(h:yZ (fun x=>x=g) w w1)(o:Nat)(v:Value):yZ (fun x=>x=g) w (w1.setCell ⟨g,o,none⟩ v):=yZ.set h (Or.inl (rfl:g=g)) o v
theorem yZ.below{p:Nat->Prop}{B:Nat}{w0 w w':World}(h:yZ p w w')(hb:Below B w0 w)(hB:B<=w0.heap.size)(hp:∀k,p k->B<=k):Below B w0 w':=
 ⟨h.os.trans hb.os,h.tape.trans hb.tape,h.output.trans hb.output,Nat.le_trans hb.size h.size,fun k hk=>by
  rw[h.block k (Nat.lt_of_lt_of_le (Nat.lt_of_lt_of_le hk hB) hb.size) (fun X7=>by have:=hp k X7;omega)];exact hb.block k hk⟩
theorem yZ.row{p:Nat->Prop}{w w':World}(h:yZ p w w'){g:Nat}{o:Obj}(hg:w.heap[g]? =some o)(hp:¬p g):w'.heap[g]? =some o:=by
 rw[h.block g (Array.getElem?_eq_some_iff.1 hg).1 hp];exact hg
theorem yZ.ss{p:Nat->Prop}{α:Type}{z:Nat}{enc:α->List Value}{w w':World}{x:Option Addr}{n:Nat}{xs:List α}(h:yZ p w w')(hs:Ss z enc w x n xs)(h1:0<n->∀b off,x=some ⟨b,off,none⟩->¬p b):Ss z enc w' x n xs:=by
 refine⟨hs.1,fun hn=> ?_⟩;obtain⟨b,off,ha,ZX,hc⟩:=hs.2 hn;refine⟨b,off,ha,Nat.lt_of_lt_of_le ZX h.size,fun i hi j hj=> ?_⟩;rw[<-hc i hi j hj];unfold World.cell?;rw[h.block b ZX (h1 hn b off ha)]
theorem yZ.vw{p:Nat->Prop}{w w':World}(h:yZ p w w')(hv:VW w)(h0:¬p 0):VW w':=by
 obtain⟨m,hm⟩:=hv;refine⟨m,?_⟩
 have ZX:0<w.heap.size:=by
  rcases Nat.eq_zero_or_pos w.heap.size with h1|h1
  ·exfalso;have:w.heap[0]? =none:=Array.getElem?_eq_none (by omega);simp[World.cell?,this]at hm
  exact h1
 rw[<-hm];unfold World.cell?;rw[h.block 0 ZX h0]
def wV(x y:World):Prop:=y=x
def yj(er:Int)(ok:Bool)(k:Int):Int:=if ok=false/\er=0 then k else er
structure LfS(w:World)(g:Nat)(a:Option Addr)(n cap:Nat)(L:List KV)(er:Int):Prop where
 k:wW w g (.slice a n cap) (.int .i64 er) 72
 ks:Ks w a n L
 sm:n<=65536
 off:wX a n g
 tx:∀i:Int,(kAt L i).s.length<=65536
 vw:VW w
 g0:0<g
theorem LfS.below{w w':World}{g:Nat}{a:Option Addr}{n cap:Nat}{L:List KV}{er:Int}(h:LfS w g a n cap L er)(hb:Below w.heap.size w w'):LfS w' g a n cap L er:=⟨h.k.below hb,h.ks.below hb,h.sm,h.off,h.tx,h.vw.below hb,h.g0⟩
theorem LfS.keep{p:Nat->Prop}{w w':World}{g:Nat}{a:Option Addr}{n cap:Nat}{L:List KV}{er:Int}(h:LfS w g a n cap L er)(hk:yZ p w w')(hg:¬p g)(h0:¬p 0)(ha:0<n->∀b off,a=some ⟨b,off,none⟩->¬p b):LfS w' g a n cap L er:=
 ⟨hk.row h.k hg,hk.ss h.ks ha,h.sm,h.off,h.tx,hk.vw h.vw h0,h.g0⟩
theorem LfS.lt{w:World}{g:Nat}{a:Option Addr}{n cap:Nat}{L:List KV}{er:Int}(h:LfS w g a n cap L er):g<w.heap.size:=h.k.box.lt
theorem LfS.set{w:World}{g:Nat}{a:Option Addr}{n cap:Nat}{L:List KV}{er:Int}(h:LfS w g a n cap L er)(e2:Int):LfS (w.setCell ⟨g,1,none⟩ (.int .i64 e2)) g a n cap L e2:=by
 have hk:yZ (·=g) w (w.setCell ⟨g,1,none⟩ (.int .i64 e2)):=(yZ.refl _ _).setg 1 _;exact⟨h.k.set1,hk.ss h.ks (fun hn b off e=>h.off hn b off e),h.sm,h.off,h.tx,hk.vw h.vw (fun e=>by have:=h.g0;omega),h.g0⟩
def kk(v:Value)(g:Nat)(a:Option Addr)(n cap:Nat)(L:List KV)(er:Int)(w:World)(e:Ending)(w':World):Prop:=e= .returned v/\LfS w' g a n cap L er/\yZ (·=g) w w'
theorem ua{L:List KV}(h:∀i:Int,(kAt L i).s.length<=65536)(i:Int):(yN L i).length<=65536:=by
 unfold yN;split
 ·exact h i
 simp
theorem uj{L:List KV}(h:∀i:Int,(kAt L i).s.length<=65536)(i:Int):(yQ L i).1.length<=65536:=by
 unfold yQ;split
 ·exact ua h _
 simp
theorem pN{L:List KV}(h:∀i:Int,(kAt L i).s.length<=65536)(i t:Int):(xu L i t).1.length<=65536/\(xu L i t).2.1.length<=65536/\(xu L i t).2.2.1.length<=65536:=by
 unfold xu;split
 ·exact⟨uj h _,ua h _,ua h _⟩
 simp
theorem tH(w:World)(g:Nat)(a:Option Addr)(n cap:Nat)(L:List KV)(er:Int)(ok:Bool)(k:Int)(h:LfS w g a n cap L er):
  Calls prog 22 #[.pointer (some ⟨g,0,none⟩),.bool ok,.int .i64 k] w (kk (.tuple #[]) g a n cap L (yj er ok k) w):=by
 have H:=Z' h;obtain⟨c0,c1,f0,f1,lt⟩:=h.k.box;clear h
 cases ok
 ·by_cases h0:er=0
  ·have e0:(er==0)=true:=by simpa using h0
   have HE:=Z' (show yj er false k=k by unfold yj;rw[if_pos ⟨rfl,h0⟩]);generalize yj er false k=E at*;obtain rfl:E=k:=HE.out;clear HE h0;go_enter func22,ntmps22
   go_wp2_with fail
   go_end0;exact⟨rfl,H.out.set E,(yZ.refl _ _).setg 1 _⟩
  have e0:(er==0)=false:=by simpa using h0
  have HE:yj er false k=er:=by unfold yj;rw[if_neg (fun h=>h0 h.2)]
  rw[HE];clear HE h0;go_enter func22,ntmps22
  go_wp2_with fail
  go_end0;exact⟨rfl,H.out,yZ.refl _ _⟩
 have HE:yj er true k=er:=by unfold yj;rw[if_neg (fun h=>absurd h.1 (by decide))]
 rw[HE];clear HE;go_enter func22,ntmps22
 go_wp2_with fail
 go_end0;exact⟨rfl,H.out,yZ.refl _ _⟩
theorem qw(w:World)(g:Nat)(a:Option Addr)(n cap:Nat)(L:List KV)(er i:Int)(h:LfS w g a n cap L er):
  Calls prog 21 #[.pointer (some ⟨g,0,none⟩),.int .i64 i] w fun e w'=>e= .returned (.string ⟨(yN L i).toArray⟩)/\w'=w:=by
 have HT:=Z' (qq w a n cap L i h.ks h.sm);unfold uJ at HT;obtain⟨c0,c1,f0,f1,lt⟩:=h.k.box;generalize yN L i=s at*;generalize isT L i 1=b at*;clear h;go_enter func21,ntmps21
 go_wp2_with fail
 refine HT.out.mono ?_;rintro e w' ⟨rfl,rfl⟩
 go_wp2_with fail
 go_ret;exact⟨rfl,rfl⟩
def aclsB(L:List KV)(i:Int)(arr:Bool):Bool:=(yQ L i).2&&(classB (yQ L i).1||(arr&&x6 (yQ L i).1))
theorem qD(w:World)(g:Nat)(a:Option Addr)(n cap:Nat)(L:List KV)(er i:Int)(arr:Bool)(h:LfS w g a n cap L er):
  Calls prog 20 #[.pointer (some ⟨g,0,none⟩),.int .i64 i,.bool arr] w (kk (.string ⟨(yQ L i).1.toArray⟩) g a n cap L (yj er (aclsB L i arr) 8) w):=by
 have HC:=Z' (mQ w a n cap L i h.ks h.sm);have HN:=Z' (fun W ok (hb:Below w.heap.size w W)=>tH W g a n cap L er ok 8 (h.below hb));have VT:=uj h.tx i;have HI:=Z' (fun W (hb:Below w.heap.size w W)=>qH W (yQ L i).1 (by omega) (h.vw.below hb));have HA:=Z' (fun W (hb:Below w.heap.size w W)=>pM W (yQ L i).1 VT (h.vw.below hb));have Zp:=Z' (Below.refl w.heap.size w);unfold uK at HC;have HR:aclsB L i arr=((yQ L i).2&&(classB (yQ L i).1||(arr&&x6 (yQ L i).1))):=rfl;generalize aclsB L i arr=R at*;generalize classB (yQ L i).1=x1 at*;generalize x6 (yQ L i).1=x2 at*;generalize(yQ L i).1=s1 at*;generalize(yQ L i).2=b1 at*;obtain⟨c0,c1,f0,f1,lt⟩:=h.k.box;clear h
 cases b1
 ·have hR:R=false:=HR;subst hR;clear HR;go_enter func20,ntmps20
  go_wp2_with fail
  refine HC.out.mono ?_;rintro e w1 ⟨rfl,rfl⟩
  go_wp2_with fail
  refine(HN.out w false Zp.out).mono ?_;rintro e w2 ⟨rfl,hs,hk⟩
  go_wp2_with fail
  go_ret;exact⟨rfl,hs,hk⟩
 cases x1
 ·cases arr
  ·have hR:R=false:=HR;subst hR;clear HR;go_enter func20,ntmps20
   go_wp2_with fail
   refine HC.out.mono ?_;rintro e w1 ⟨rfl,rfl⟩
   go_wp2_with fail
   refine(HI.out w Zp.out).mono ?_;rintro e w2 ⟨rfl,ZN⟩;have ZT:=Z' ZN;clear ZN
   go_wp2_with fail
   refine(HN.out w2 false ZT.out).mono ?_;rintro e w3 ⟨rfl,hs,hk⟩
   go_wp2_with fail
   go_ret;exact⟨rfl,hs,(yZ.of ZT.out).trans hk⟩
  have hR:R=x2:=HR;subst hR;clear HR;go_enter func20,ntmps20
  go_wp2_with fail
  refine HC.out.mono ?_;rintro e w1 ⟨rfl,rfl⟩
  go_wp2_with fail
  refine(HI.out w Zp.out).mono ?_;rintro e w2 ⟨rfl,ZN⟩;have ZT:=Z' ZN;clear ZN
  go_wp2_with fail
  refine(HA.out w2 ZT.out).mono ?_;rintro e w3 ⟨rfl,Zn⟩;have ZG:=Z7 ZT Zn;clear Zn
  go_wp2_with fail
  refine(HN.out w3 R ZG.out).mono ?_;rintro e w4 ⟨rfl,hs,hk⟩
  go_wp2_with fail
  go_ret;exact⟨rfl,hs,(yZ.of ZG.out).trans hk⟩
 have hR:R=true:=HR;subst hR;clear HR;go_enter func20,ntmps20
 go_wp2_with fail
 refine HC.out.mono ?_;rintro e w1 ⟨rfl,rfl⟩
 go_wp2_with fail
 refine(HI.out w Zp.out).mono ?_;rintro e w2 ⟨rfl,ZN⟩;have ZT:=Z' ZN;clear ZN
 go_wp2_with fail
 refine(HN.out w2 true ZT.out).mono ?_;rintro e w3 ⟨rfl,hs,hk⟩
 go_wp2_with fail
 go_ret;exact⟨rfl,hs,(yZ.of ZT.out).trans hk⟩
structure IN where
 op:Nat
 n:Int
 m:Int
 cl:List UInt8
 nm:List UInt8
 ds:List UInt8
 tx:List UInt8
abbrev yU:=54
def IN.cells(x:IN):List Value:=[.int .u8 (x.op:Nat),.int .i64 x.n,.int .i64 x.m,.string ⟨x.cl.toArray⟩,.string ⟨x.nm.toArray⟩,.string ⟨x.ds.toArray⟩,.string ⟨x.tx.toArray⟩]
theorem IN.cells_length(x:IN):x.cells.length=7:=rfl
def yJ(g:Nat)(x:IN)(w:World):Prop:=w.heap[g]? =some (.cells x.cells.toArray yU (0,0))
structure E8t(w:World)(g:Nat)(x:IN):Prop where
 c0:w.cell? ⟨g,0,none⟩=some (.int .u8 (x.op:Nat))
 c1:w.cell? ⟨g,1,none⟩=some (.int .i64 x.n)
 c2:w.cell? ⟨g,2,none⟩=some (.int .i64 x.m)
 c3:w.cell? ⟨g,3,none⟩=some (.string ⟨x.cl.toArray⟩)
 c4:w.cell? ⟨g,4,none⟩=some (.string ⟨x.nm.toArray⟩)
 c5:w.cell? ⟨g,5,none⟩=some (.string ⟨x.ds.toArray⟩)
 c6:w.cell? ⟨g,6,none⟩=some (.string ⟨x.tx.toArray⟩)
 f1:w.frozen? ⟨g,1,none⟩=false
 f2:w.frozen? ⟨g,2,none⟩=false
 f3:w.frozen? ⟨g,3,none⟩=false
 f4:w.frozen? ⟨g,4,none⟩=false
 f5:w.frozen? ⟨g,5,none⟩=false
 f6:w.frozen? ⟨g,6,none⟩=false
theorem yJ.box{g:Nat}{x:IN}{w:World}(h:yJ g x w):E8t w g x:=
 ⟨y8 h 0 rfl,y8 h 1 rfl,y8 h 2 rfl,y8 h 3 rfl,y8 h 4 rfl,y8 h 5 rfl,y8 h 6 rfl,xQ h 1,xQ h 2,xQ h 3,xQ h 4,xQ h 5,xQ h 6⟩
theorem yJ.lt{g:Nat}{x:IN}{w:World}(h:yJ g x w):g<w.heap.size:=yG h
theorem yJ.below{g:Nat}{x:IN}{w w':World}(h:yJ g x w)(hb:Below w.heap.size w w'):yJ g x w':=yW h hb
theorem yJ.keep{p:Nat->Prop}{g:Nat}{x:IN}{w w':World}(h:yJ g x w)(hk:yZ p w w')(hp:¬p g):yJ g x w':=hk.row h hp
theorem yJ.set1{g:Nat}{x:IN}{w:World}(h:yJ g x w)(v:Int):yJ g {x with n:=v} (w.setCell ⟨g,1,none⟩ (.int .i64 v)):=wZ h 1 _
theorem yJ.set2{g:Nat}{x:IN}{w:World}(h:yJ g x w)(v:Int):yJ g {x with m:=v} (w.setCell ⟨g,2,none⟩ (.int .i64 v)):=wZ h 2 _
theorem yJ.set3{g:Nat}{x:IN}{w:World}(h:yJ g x w)(v:List UInt8):yJ g {x with cl:=v} (w.setCell ⟨g,3,none⟩ (.string ⟨v.toArray⟩)):=wZ h 3 _
theorem yJ.set4{g:Nat}{x:IN}{w:World}(h:yJ g x w)(v:List UInt8):yJ g {x with nm:=v} (w.setCell ⟨g,4,none⟩ (.string ⟨v.toArray⟩)):=wZ h 4 _
theorem yJ.set5{g:Nat}{x:IN}{w:World}(h:yJ g x w)(v:List UInt8):yJ g {x with ds:=v} (w.setCell ⟨g,5,none⟩ (.string ⟨v.toArray⟩)):=wZ h 5 _
theorem yJ.set6{g:Nat}{x:IN}{w:World}(h:yJ g x w)(v:List UInt8):yJ g {x with tx:=v} (w.setCell ⟨g,6,none⟩ (.string ⟨v.toArray⟩)):=wZ h 6 _
def xG(L:List KV)(x:IN)(at_:Nat):IN:=
 if(kAt L at_).tag=3 then{x with ds:=[73],n:=(kAt L at_).n}
 else if(kAt L at_).tag=5 then{x with ds:=[74],n:=(kAt L at_).n}
 else if(kAt L at_).tag=8 then{x with ds:=[83],tx:=yN L (kAt L at_).a}
 else x
def xj(x:IN):Bool:= !x.ds.isEmpty&&(decide (x.ds=[74])==decide (x.op=20))
structure LfI(w:World)(g:Nat)(a:Option Addr)(n cap:Nat)(L:List KV)(er:Int)(gx:Nat)(x:IN):Prop where
 k:LfS w g a n cap L er
 i:yJ gx x w
 ne:gx≠g
 z:0<gx
 off:wX a n gx
theorem LfI.below{w w':World}{g:Nat}{a:Option Addr}{n cap:Nat}{L:List KV}{er:Int}{gx:Nat}{x:IN}(h:LfI w g a n cap L er gx x)(hb:Below w.heap.size w w'):LfI w' g a n cap L er gx x:=⟨h.k.below hb,h.i.below hb,h.ne,h.z,h.off⟩
theorem LfI.put{w:World}{g:Nat}{a:Option Addr}{n cap:Nat}{L:List KV}{er:Int}{gx:Nat}{x x':IN}(h:LfI w g a n cap L er gx x)(o:Nat)(v:Value)(hi:yJ gx x' (w.setCell ⟨gx,o,none⟩ v)):LfI (w.setCell ⟨gx,o,none⟩ v) g a n cap L er gx x':=by
 have hk:yZ (fun k=>k=gx) w (w.setCell ⟨gx,o,none⟩ v):=(yZ.refl _ _).setg o v;exact⟨h.k.keep hk (fun e=>h.ne e.symm) (fun e=>by have:=h.z;omega) (fun hn b off e=>h.off hn b off e),hi,h.ne,h.z,h.off⟩
def eM(g:Nat)(a:Option Addr)(n cap:Nat)(L:List KV)(er:Int)(gx:Nat)(x:IN)(w:World)(e:Ending)(w':World):Prop:=e= .returned (.tuple #[])/\LfI w' g a n cap L er gx x/\yZ (fun k=>k=g\/k=gx) w w'
def uF(gc:Nat)(c:KV)(w:World):Prop:=w.heap[gc]? =some (.cells c.cells.toArray 61 (0,0))
structure E8n(w:World)(g:Nat)(c:KV):Prop where
 c0:w.cell? ⟨g,0,none⟩=some (.int .i64 c.tag)
 c1:w.cell? ⟨g,1,none⟩=some (.int .i64 c.a)
 c3:w.cell? ⟨g,3,none⟩=some (.int .i64 c.n)
theorem uF.box{gc:Nat}{c:KV}{w:World}(h:uF gc c w):E8n w gc c:=⟨y8 h 0 rfl,y8 h 1 rfl,y8 h 3 rfl⟩
def E7y(w0:World)(c:KV)(g:Nat)(a:Option Addr)(n cap:Nat)(L:List KV)(er:Int)(gx:Nat)(x:IN)(gc:Nat)(w:World):Prop:=LfI w g a n cap L er gx x/\uF gc c w/\Below w0.heap.size w0 w/\gc=w0.heap.size
theorem aZ(w:World)(g:Nat)(a:Option Addr)(n cap:Nat)(L:List KV)(er:Int)(gx:Nat)(x:IN)(at_:Nat)(Yq:at_<1048576)(h:LfI w g a n cap L er gx x):
  Calls prog 103 #[.pointer (some ⟨g,0,none⟩),.pointer (some ⟨gx,0,none⟩),.int .i64 at_] w (eM g a n cap L (yj er (xj (xG L x at_)) 8) gx (xG L x at_) w):=by
 have H:=Z' h;have CS:n=L.length:=h.k.ks.1.symm;have HN:=Z' CS;have YA:=h.k.sm;obtain⟨c,hc⟩:=Z8 (kAt L at_);have HC:=Z' hc
 have HX:=Z' (show xG L x at_=if c.tag=3 then{x with ds:=[73],n:=c.n}else if c.tag=5 then{x with ds:=[74],n:=c.n}else if c.tag=8 then{x with ds:=[83],tx:=yN L c.a}else x by rw[hc];rfl)
 obtain⟨x',VG⟩:=Z8 (xG L x at_);rw[<-VG]at HX⊢;obtain⟨k0,k1,q0,q1,klt⟩:=h.k.k.box;have UG:(0:Int)<=at_:=by omega
 have ZN:(at_:Int)<1048576:=by omega
 clear h hc VG CS;by_cases ZX:at_<n
 ·have VQ:(at_:Int)<n:=by omega
  obtain⟨b1,o1,rfl,ZQ,p⟩:=H.out.k.ks.at at_ ZX;rw[<-HC.out]at p;obtain⟨p0,p1,p2,p3,p4⟩:=p;clear ZX;go_enter func103,ntmps103
  go_upto_region 3 with fail
  have Nu:Below w.heap.size w (w.alloc (.cells #[.int .i64 c.tag,.int .i64 c.a,.int .i64 c.b,.int .i64 c.n,.string ⟨c.s.toArray⟩] 61)):=Z6.alloc Z5 _;have UN:=Z9 (E7y w c g (some ⟨b1,o1,none⟩) n cap L er gx x w.heap.size (w.alloc (.cells #[.int .i64 c.tag,.int .i64 c.a,.int .i64 c.b,.int .i64 c.n,.string ⟨c.s.toArray⟩] 61))) (⟨H.out.below Nu,heap_alloc_last w _,Nu,rfl⟩);generalize(some ⟨b1,o1,none⟩:Option Addr)=a at*;generalize w.alloc _=W at*;clear Nu p0 p1 p2 p3 p4 k0 k1 q0 q1 klt UG ZN VQ ZQ;generalize w.heap.size=gc at*;have Sp:=Z' (show gc≠gx by have:=UN.out.2.2.2;have:=H.out.i.lt;omega);obtain⟨p0,p1,p3⟩:=UN.out.2.1.box;by_cases h3:c.tag=3
  ·have e3:(c.tag==3)=true:=by rw[h3];rfl
   have Nk:=Z' (show x'={x with ds:=[73],n:=c.n} by rw[HX.out,if_pos h3]);clear HX h3;have Q7:=UN.out.1;obtain⟨i0,i1,i2,i3,i4,i5,i6,f1,f2,f3,f4,f5,f6⟩:=Q7.i.box;have lc:∀w',uF gc c w'->w'.cell? ⟨gc,3,none⟩=some (.int .i64 c.n):=fun w' h=>h.box.c3
   go_upto_region 5 with fail
   have Z3:uF gc c W.drew:=UN.out.2.1
   refine ye (uF gc c) (.of [(0,true),(1,true),(2,true),(3,true),(4,true),(5,true),(6,false),(7,true),(8,true),(9,false)] (.stir [])) (by kernel_rfl) (by kernel_rfl) (fun c a d v w h=>by cases d<;>exact h) ?_
   iterate 6
    refine yY fun K hK=>tkF ?_
    go_simp
    try go_bits
    refine hK _ _ ?_;clear hK K
   refine yY fun K hK=>alF ?_
   go_step;have VQ:LfI (W.drew.setCell ⟨gx,5,none⟩ (.string ⟨#[73]⟩)) g a n cap L er gx {x with ds:=[73]}:=(UN.out.1.below (Z6.drew)).put 5 _ ((UN.out.1.i.below (Z6.drew)).set5 [73]);have Y5:uF gc c (W.drew.setCell ⟨gx,5,none⟩ (.string ⟨#[73]⟩)):=wQ UN.out.2.1 Sp.out _ _;have Q3:yZ (fun k=>k=g\/k=gx) w (W.drew.setCell ⟨gx,5,none⟩ (.string ⟨#[73]⟩)):=((yZ.of UN.out.2.2.1).trans (yZ.of (Z6.drew))).set (.inl (.inr rfl)) 5 _
   first|refine⟨Y5,hK _ _ ?_⟩|skip
   clear hK K i0 i1 i2 i3 i4 i5 i6 f1 f2 f3 f4 f5 f6;change vM _ _ _ _ _ _ (W.drew.setCell ⟨gx,5,none⟩ (.string ⟨#[73]⟩));generalize W.drew.setCell ⟨gx,5,none⟩ (.string ⟨#[73]⟩)=W1 at*;have Z3:uF gc c W1:=Y5;obtain⟨i0,i1,i2,i3,i4,i5,i6,f1,f2,f3,f4,f5,f6⟩:=VQ.i.box
   iterate 2
    refine yY fun K hK=>tkF ?_
    go_simp
    try go_bits
    refine hK _ _ ?_;clear hK K
   refine yY fun K hK=>alF ?_
   go_step
   have Xf:LfI (W1.setCell ⟨gx,1,none⟩ (.int .i64 c.n)) g a n cap L er gx x':=by
    have:=VQ.put 1 (.int .i64 c.n) (VQ.i.set1 c.n);rw[Nk.out];exact this
   have Yz:uF gc c (W1.setCell ⟨gx,1,none⟩ (.int .i64 c.n)):=wQ Y5 Sp.out _ _;have X7:yZ (fun k=>k=g\/k=gx) w (W1.setCell ⟨gx,1,none⟩ (.int .i64 c.n)):=Q3.set (.inl (.inr rfl)) 1 _
   first|refine⟨Yz,hK _ _ ?_⟩|skip
   clear hK K i0 i1 i2 i3 i4 i5 i6 f1 f2 f3 f4 f5 f6;generalize W1.setCell ⟨gx,1,none⟩ (.int .i64 c.n)=W2 at*;refine yA (wV W2) (fun y hy=>by obtain rfl:y=W2:=hy;exact Yz) rfl ?_;refine yE (fun yy hy=> ?_);obtain rfl:W2=yy:=Eq.symm hy;have HL:=Z' Xf;have HK:=Z' X7;clear VQ Y5 Q3 Xf Yz X7 lc Q7;obtain⟨i0,i1,i2,i3,i4,i5,i6,f1,f2,f3,f4,f5,f6⟩:=HL.out.i.box;obtain⟨D,hD⟩:=Z8 (x'.ds);have Jk:∀w',yJ gx x' w'->w'.cell? ⟨gx,0,none⟩=some (.int .u8 (x'.op:Nat)):=fun w' h=>h.box.c0
   have Hf:∀w',yJ gx x' w'->w'.cell? ⟨gx,5,none⟩=some (.string ⟨D.toArray⟩):=fun w' h=>by rw[hD];exact h.box.c5
   have ZE:=Z' (show xj x'=(!D.isEmpty&&(decide (D=[74])==decide (x'.op=20))) by rw[hD];rfl);have WQ:=Z' (fun ok=>tH W2.drew g a n cap L er ok 8 (HL.out.k.below (Z6.drew)));generalize xj x'=CC at*;generalize x'.op=xo at*;clear hD i0 i1 i2 i3 i4 i5 i6 f1 f2 f3 f4 f5 f6
   go_upto_region 10 with fail
   cases D with
   |nil=>
    have Ug:CC=false:=ZE.out;subst Ug;have Z3:yJ gx x' W2.drew:=HL.out.i
    refine ye (yJ gx x') (.of [(0,true),(1,true),(2,true),(3,true),(4,true),(5,true),(6,true),(7,true),(8,true),(9,true),(10,true),(11,true),(12,true),(13,true),(14,true),(15,true),(16,true),(17,true),(18,true),(19,false)] (.stir [])) (by kernel_rfl) (by kernel_rfl) (fun c a d v w h=>by cases d<;>exact h) ?_
    iterate 7
     refine yY fun K hK=>tkF ?_
     go_simp
     try go_bits
     refine hK _ _ ?_;clear hK K
    iterate 11
     refine yY fun K hK=>skF ?_
     go_simp;refine hK _ _ ?_;clear hK K
    iterate 1
     refine yY fun K hK=>tkF ?_
     go_simp
     try go_bits
     refine hK _ _ ?_;clear hK K
    refine yY fun K hK=>alF ?_
    go_step;refine(WQ.out false).mono ?_;rintro e W3 ⟨rfl,h3,k3⟩;have YU:=Z9 (LfI W3 g a n cap L (yj er false 8) gx x') (⟨h3,(HL.out.i.below (Z6.drew)).keep k3 HL.out.ne,HL.out.ne,HL.out.z,HL.out.off⟩);have ZL:=Z' ((HK.out.trans (yZ.of (Z6.drew))).trans (k3.weak (fun k _ e=>Or.inl e)));clear h3 k3;go_simp
    first|refine⟨YU.out.i,hK _ _ ?_⟩|skip
    clear hK K;refine yA (wV W3) (fun y hy=>by obtain rfl:y=W3:=hy;exact YU.out.i) rfl ?_;refine yE (fun yy hy=> ?_);obtain rfl:W3=yy:=Eq.symm hy
    go_wp2_with fail
    go_end0;exact⟨rfl,YU.out,ZL.out⟩
   |cons d0 D0=>
   obtain⟨Vz,XS⟩:∃y,y=decide (d0::D0=[74]):=⟨_,rfl⟩;obtain⟨VA,XY⟩:∃y,y=decide (xo=20):=⟨_,rfl⟩;have Qj:(d0::D0==[74])=Vz:=by rw[XS,Bool.eq_iff_iff,beq_iff_eq,decide_eq_true_iff]
   have Tg:((xo:Int)==20)=VA:=by rw[XY,Bool.eq_iff_iff,beq_iff_eq,decide_eq_true_iff];omega
   have Ug:CC=(Vz==VA):=by rw[ZE.out,XS,XY];rfl
   subst Ug;clear XS XY ZE;have Z3:yJ gx x' W2.drew:=HL.out.i
   refine ye (yJ gx x') (.of [(0,true),(1,true),(2,true),(3,true),(4,true),(5,true),(6,true),(7,true),(8,true),(9,true),(10,true),(11,true),(12,true),(13,true),(14,true),(15,true),(16,true),(17,true),(18,true),(19,false)] (.stir [])) (by kernel_rfl) (by kernel_rfl) (fun c a d v w h=>by cases d<;>exact h) ?_
   iterate 19
    refine yY fun K hK=>tkF ?_
    go_simp
    try go_bits
    refine hK _ _ ?_;clear hK K
   refine yY fun K hK=>alF ?_
   go_step;refine(WQ.out (Vz==VA)).mono ?_;rintro e W3 ⟨rfl,h3,k3⟩;have YU:=Z9 (LfI W3 g a n cap L (yj er (Vz==VA) 8) gx x') (⟨h3,(HL.out.i.below (Z6.drew)).keep k3 HL.out.ne,HL.out.ne,HL.out.z,HL.out.off⟩);have ZL:=Z' ((HK.out.trans (yZ.of (Z6.drew))).trans (k3.weak (fun k _ e=>Or.inl e)));clear h3 k3;go_simp
   first|refine⟨YU.out.i,hK _ _ ?_⟩|skip
   clear hK K;refine yA (wV W3) (fun y hy=>by obtain rfl:y=W3:=hy;exact YU.out.i) rfl ?_;refine yE (fun yy hy=> ?_);obtain rfl:W3=yy:=Eq.symm hy
   go_wp2_with fail
   go_end0;exact⟨rfl,YU.out,ZL.out⟩
  have e3:(c.tag==3)=false:=by simpa using h3
  by_cases h5:c.tag=5
  ·have e5:(c.tag==5)=true:=by rw[h5];rfl
   have Nk:=Z' (show x'={x with ds:=[74],n:=c.n} by rw[HX.out,if_neg h3,if_pos h5]);clear HX h3 h5;have Q7:=UN.out.1;obtain⟨i0,i1,i2,i3,i4,i5,i6,f1,f2,f3,f4,f5,f6⟩:=Q7.i.box;have lc:∀w',uF gc c w'->w'.cell? ⟨gc,3,none⟩=some (.int .i64 c.n):=fun w' h=>h.box.c3
   go_upto_region 7 with fail
   have Z3:uF gc c W.drew:=UN.out.2.1
   refine ye (uF gc c) (.of [(0,true),(1,true),(2,true),(3,true),(4,true),(5,true),(6,false),(7,true),(8,true),(9,false)] (.stir [])) (by kernel_rfl) (by kernel_rfl) (fun c a d v w h=>by cases d<;>exact h) ?_
   iterate 6
    refine yY fun K hK=>tkF ?_
    go_simp
    try go_bits
    refine hK _ _ ?_;clear hK K
   refine yY fun K hK=>alF ?_
   go_step;have VQ:LfI (W.drew.setCell ⟨gx,5,none⟩ (.string ⟨#[74]⟩)) g a n cap L er gx {x with ds:=[74]}:=(UN.out.1.below (Z6.drew)).put 5 _ ((UN.out.1.i.below (Z6.drew)).set5 [74]);have Y5:uF gc c (W.drew.setCell ⟨gx,5,none⟩ (.string ⟨#[74]⟩)):=wQ UN.out.2.1 Sp.out _ _;have Q3:yZ (fun k=>k=g\/k=gx) w (W.drew.setCell ⟨gx,5,none⟩ (.string ⟨#[74]⟩)):=((yZ.of UN.out.2.2.1).trans (yZ.of (Z6.drew))).set (.inl (.inr rfl)) 5 _
   first|refine⟨Y5,hK _ _ ?_⟩|skip
   clear hK K i0 i1 i2 i3 i4 i5 i6 f1 f2 f3 f4 f5 f6;change vM _ _ _ _ _ _ (W.drew.setCell ⟨gx,5,none⟩ (.string ⟨#[74]⟩));generalize W.drew.setCell ⟨gx,5,none⟩ (.string ⟨#[74]⟩)=W1 at*;have Z3:uF gc c W1:=Y5;obtain⟨i0,i1,i2,i3,i4,i5,i6,f1,f2,f3,f4,f5,f6⟩:=VQ.i.box
   iterate 2
    refine yY fun K hK=>tkF ?_
    go_simp
    try go_bits
    refine hK _ _ ?_;clear hK K
   refine yY fun K hK=>alF ?_
   go_step
   have Xf:LfI (W1.setCell ⟨gx,1,none⟩ (.int .i64 c.n)) g a n cap L er gx x':=by
    have:=VQ.put 1 (.int .i64 c.n) (VQ.i.set1 c.n);rw[Nk.out];exact this
   have Yz:uF gc c (W1.setCell ⟨gx,1,none⟩ (.int .i64 c.n)):=wQ Y5 Sp.out _ _;have X7:yZ (fun k=>k=g\/k=gx) w (W1.setCell ⟨gx,1,none⟩ (.int .i64 c.n)):=Q3.set (.inl (.inr rfl)) 1 _
   first|refine⟨Yz,hK _ _ ?_⟩|skip
   clear hK K i0 i1 i2 i3 i4 i5 i6 f1 f2 f3 f4 f5 f6;generalize W1.setCell ⟨gx,1,none⟩ (.int .i64 c.n)=W2 at*;refine yA (wV W2) (fun y hy=>by obtain rfl:y=W2:=hy;exact Yz) rfl ?_;refine yE (fun yy hy=> ?_);obtain rfl:W2=yy:=Eq.symm hy;have HL:=Z' Xf;have HK:=Z' X7;clear VQ Y5 Q3 Xf Yz X7 lc Q7;obtain⟨i0,i1,i2,i3,i4,i5,i6,f1,f2,f3,f4,f5,f6⟩:=HL.out.i.box;obtain⟨D,hD⟩:=Z8 (x'.ds);have Jk:∀w',yJ gx x' w'->w'.cell? ⟨gx,0,none⟩=some (.int .u8 (x'.op:Nat)):=fun w' h=>h.box.c0
   have Hf:∀w',yJ gx x' w'->w'.cell? ⟨gx,5,none⟩=some (.string ⟨D.toArray⟩):=fun w' h=>by rw[hD];exact h.box.c5
   have ZE:=Z' (show xj x'=(!D.isEmpty&&(decide (D=[74])==decide (x'.op=20))) by rw[hD];rfl);have WQ:=Z' (fun ok=>tH W2.drew g a n cap L er ok 8 (HL.out.k.below (Z6.drew)));generalize xj x'=CC at*;generalize x'.op=xo at*;clear hD i0 i1 i2 i3 i4 i5 i6 f1 f2 f3 f4 f5 f6
   go_upto_region 10 with fail
   cases D with
   |nil=>
    have Ug:CC=false:=ZE.out;subst Ug;have Z3:yJ gx x' W2.drew:=HL.out.i
    refine ye (yJ gx x') (.of [(0,true),(1,true),(2,true),(3,true),(4,true),(5,true),(6,true),(7,true),(8,true),(9,true),(10,true),(11,true),(12,true),(13,true),(14,true),(15,true),(16,true),(17,true),(18,true),(19,false)] (.stir [])) (by kernel_rfl) (by kernel_rfl) (fun c a d v w h=>by cases d<;>exact h) ?_
    iterate 7
     refine yY fun K hK=>tkF ?_
     go_simp
     try go_bits
     refine hK _ _ ?_;clear hK K
    iterate 11
     refine yY fun K hK=>skF ?_
     go_simp;refine hK _ _ ?_;clear hK K
    iterate 1
     refine yY fun K hK=>tkF ?_
     go_simp
     try go_bits
     refine hK _ _ ?_;clear hK K
    refine yY fun K hK=>alF ?_
    go_step;refine(WQ.out false).mono ?_;rintro e W3 ⟨rfl,h3,k3⟩;have YU:=Z9 (LfI W3 g a n cap L (yj er false 8) gx x') (⟨h3,(HL.out.i.below (Z6.drew)).keep k3 HL.out.ne,HL.out.ne,HL.out.z,HL.out.off⟩);have ZL:=Z' ((HK.out.trans (yZ.of (Z6.drew))).trans (k3.weak (fun k _ e=>Or.inl e)));clear h3 k3;go_simp
    first|refine⟨YU.out.i,hK _ _ ?_⟩|skip
    clear hK K;refine yA (wV W3) (fun y hy=>by obtain rfl:y=W3:=hy;exact YU.out.i) rfl ?_;refine yE (fun yy hy=> ?_);obtain rfl:W3=yy:=Eq.symm hy
    go_wp2_with fail
    go_end0;exact⟨rfl,YU.out,ZL.out⟩
   |cons d0 D0=>
   obtain⟨Vz,XS⟩:∃y,y=decide (d0::D0=[74]):=⟨_,rfl⟩;obtain⟨VA,XY⟩:∃y,y=decide (xo=20):=⟨_,rfl⟩;have Qj:(d0::D0==[74])=Vz:=by rw[XS,Bool.eq_iff_iff,beq_iff_eq,decide_eq_true_iff]
   have Tg:((xo:Int)==20)=VA:=by rw[XY,Bool.eq_iff_iff,beq_iff_eq,decide_eq_true_iff];omega
   have Ug:CC=(Vz==VA):=by rw[ZE.out,XS,XY];rfl
   subst Ug;clear XS XY ZE;have Z3:yJ gx x' W2.drew:=HL.out.i
   refine ye (yJ gx x') (.of [(0,true),(1,true),(2,true),(3,true),(4,true),(5,true),(6,true),(7,true),(8,true),(9,true),(10,true),(11,true),(12,true),(13,true),(14,true),(15,true),(16,true),(17,true),(18,true),(19,false)] (.stir [])) (by kernel_rfl) (by kernel_rfl) (fun c a d v w h=>by cases d<;>exact h) ?_
   iterate 19
    refine yY fun K hK=>tkF ?_
    go_simp
    try go_bits
    refine hK _ _ ?_;clear hK K
   refine yY fun K hK=>alF ?_
   go_step;refine(WQ.out (Vz==VA)).mono ?_;rintro e W3 ⟨rfl,h3,k3⟩;have YU:=Z9 (LfI W3 g a n cap L (yj er (Vz==VA) 8) gx x') (⟨h3,(HL.out.i.below (Z6.drew)).keep k3 HL.out.ne,HL.out.ne,HL.out.z,HL.out.off⟩);have ZL:=Z' ((HK.out.trans (yZ.of (Z6.drew))).trans (k3.weak (fun k _ e=>Or.inl e)));clear h3 k3;go_simp
   first|refine⟨YU.out.i,hK _ _ ?_⟩|skip
   clear hK K;refine yA (wV W3) (fun y hy=>by obtain rfl:y=W3:=hy;exact YU.out.i) rfl ?_;refine yE (fun yy hy=> ?_);obtain rfl:W3=yy:=Eq.symm hy
   go_wp2_with fail
   go_end0;exact⟨rfl,YU.out,ZL.out⟩
  have e5:(c.tag==5)=false:=by simpa using h5
  by_cases h8:c.tag=8
  ·have e8:(c.tag==8)=true:=by rw[h8];rfl
   have Nk:=Z' (show x'={x with ds:=[83],tx:=yN L c.a} by rw[HX.out,if_neg h3,if_neg h5,if_pos h8]);have HT:=Z' (qw W g a n cap L er c.a UN.out.1.k);obtain⟨i0,i1,i2,i3,i4,i5,i6,f1,f2,f3,f4,f5,f6⟩:=UN.out.1.i.box;generalize yN L c.a=s at*;clear HX h3 h5 h8
   go_wp2_with fail
   refine HT.out.mono ?_;rintro e W0 ⟨rfl,rfl⟩
   go_upto_region 10 with fail
   have VQ:=UN.out.1.put 5 (.string ⟨[83].toArray⟩) (UN.out.1.i.set5 [83]);have Xf:=VQ.put 6 (.string ⟨s.toArray⟩) (VQ.i.set6 s);have HL:=Z' (show LfI ((W0.setCell ⟨gx,5,none⟩ (.string ⟨#[83]⟩)).setCell ⟨gx,6,none⟩ (.string ⟨s.toArray⟩)) g a n cap L er gx x' by rw[Nk.out];exact Xf);have HK:=Z9 (yZ (fun k=>k=g\/k=gx) w ((W0.setCell ⟨gx,5,none⟩ (.string ⟨#[83]⟩)).setCell ⟨gx,6,none⟩ (.string ⟨s.toArray⟩))) (((yZ.of UN.out.2.2.1).set (.inl (.inr rfl)) 5 _).set (.inl (.inr rfl)) 6 _);clear VQ Xf i0 i1 i2 i3 i4 i5 i6 f1 f2 f3 f4 f5 f6;generalize(W0.setCell ⟨gx,5,none⟩ (.string ⟨#[83]⟩)).setCell ⟨gx,6,none⟩ (.string ⟨s.toArray⟩)=W2 at*;obtain⟨i0,i1,i2,i3,i4,i5,i6,f1,f2,f3,f4,f5,f6⟩:=HL.out.i.box;obtain⟨D,hD⟩:=Z8 (x'.ds);have Jk:∀w',yJ gx x' w'->w'.cell? ⟨gx,0,none⟩=some (.int .u8 (x'.op:Nat)):=fun w' h=>h.box.c0
   have Hf:∀w',yJ gx x' w'->w'.cell? ⟨gx,5,none⟩=some (.string ⟨D.toArray⟩):=fun w' h=>by rw[hD];exact h.box.c5
   have ZE:=Z' (show xj x'=(!D.isEmpty&&(decide (D=[74])==decide (x'.op=20))) by rw[hD];rfl);have WQ:=Z' (fun ok=>tH W2.drew g a n cap L er ok 8 (HL.out.k.below (Z6.drew)));generalize xj x'=CC at*;generalize x'.op=xo at*;clear hD i0 i1 i2 i3 i4 i5 i6 f1 f2 f3 f4 f5 f6
   go_upto_region 10 with fail
   cases D with
   |nil=>
    have Ug:CC=false:=ZE.out;subst Ug;have Z3:yJ gx x' W2.drew:=HL.out.i
    refine ye (yJ gx x') (.of [(0,true),(1,true),(2,true),(3,true),(4,true),(5,true),(6,true),(7,true),(8,true),(9,true),(10,true),(11,true),(12,true),(13,true),(14,true),(15,true),(16,true),(17,true),(18,true),(19,false)] (.stir [])) (by kernel_rfl) (by kernel_rfl) (fun c a d v w h=>by cases d<;>exact h) ?_
    iterate 7
     refine yY fun K hK=>tkF ?_
     go_simp
     try go_bits
     refine hK _ _ ?_;clear hK K
    iterate 11
     refine yY fun K hK=>skF ?_
     go_simp;refine hK _ _ ?_;clear hK K
    iterate 1
     refine yY fun K hK=>tkF ?_
     go_simp
     try go_bits
     refine hK _ _ ?_;clear hK K
    refine yY fun K hK=>alF ?_
    go_step;refine(WQ.out false).mono ?_;rintro e W3 ⟨rfl,h3,k3⟩;have YU:=Z9 (LfI W3 g a n cap L (yj er false 8) gx x') (⟨h3,(HL.out.i.below (Z6.drew)).keep k3 HL.out.ne,HL.out.ne,HL.out.z,HL.out.off⟩);have ZL:=Z' ((HK.out.trans (yZ.of (Z6.drew))).trans (k3.weak (fun k _ e=>Or.inl e)));clear h3 k3;go_simp
    first|refine⟨YU.out.i,hK _ _ ?_⟩|skip
    clear hK K;refine yA (wV W3) (fun y hy=>by obtain rfl:y=W3:=hy;exact YU.out.i) rfl ?_;refine yE (fun yy hy=> ?_);obtain rfl:W3=yy:=Eq.symm hy
    go_wp2_with fail
    go_end0;exact⟨rfl,YU.out,ZL.out⟩
   |cons d0 D0=>
   obtain⟨Vz,XS⟩:∃y,y=decide (d0::D0=[74]):=⟨_,rfl⟩;obtain⟨VA,XY⟩:∃y,y=decide (xo=20):=⟨_,rfl⟩;have Qj:(d0::D0==[74])=Vz:=by rw[XS,Bool.eq_iff_iff,beq_iff_eq,decide_eq_true_iff]
   have Tg:((xo:Int)==20)=VA:=by rw[XY,Bool.eq_iff_iff,beq_iff_eq,decide_eq_true_iff];omega
   have Ug:CC=(Vz==VA):=by rw[ZE.out,XS,XY];rfl
   subst Ug;clear XS XY ZE;have Z3:yJ gx x' W2.drew:=HL.out.i
   refine ye (yJ gx x') (.of [(0,true),(1,true),(2,true),(3,true),(4,true),(5,true),(6,true),(7,true),(8,true),(9,true),(10,true),(11,true),(12,true),(13,true),(14,true),(15,true),(16,true),(17,true),(18,true),(19,false)] (.stir [])) (by kernel_rfl) (by kernel_rfl) (fun c a d v w h=>by cases d<;>exact h) ?_
   iterate 19
    refine yY fun K hK=>tkF ?_
    go_simp
    try go_bits
    refine hK _ _ ?_;clear hK K
   refine yY fun K hK=>alF ?_
   go_step;refine(WQ.out (Vz==VA)).mono ?_;rintro e W3 ⟨rfl,h3,k3⟩;have YU:=Z9 (LfI W3 g a n cap L (yj er (Vz==VA) 8) gx x') (⟨h3,(HL.out.i.below (Z6.drew)).keep k3 HL.out.ne,HL.out.ne,HL.out.z,HL.out.off⟩);have ZL:=Z' ((HK.out.trans (yZ.of (Z6.drew))).trans (k3.weak (fun k _ e=>Or.inl e)));clear h3 k3;go_simp
   first|refine⟨YU.out.i,hK _ _ ?_⟩|skip
   clear hK K;refine yA (wV W3) (fun y hy=>by obtain rfl:y=W3:=hy;exact YU.out.i) rfl ?_;refine yE (fun yy hy=> ?_);obtain rfl:W3=yy:=Eq.symm hy
   go_wp2_with fail
   go_end0;exact⟨rfl,YU.out,ZL.out⟩
  have e8:(c.tag==8)=false:=by simpa using h8
  have Nk:=Z' (show x'=x by rw[HX.out,if_neg h3,if_neg h5,if_neg h8]);clear HX h3 h5 h8
  go_upto_region 10 with fail
  have HL:=Z' (show LfI W g a n cap L er gx x' by rw[Nk.out];exact UN.out.1);have HK:=Z9 (yZ (fun k=>k=g\/k=gx) w W) (yZ.of UN.out.2.2.1);obtain⟨W2,zX⟩:=Z8 (W);subst zX;obtain⟨i0,i1,i2,i3,i4,i5,i6,f1,f2,f3,f4,f5,f6⟩:=HL.out.i.box;obtain⟨D,hD⟩:=Z8 (x'.ds);have Jk:∀w',yJ gx x' w'->w'.cell? ⟨gx,0,none⟩=some (.int .u8 (x'.op:Nat)):=fun w' h=>h.box.c0
  have Hf:∀w',yJ gx x' w'->w'.cell? ⟨gx,5,none⟩=some (.string ⟨D.toArray⟩):=fun w' h=>by rw[hD];exact h.box.c5
  have ZE:=Z' (show xj x'=(!D.isEmpty&&(decide (D=[74])==decide (x'.op=20))) by rw[hD];rfl);have WQ:=Z' (fun ok=>tH W2.drew g a n cap L er ok 8 (HL.out.k.below (Z6.drew)));generalize xj x'=CC at*;generalize x'.op=xo at*;clear hD i0 i1 i2 i3 i4 i5 i6 f1 f2 f3 f4 f5 f6
  go_upto_region 10 with fail
  cases D with
  |nil=>
   have Ug:CC=false:=ZE.out;subst Ug;have Z3:yJ gx x' W2.drew:=HL.out.i
   refine ye (yJ gx x') (.of [(0,true),(1,true),(2,true),(3,true),(4,true),(5,true),(6,true),(7,true),(8,true),(9,true),(10,true),(11,true),(12,true),(13,true),(14,true),(15,true),(16,true),(17,true),(18,true),(19,false)] (.stir [])) (by kernel_rfl) (by kernel_rfl) (fun c a d v w h=>by cases d<;>exact h) ?_
   iterate 7
    refine yY fun K hK=>tkF ?_
    go_simp
    try go_bits
    refine hK _ _ ?_;clear hK K
   iterate 11
    refine yY fun K hK=>skF ?_
    go_simp;refine hK _ _ ?_;clear hK K
   iterate 1
    refine yY fun K hK=>tkF ?_
    go_simp
    try go_bits
    refine hK _ _ ?_;clear hK K
   refine yY fun K hK=>alF ?_
   go_step;refine(WQ.out false).mono ?_;rintro e W3 ⟨rfl,h3,k3⟩;have YU:=Z9 (LfI W3 g a n cap L (yj er false 8) gx x') (⟨h3,(HL.out.i.below (Z6.drew)).keep k3 HL.out.ne,HL.out.ne,HL.out.z,HL.out.off⟩);have ZL:=Z' ((HK.out.trans (yZ.of (Z6.drew))).trans (k3.weak (fun k _ e=>Or.inl e)));clear h3 k3;go_simp
   first|refine⟨YU.out.i,hK _ _ ?_⟩|skip
   clear hK K;refine yA (wV W3) (fun y hy=>by obtain rfl:y=W3:=hy;exact YU.out.i) rfl ?_;refine yE (fun yy hy=> ?_);obtain rfl:W3=yy:=Eq.symm hy
   go_wp2_with fail
   go_end0;exact⟨rfl,YU.out,ZL.out⟩
  |cons d0 D0=>
  obtain⟨Vz,XS⟩:∃y,y=decide (d0::D0=[74]):=⟨_,rfl⟩;obtain⟨VA,XY⟩:∃y,y=decide (xo=20):=⟨_,rfl⟩;have Qj:(d0::D0==[74])=Vz:=by rw[XS,Bool.eq_iff_iff,beq_iff_eq,decide_eq_true_iff]
  have Tg:((xo:Int)==20)=VA:=by rw[XY,Bool.eq_iff_iff,beq_iff_eq,decide_eq_true_iff];omega
  have Ug:CC=(Vz==VA):=by rw[ZE.out,XS,XY];rfl
  subst Ug;clear XS XY ZE;have Z3:yJ gx x' W2.drew:=HL.out.i
  refine ye (yJ gx x') (.of [(0,true),(1,true),(2,true),(3,true),(4,true),(5,true),(6,true),(7,true),(8,true),(9,true),(10,true),(11,true),(12,true),(13,true),(14,true),(15,true),(16,true),(17,true),(18,true),(19,false)] (.stir [])) (by kernel_rfl) (by kernel_rfl) (fun c a d v w h=>by cases d<;>exact h) ?_
  iterate 19
   refine yY fun K hK=>tkF ?_
   go_simp
   try go_bits
   refine hK _ _ ?_;clear hK K
  refine yY fun K hK=>alF ?_
  go_step;refine(WQ.out (Vz==VA)).mono ?_;rintro e W3 ⟨rfl,h3,k3⟩;have YU:=Z9 (LfI W3 g a n cap L (yj er (Vz==VA) 8) gx x') (⟨h3,(HL.out.i.below (Z6.drew)).keep k3 HL.out.ne,HL.out.ne,HL.out.z,HL.out.off⟩);have ZL:=Z' ((HK.out.trans (yZ.of (Z6.drew))).trans (k3.weak (fun k _ e=>Or.inl e)));clear h3 k3;go_simp
  first|refine⟨YU.out.i,hK _ _ ?_⟩|skip
  clear hK K;refine yA (wV W3) (fun y hy=>by obtain rfl:y=W3:=hy;exact YU.out.i) rfl ?_;refine yE (fun yy hy=> ?_);obtain rfl:W3=yy:=Eq.symm hy
  go_wp2_with fail
  go_end0;exact⟨rfl,YU.out,ZL.out⟩
 have VQ:¬(at_:Int)<n:=by omega
 have B7:c=kz:=by
  rw[HC.out];unfold kAt;rw[Int.toNat_natCast,List.getD_eq_getElem?_getD,List.getElem?_eq_none (by have:=HN.out;omega)];rfl
 have zi:=Z' (show x'=x by rw[HX.out,B7];rfl);subst B7;clear HX HC ZX;go_enter func103,ntmps103
 go_upto_region 10 with fail
 have Nu:Below w.heap.size w (w.alloc (.cells #[.int .i64 0,.int .i64 0,.int .i64 0,.int .i64 0,.string ⟨#[]⟩] 61)):=Z6.alloc Z5 _;have HL:=Z' (show LfI (w.alloc (.cells #[.int .i64 0,.int .i64 0,.int .i64 0,.int .i64 0,.string ⟨#[]⟩] 61)) g a n cap L er gx x' by rw[zi.out];exact H.out.below Nu);have HK:=Z9 (yZ (fun k=>k=g\/k=gx) w (w.alloc (.cells #[.int .i64 0,.int .i64 0,.int .i64 0,.int .i64 0,.string ⟨#[]⟩] 61))) (yZ.of Nu);generalize w.alloc _=W2 at*;clear Nu k0 k1 q0 q1 klt UG ZN VQ;obtain⟨i0,i1,i2,i3,i4,i5,i6,f1,f2,f3,f4,f5,f6⟩:=HL.out.i.box;obtain⟨D,hD⟩:=Z8 (x'.ds);have Jk:∀w',yJ gx x' w'->w'.cell? ⟨gx,0,none⟩=some (.int .u8 (x'.op:Nat)):=fun w' h=>h.box.c0
 have Hf:∀w',yJ gx x' w'->w'.cell? ⟨gx,5,none⟩=some (.string ⟨D.toArray⟩):=fun w' h=>by rw[hD];exact h.box.c5
 have ZE:=Z' (show xj x'=(!D.isEmpty&&(decide (D=[74])==decide (x'.op=20))) by rw[hD];rfl);have WQ:=Z' (fun ok=>tH W2.drew g a n cap L er ok 8 (HL.out.k.below (Z6.drew)));generalize xj x'=CC at*;generalize x'.op=xo at*;clear hD i0 i1 i2 i3 i4 i5 i6 f1 f2 f3 f4 f5 f6
 go_upto_region 10 with fail
 cases D with
 |nil=>
  have Ug:CC=false:=ZE.out;subst Ug;have Z3:yJ gx x' W2.drew:=HL.out.i
  refine ye (yJ gx x') (.of [(0,true),(1,true),(2,true),(3,true),(4,true),(5,true),(6,true),(7,true),(8,true),(9,true),(10,true),(11,true),(12,true),(13,true),(14,true),(15,true),(16,true),(17,true),(18,true),(19,false)] (.stir [])) (by kernel_rfl) (by kernel_rfl) (fun c a d v w h=>by cases d<;>exact h) ?_
  iterate 7
   refine yY fun K hK=>tkF ?_
   go_simp
   try go_bits
   refine hK _ _ ?_;clear hK K
  iterate 11
   refine yY fun K hK=>skF ?_
   go_simp;refine hK _ _ ?_;clear hK K
  iterate 1
   refine yY fun K hK=>tkF ?_
   go_simp
   try go_bits
   refine hK _ _ ?_;clear hK K
  refine yY fun K hK=>alF ?_
  go_step;refine(WQ.out false).mono ?_;rintro e W3 ⟨rfl,h3,k3⟩;have YU:=Z9 (LfI W3 g a n cap L (yj er false 8) gx x') (⟨h3,(HL.out.i.below (Z6.drew)).keep k3 HL.out.ne,HL.out.ne,HL.out.z,HL.out.off⟩);have ZL:=Z' ((HK.out.trans (yZ.of (Z6.drew))).trans (k3.weak (fun k _ e=>Or.inl e)));clear h3 k3;go_simp
  first|refine⟨YU.out.i,hK _ _ ?_⟩|skip
  clear hK K;refine yA (wV W3) (fun y hy=>by obtain rfl:y=W3:=hy;exact YU.out.i) rfl ?_;refine yE (fun yy hy=> ?_);obtain rfl:W3=yy:=Eq.symm hy
  go_wp2_with fail
  go_end0;exact⟨rfl,YU.out,ZL.out⟩
 |cons d0 D0=>
 obtain⟨Vz,XS⟩:∃y,y=decide (d0::D0=[74]):=⟨_,rfl⟩;obtain⟨VA,XY⟩:∃y,y=decide (xo=20):=⟨_,rfl⟩;have Qj:(d0::D0==[74])=Vz:=by rw[XS,Bool.eq_iff_iff,beq_iff_eq,decide_eq_true_iff]
 have Tg:((xo:Int)==20)=VA:=by rw[XY,Bool.eq_iff_iff,beq_iff_eq,decide_eq_true_iff];omega
 have Ug:CC=(Vz==VA):=by rw[ZE.out,XS,XY];rfl
 subst Ug;clear XS XY ZE;have Z3:yJ gx x' W2.drew:=HL.out.i
 refine ye (yJ gx x') (.of [(0,true),(1,true),(2,true),(3,true),(4,true),(5,true),(6,true),(7,true),(8,true),(9,true),(10,true),(11,true),(12,true),(13,true),(14,true),(15,true),(16,true),(17,true),(18,true),(19,false)] (.stir [])) (by kernel_rfl) (by kernel_rfl) (fun c a d v w h=>by cases d<;>exact h) ?_
 iterate 19
  refine yY fun K hK=>tkF ?_
  go_simp
  try go_bits
  refine hK _ _ ?_;clear hK K
 refine yY fun K hK=>alF ?_
 go_step;refine(WQ.out (Vz==VA)).mono ?_;rintro e W3 ⟨rfl,h3,k3⟩;have YU:=Z9 (LfI W3 g a n cap L (yj er (Vz==VA) 8) gx x') (⟨h3,(HL.out.i.below (Z6.drew)).keep k3 HL.out.ne,HL.out.ne,HL.out.z,HL.out.off⟩);have ZL:=Z' ((HK.out.trans (yZ.of (Z6.drew))).trans (k3.weak (fun k _ e=>Or.inl e)));clear h3 k3;go_simp
 first|refine⟨YU.out.i,hK _ _ ?_⟩|skip
 clear hK K;refine yA (wV W3) (fun y hy=>by obtain rfl:y=W3:=hy;exact YU.out.i) rfl ?_;refine yE (fun yy hy=> ?_);obtain rfl:W3=yy:=Eq.symm hy
 go_wp2_with fail
 go_end0;exact⟨rfl,YU.out,ZL.out⟩
def vi(L:List KV)(x:IN)(at_ t:Int):IN:={x with cl:=(xu L at_ t).1,nm:=(xu L at_ t).2.1,ds:=(xu L at_ t).2.2.1}
def vJ(p:List UInt8->Bool)(L:List KV)(at_ t:Int):Bool:=(xu L at_ t).2.2.2&&(classB (xu L at_ t).1&&(yk (xu L at_ t).2.1&&p (xu L at_ t).2.2.1))
theorem bG(w:World)(g:Nat)(a:Option Addr)(n cap:Nat)(L:List KV)(er:Int)(gx:Nat)(x:IN)(at_ t:Int)(fis:Nat)(p:List UInt8->Bool)
  (FU:∀(args:Array Value) (W:World),(callFunc fis args).run prog W= .ok (.enter fis args) W)
  (hp:∀(W:World) (s:List UInt8),s.length<=65536->VW W->Calls prog fis #[.string ⟨s.toArray⟩] W fun e w'=>e= .returned (.bool (p s))/\Below W.heap.size W w') (h:LfI w g a n cap L er gx x):
  Calls prog 104 #[.pointer (some ⟨g,0,none⟩),.pointer (some ⟨gx,0,none⟩),.int .i64 at_,.int .i64 t,.func (.func fis) #[] #[]] w (eM g a n cap L (yj er (vJ p L at_ t) 8) gx (vi L x at_ t) w):=by
 have HM:=Z' (aH w a n cap L at_ t h.k.ks h.k.sm);obtain⟨l1,l2,l3⟩:=pN h.k.tx at_ t;have H:=Z' h;have HC:vJ p L at_ t=((xu L at_ t).2.2.2&&(classB (xu L at_ t).1&&(yk (xu L at_ t).2.1&&p (xu L at_ t).2.2.1))):=rfl;have hX:vi L x at_ t={x with cl:=(xu L at_ t).1,nm:=(xu L at_ t).2.1,ds:=(xu L at_ t).2.2.1}:=rfl;generalize vJ p L at_ t=C at*;generalize vi L x at_ t=x' at*;unfold wu at HM;generalize(xu L at_ t).1=s1 at*;generalize(xu L at_ t).2.1=s2 at*;generalize(xu L at_ t).2.2.1=s3 at*;generalize(xu L at_ t).2.2.2=b at*;have HX:=Z' hX;have Y9:=Z' (fun W (hv:VW W)=>qH W s1 (by omega) hv);have Zj:=Z' (fun W (hv:VW W)=>sF W s2 l2 hv);have Qd:=Z' (fun W (hv:VW W)=>hp W s3 l3 hv);generalize classB s1=x1 at*;generalize yk s2=x2 at*;generalize p s3=x3 at*;obtain⟨k0,k1,q0,q1,klt⟩:=h.k.k.box;clear h hX hp l1 l2 l3;go_enter func104,ntmps104
 go_wp2_with fail
 refine HM.out.mono ?_;rintro e W0 ⟨rfl,UG⟩;have H0:=Z' (H.out.below UG);have YX:=Z9 (yZ (fun k=>k=g\/k=gx) w W0) (yZ.of UG);clear UG k0 k1 q0 q1 klt;obtain⟨i0,i1,i2,i3,i4,i5,i6,f1,f2,f3,f4,f5,f6⟩:=H0.out.i.box
 go_upto_region 2 with fail
 have VQ:=H0.out.put 3 (.string ⟨s1.toArray⟩) (H0.out.i.set3 s1);have Xf:=VQ.put 4 (.string ⟨s2.toArray⟩) (VQ.i.set4 s2);have RE:=Xf.put 5 (.string ⟨s3.toArray⟩) (Xf.i.set5 s3);have HL:=Z' (show LfI (((W0.setCell ⟨gx,3,none⟩ (.string ⟨s1.toArray⟩)).setCell ⟨gx,4,none⟩ (.string ⟨s2.toArray⟩)).setCell ⟨gx,5,none⟩ (.string ⟨s3.toArray⟩)) g a n cap L er gx x' by rw[HX.out];exact RE);have HK:=Z9 (yZ (fun k=>k=g\/k=gx) w (((W0.setCell ⟨gx,3,none⟩ (.string ⟨s1.toArray⟩)).setCell ⟨gx,4,none⟩ (.string ⟨s2.toArray⟩)).setCell ⟨gx,5,none⟩ (.string ⟨s3.toArray⟩))) (((YX.out.set (.inl (.inr rfl)) 3 _).set (.inl (.inr rfl)) 4 _).set (.inl (.inr rfl)) 5 _);clear VQ Xf RE i0 i1 i2 i3 i4 i5 i6 f1 f2 f3 f4 f5 f6 YX H0;generalize((W0.setCell ⟨gx,3,none⟩ (.string ⟨s1.toArray⟩)).setCell ⟨gx,4,none⟩ (.string ⟨s2.toArray⟩)).setCell ⟨gx,5,none⟩ (.string ⟨s3.toArray⟩)=W2 at*
 have Yt:=Z' (fun W (hb:Below W2.heap.size W2 W) ok=>(tH W g a n cap L er ok 8 (HL.out.k.below hb)).mono (R':=fun e W3=>e= .returned (.tuple #[])/\LfI W3 g a n cap L (yj er ok 8) gx x'/\yZ (fun k=>k=g\/k=gx) w W3) (by
  rintro e W3 ⟨rfl,h3,k3⟩;exact⟨rfl,⟨h3,(HL.out.i.below hb).keep k3 HL.out.ne,HL.out.ne,HL.out.z,HL.out.off⟩,(HK.out.trans (yZ.of hb)).trans (k3.weak (fun k _ e=>Or.inl e))⟩))
 have Ys:=Z' (fun W (hb:Below W2.heap.size W2 W)=>(HL.out.i.below hb).box);have U8:=Z' (Below.refl W2.heap.size W2);have Ai:x'.cl=s1/\x'.nm=s2/\x'.ds=s3:=by rw[HX.out];exact⟨rfl,rfl,rfl⟩
 obtain⟨v1,v2,v3⟩:=Ai
 cases b
 ·have hC:C=false:=HC;subst hC;clear HC
  go_wp2_with fail
  refine(Yt.out W2 U8.out false).mono ?_;rintro e W9 ⟨rfl,hl,hk⟩
  go_wp2_with fail
  go_end0;exact⟨rfl,hl,hk⟩
 obtain⟨i0,i1,i2,i3,i4,i5,i6,f1,f2,f3,f4,f5,f6⟩:=Ys.out W2 U8.out;rw[v1]at i3;rw[v2]at i4;rw[v3]at i5
 go_wp2_with fail
 refine(Y9.out W2 (HL.out.k.vw.below U8.out)).mono ?_;rintro e W3 ⟨rfl,hb⟩;have ZG:=Z7 U8 hb;clear hb i0 i1 i2 i3 i4 i5 i6 f1 f2 f3 f4 f5 f6
 cases x1
 ·have hC:C=false:=HC;subst hC;clear HC
  go_wp2_with fail
  refine(Yt.out W3 ZG.out false).mono ?_;rintro e W9 ⟨rfl,hl,hk⟩
  go_wp2_with fail
  go_end0;exact⟨rfl,hl,hk⟩
 obtain⟨i0,i1,i2,i3,i4,i5,i6,f1,f2,f3,f4,f5,f6⟩:=Ys.out W3 ZG.out;rw[v1]at i3;rw[v2]at i4;rw[v3]at i5
 go_wp2_with fail
 refine(Zj.out W3 (HL.out.k.vw.below ZG.out)).mono ?_;rintro e W4 ⟨rfl,hb⟩;have YY:=Z7 ZG hb;clear hb i0 i1 i2 i3 i4 i5 i6 f1 f2 f3 f4 f5 f6
 cases x2
 ·have hC:C=false:=HC;subst hC;clear HC
  go_wp2_with fail
  refine(Yt.out W4 YY.out false).mono ?_;rintro e W9 ⟨rfl,hl,hk⟩
  go_wp2_with fail
  go_end0;exact⟨rfl,hl,hk⟩
 obtain⟨i0,i1,i2,i3,i4,i5,i6,f1,f2,f3,f4,f5,f6⟩:=Ys.out W4 YY.out;rw[v1]at i3;rw[v2]at i4;rw[v3]at i5
 go_wp2_with fail
 refine(Qd.out W4 (HL.out.k.vw.below YY.out)).mono ?_;rintro e W5 ⟨rfl,hb⟩;have X9:=Z7 YY hb;clear hb i0 i1 i2 i3 i4 i5 i6 f1 f2 f3 f4 f5 f6;have hC:C=x3:=HC;subst hC;clear HC
 go_wp2_with fail
 refine(Yt.out W5 X9.out C).mono ?_;rintro e W9 ⟨rfl,hl,hk⟩
 go_wp2_with fail
 go_end0;exact⟨rfl,hl,hk⟩
end
section
open Go.ChangeShapes Go.WideShapes Go.ChangeAt Go.RowKit Go.Maps
def ixF(p:Int):List RW->Nat->Option Nat->Option Nat
 |[],_,acc=>acc
 |r::L,i,acc=>ixF p L (i+1) (if r.pos=p then some i else acc)
def wF(L:List RW)(p:Int):Option Nat:=ixF p L 0 none
def plF:List RW->Nat->DataW Unit->DataW Unit
 |[],_,D=>D
 |r::L,i,D=>plF L (i+1) (D.put (.int .i64 r.pos) (.lit (.int .i64 (i:Nat))))
theorem gJ:∀(L:List RW) (r:RW) (i:Nat) (D:DataW Unit),plF (L++[r]) i D=(plF L i D).put (.int .i64 r.pos) (.lit (.int .i64 ((i+L.length:Nat):Int)))
 |[],r,i,D=>by simp[plF]
 |q::L,r,i,D=>by
  rw[List.cons_append,plF,plF,gJ L r (i+1)];rw[show i+1+L.length=i+(q::L).length by simp;omega]
theorem ew(p:Int)(z:DataW Unit):∀(L:List RW) (i:Nat) (D:DataW Unit) (acc:Option Nat),Maps.IsMap D->D.atKey (.int .i64 p) z=(match acc with|some k=> .lit (.int .i64 (k:Nat))|none=>z)->
  (plF L i D).atKey (.int .i64 p) z=(match ixF p L i acc with|some k=> .lit (.int .i64 (k:Nat))|none=>z)
 |[],i,D,acc,_,h=>h
 |r::L,i,D,acc,hD,h=>by
  rw[plF,ixF];refine ew p z L (i+1) _ _ (hD.put _ _) ?_;by_cases h2:r.pos=p
  ·rw[if_pos h2,h2,Maps.atKey_put_same hD (by trivial)]
  rw[if_neg h2,Maps.atKey_put_other (by intro h;cases h;exact h2 rfl)]
  exact h
def rg(L:List RW):DataW Unit:=plF L 0 (.map [])
theorem qC(L:List RW)(p:Int)(z:DataW Unit):(rg L).atKey (.int .i64 p) z=(match wF L p with|some k=> .lit (.int .i64 (k:Nat))|none=>z):=
 ew p z L 0 _ none Maps.isMap_empty rfl
def sU(w:World)(b:Nat)(L:List RW):Prop:=w.ownsMap prog 3 (plainElem (H:=Unit) prog 3) b L.length (rg L)
theorem eY(w:World):(zeroValue 3).run prog w= .ok (.int .i64 0) w:=by kernel_rfl
theorem E4t{w:World}{b:Nat}{L:List RW}(h:sU w b L)(p:Int)(hp:xZ p):
  (Instr.lookup 115 (.map (some b)) (.int .i64 p) false).run prog w= .ok (.int .i64 (((wF L p).getD 0:Nat):Int)) w:=by
 obtain⟨c,Xa,Yq,_⟩:=h.lookup_int (int_keyed underlying3) underlying115 underlying3 (eY w) (Maps.keyOf_int_mk underlying3 hp);rw[qC]at Yq;rw[Xa]
 cases hx:wF L p with
 |none=>rw[hx]at Yq;simp at Yq;simp[<-Yq]
 |some k=>rw[hx]at Yq;simp at Yq;simp[<-Yq]
theorem aD{w:World}{b:Nat}{L:List RW}(h:sU w b L)(p:Int)(hp:xZ p):
  (Instr.lookup 115 (.map (some b)) (.int .i64 p) true).run prog w= .ok (.tuple #[.int .i64 (((wF L p).getD 0:Nat):Int),.bool (wF L p).isSome]) w:=by
 obtain⟨v,ps,Xa,hv⟩:=h.look_ok (int_keyed underlying3) underlying115 (eY w) (plainElem_int underlying3 (a:=0) (by decide)) (Maps.keyOf_int_mk underlying3 hp);obtain⟨c,rfl,hc,_⟩:=plainElem_int_inv underlying3 hv;simp only[Prod.mk.injEq]at hc;have Yq:=hc.1;have hn:=qC L p .nil;rw[qC]at Yq;rw[Xa]
 cases hx:wF L p with
 |none=>
  rw[hx]at Yq hn;simp only at Yq hn;rw[Maps.has_false_of_atKey (fun z=>by rw[qC,hx])];simp at Yq;simp[<-Yq]
 |some k=>
 rw[hx]at Yq hn;simp only at Yq hn;rw[Maps.has_true_of_atKey (fun z=>by rw[qC,hx])];simp at Yq;simp[<-Yq]
def E8a(L:List RW)(w:World)(e:Ending)(w':World):Prop:=∃b,e= .returned (.map (some b))/\w.heap.size<=b/\sU w' b L/\Below w.heap.size w w'
theorem bZ(w:World)(a:Option Addr)(n cap:Nat)(L:List RW)(hs:Rs w a n L)(hn:n<=65536)(hw:∀r∈L,xZ r.pos):Calls prog 54 #[.slice a n cap] w (E8a L w):=by
 have HS:=Z' hs;have Zd:=Z' hs.1;have HW:=Z' hw;have Vj:= @run_makeMap prog;clear hs hw;go_enter func54,ntmps54
 go_wp2_with fail
 clear Vj
 go_loopg [9] n (fun gn i wr=>∃j:Nat,j<=n/\gn=n-j/\i= .int .i64 j/\Hid (wr.ownsMap prog 3 (plainElem (H:=Unit) prog 3) w.heap.size j (rg (L.take j)))/\Hid (Below w.heap.size w wr))
 case atStart=>exact⟨0,by omega,by omega,by go_num,Z' (World.ownsMap_made _ _ _ _),Z' (Z6.alloc Z5 _)⟩
 obtain⟨j,hj,rfl,rfl,HM,HB⟩:=hrel;by_cases ZX:j<n
 ·obtain⟨b,off,r,rfl,_,hr,q⟩:=(HS.out.below HB.out).at j ZX;obtain⟨q0,q1,q2,q3⟩:=q;have Mz:=HW.out r (List.mem_of_getElem? hr)
  have HN:=Z' (show rg (L.take (j+1))=(rg (L.take j)).put (.int .i64 r.pos) (.lit (.int .i64 (j:Nat))) by
   have YP:=(Z4 hr).1;have he:=(Z4 hr).2;unfold rg;rw[List.take_succ_eq_append_getElem YP,gJ,he,List.length_take,Nat.min_eq_left (by omega),Nat.zero_add])
  have j1:(j:Int)<n:=by omega
  have DG:(Lit.int .i64 (j:Int)).wf=true:=xp (by omega);clear hr;obtain⟨p,k,x,y⟩:=r;simp only at q0 q1 q2 q3 Mz HN;obtain⟨w',Xa,Zk,Vq⟩:=(HM.out.alloc (.cells #[.int .i64 p,.int .u8 (k:Nat),.int .i64 x,.int .i64 y] 118)).store (int_keyed underlying3) underlying115 (by unfold maxLen;omega) (val:= .int .i64 (j:Nat)) (Maps.keyOf_int_mk underlying3 Mz) (plainElem_int underlying3 DG);have Wy:=Z' Zk
  have ZT:=Z' ((HB.out.alloc HB.out.size (.cells #[.int .i64 p,.int .u8 (k:Nat),.int .i64 x,.int .i64 y] 118)).grown Vq.grown (Nat.le_trans HB.out.size (by simp)) (fun m hm=>by cases hm;exact Nat.le_refl _))
  clear Zk Vq Mz DG
  go_wp2_with fail
  go_roundg (n-(j+1))
  case measure=>omega
  exact⟨j+1,by omega,rfl,by go_num,Z' (by rw[HN.out];exact Wy.out),ZT⟩
 obtain rfl:j=n:=by omega
 have HE:=Z' HM.out;rw[List.take_of_length_le (by rw[Zd.out];exact Nat.le_refl _)]at HE
 go_wp2_with fail
 go_ret;exact⟨_,rfl,Nat.le_refl _,by unfold sU;rw[Zd.out];exact HE.out,HB.out⟩
end
section
open Go.ChangeShapes Go.WideShapes Go.ChangeAt Go.RowKit
def plV(L:List RW)(cn:Nat)(n:Int)(en:Bool):Nat:=if en=true/\n=cn then L.length else(wF L n).getD 0
def plC(L:List RW)(cn:Nat)(n:Int)(en:Bool):Bool:=(en&&decide (n=cn))||(wF L n).isSome
structure kA(w:World)(gm gl ga gk g:Nat)(m:KM)(la:Option Addr)(ln lc:Nat)(L:List RW)(b:Nat):Prop where
 m:w.heap[gm]? =some (.cells m.cells.toArray 65 (0,0))
 l:w.heap[gl]? =some (.cells #[.slice la ln lc] 112 (0,0))
 a:w.heap[ga]? =some (.cells #[.map (some b)] 115 (0,0))
 k:w.heap[gk]? =some (.cells #[.pointer (some ⟨g,0,none⟩)] 70 (0,0))
 p:sU w b L
 len:ln=L.length
 nm:gm≠g
 nl:gl≠g
 na:ga≠g
 nk:gk≠g
 nb:b≠g
theorem sU.keep{w w':World}{b:Nat}{L:List RW}{p:Nat->Prop}(h:sU w b L)(hk:yZ p w w')(hp:¬p b):sU w' b L:=by
 have hg:World.grownBy w' w' none:=⟨rfl,rfl,rfl,Nat.le_refl _,fun _ _ _=>rfl⟩;obtain⟨es,clock,hb,F,hn,hD⟩:=h;exact⟨es,clock,by rw[hk.block b (Array.getElem?_eq_some_iff.1 hb).1 hp];exact hb,F,hn,hD⟩
theorem pA(w:World)(g:Nat)(a:Option Addr)(n cap:Nat)(K:List KV)(er:Int)(gm gl ga gk:Nat)(m:KM)(la:Option Addr)(ln lc:Nat)(L:List RW)(b:Nat)(p:Int)(en:Bool)(hp:xZ p)(Yf:m.cn<=9223372036854775807)(Wp:ln<=65536)
  (h:LfS w g a n cap K er) (hs:kA w gm gl ga gk g m la ln lc L b):
  Calls prog 56 #[.int .i64 p,.bool en,.pointer (some ⟨gm,0,none⟩),.pointer (some ⟨gl,0,none⟩),.pointer (some ⟨ga,0,none⟩),.pointer (some ⟨gk,0,none⟩)] w (kk (.int .i64 (plV L m.cn p en:Nat)) g a n cap K (yj er (plC L m.cn p en) 2) w):=by
 have HS:=Z' hs;have HN:=Z' (fun ok=>tH w g a n cap K er ok 2 h);have H:=Z' h;have m5:w.cell? ⟨gm,5,none⟩=some (.slice m.ca m.cn m.cc):=y8 hs.m 5 rfl;have l0:w.cell? ⟨gl,0,none⟩=some (.slice la ln lc):=y8 hs.l 0 rfl;have a0:w.cell? ⟨ga,0,none⟩=some (.map (some b)):=y8 hs.a 0 rfl;have k0:w.cell? ⟨gk,0,none⟩=some (.pointer (some ⟨g,0,none⟩)):=y8 hs.k 0 rfl;have VM:=aD hs.p p hp
 have HV:plV L m.cn p en=if en=true/\p=m.cn then L.length else(wF L p).getD 0:=rfl
 have HC:plC L m.cn p en=((en&&decide (p=m.cn))||(wF L p).isSome):=rfl;have Xx:=Z' hs.len;generalize plV L m.cn p en=V at*;generalize plC L m.cn p en=C at*;generalize(wF L p).getD 0=x at*;generalize(wF L p).isSome=s at*;generalize m.cn=cn at*;generalize m.ca=ca at*;generalize m.cc=cc at*;clear h hs hp;have c0:(0:Int)<=cn:=by omega
 have c1:(cn:Int)<=9223372036854775807:=by omega
 cases en
 ·have hV:V=x:=by rw[HV,if_neg (by simp)]
  have hC:C=s:=by rw[HC];rfl
  subst hV hC;clear HV HC;go_enter func56,ntmps56
  go_wp2_with fail
  refine(HN.out C).mono ?_;rintro e W3 ⟨rfl,hl,hk⟩
  go_wp2_with fail
  go_ret;exact⟨rfl,hl,hk⟩
 by_cases he:p=cn
 ·have e1:(p==(cn:Int))=true:=by simpa using he
  have hV:V=ln:=by rw[HV,if_pos ⟨rfl,he⟩,Xx.out]
  have hC:C=true:=by rw[HC,decide_eq_true he];rfl
  have hE:yj er true 2=er:=by unfold yj;rw[if_neg (fun h=>absurd h.1 (by decide))]
  subst hV hC;rw[hE];clear HV HC he hE;go_enter func56,ntmps56
  go_wp2_with fail
  go_ret;exact⟨rfl,H.out,yZ.refl _ _⟩
 have e1:(p==(cn:Int))=false:=by simpa using he
 have hV:V=x:=by rw[HV,if_neg (fun h=>he h.2)]
 have hC:C=s:=by rw[HC,decide_eq_false he];rfl
 subst hV hC;clear HV HC he;go_enter func56,ntmps56
 go_wp2_with fail
 refine(HN.out C).mono ?_;rintro e W3 ⟨rfl,hl,hk⟩
 go_wp2_with fail
 go_ret;exact⟨rfl,hl,hk⟩
theorem Sl.litZ(w:World)(n:Nat)(l:List Int)(t:TypeId)(hn:n=l.length):Sl pR (w.alloc (.cells (l.map pR).toArray t)) (some ⟨w.heap.size,0,none⟩) n l:=by
 subst hn;refine⟨rfl,fun _=>⟨w.heap.size,0,rfl,by simp,fun i hi=> ?_⟩⟩;rw[cell_of_row _ w.heap.size (0+i) _ _ _ (heap_alloc_last w _)];simp[hi]
theorem Sl.getZ{w:World}{a:Option Addr}{n:Nat}{l:List Int}(h:Sl pR w a n l)(j:Nat)(hj:j<n):∃b off v,a=some ⟨b,off,none⟩/\b<w.heap.size/\l[j]? =some v/\w.cell? ⟨b,off+j,none⟩=some (.int .i64 v):=by
 obtain⟨b,off,ha,ZX,hc⟩:=h.2 (by omega);have hl:j<l.length:=by rw[h.1];exact hj
 exact⟨b,off,l[j],ha,ZX,List.getElem?_eq_getElem hl,hc j hl⟩
theorem vW(odd A p:Bool):(odd|| !(A&&p))=((odd|| !A)|| !p):=by cases odd<;>cases A<;>cases p<;>rfl
theorem fX(w:World)(g:Nat)(a:Option Addr)(n cap:Nat)(L:List KV)(odd:Bool)(za:Option Addr)(zn zc:Nat)(l:List Int)(h:LkS w g a n cap L odd)(hz:Sl pR w za zn l)(ho:wX za zn g)(Jh:zn<=1000):
  Calls prog 90 #[.pointer (some ⟨g,0,none⟩),.slice za zn zc] w (rE g a n cap L (odd|| !l.all xe) w):=by
 have H:=Z' h;have HZ:=Z' hz;have M9:=Z' hz.1;have HO:=Z' ho;clear h hz ho;go_enter func90,ntmps90
 go_wp2_with fail
 go_loopg [8] zn (fun gn i wr=>∃j:Nat,j<=zn/\gn=zn-j/\i= .int .i64 j/\Hid (LkS wr g a n cap L (odd|| !(l.take j).all xe))/\Hid (xV g w wr))
 case atStart=>exact⟨0,by omega,by omega,by go_num,Z' (by simpa using H.out),Z' (xV.refl _ _)⟩
 obtain⟨j,hj,rfl,rfl,HL,HK⟩:=hrel;by_cases ZX:j<zn
 ·obtain⟨b,off,v,rfl,_,hv,q0⟩:=(HZ.out.keep1 HK.out HO.out).getZ j ZX;have HA:=Z' (show(odd|| !(l.take (j+1)).all xe)=((odd|| !(l.take j).all xe)|| !xe v) by rw[tX _ _ _ _ hv,vW]);have HN:=Z' (wP wr g a n cap L (odd|| !(l.take j).all xe) (xe v) HL.out);clear hv;have XZ:(j:Int)<zn:=by omega
  by_cases WB:0<=v
  ·by_cases Sz:v<=65535
   ·have HW:=Z9 (xe v=true) (decide_eq_true ⟨WB,Sz⟩);have e0:=decide_eq_true WB;have e1:=decide_eq_true Sz;rw[HW.out]at HN HA;clear WB Sz
    go_wp2_with fail
    refine HN.out.mono ?_;rintro e w1 ⟨rfl,h1,h2⟩
    go_wp2_with fail
    go_roundg (zn-(j+1))
    case measure=>omega
    exact⟨j+1,by omega,rfl,by go_num,Z' (by rw[HA.out];exact h1),Z' (HK.out.trans h2)⟩
   have HW:=Z9 (xe v=false) (decide_eq_false fun h=>Sz h.2);have e0:=decide_eq_true WB;have e1:=decide_eq_false Sz;rw[HW.out]at HN HA;clear WB Sz
   go_wp2_with fail
   refine HN.out.mono ?_;rintro e w1 ⟨rfl,h1,h2⟩
   go_wp2_with fail
   go_roundg (zn-(j+1))
   case measure=>omega
   exact⟨j+1,by omega,rfl,by go_num,Z' (by rw[HA.out];exact h1),Z' (HK.out.trans h2)⟩
  have HW:=Z9 (xe v=false) (decide_eq_false fun h=>WB h.1);have e0:=decide_eq_false WB;rw[HW.out]at HN HA;clear WB
  go_wp2_with fail
  refine HN.out.mono ?_;rintro e w1 ⟨rfl,h1,h2⟩
  go_wp2_with fail
  go_roundg (zn-(j+1))
  case measure=>omega
  exact⟨j+1,by omega,rfl,by go_num,Z' (by rw[HA.out];exact h1),Z' (HK.out.trans h2)⟩
 obtain rfl:j=zn:=by omega
 have HE:=Z' (show l.take j=l by rw[List.take_of_length_le (by rw[M9.out];exact Nat.le_refl _)]);rw[HE.out]at HL
 go_wp2_with fail
 go_end0;exact⟨rfl,HL.out,HK.out⟩
theorem js(w:World)(g:Nat)(a:Option Addr)(n cap:Nat)(L:List KV)(odd:Bool)(za:Option Addr)(zn zc:Nat)(l:List KS)(most:Int)(h:LkS w g a n cap L odd)(hz:Ss 2 KS.cells w za zn l)(ho:wX za zn g)(Jh:zn<=1000000000):
  Calls prog 91 #[.pointer (some ⟨g,0,none⟩),.slice za zn zc,.int .i64 most] w (rE g a n cap L (odd|| !vx L most l) w):=by
 have DY:=Z' (wP w g a n cap L odd (decide ((zn:Int)<=most)) h);have HZ:=Z' hz;have M9:=Z' hz.1;have HO:=Z' ho;have HR:=Z' (show(odd|| !vx L most l)=((odd|| !decide ((zn:Int)<=most))|| !l.all (wT L)) by unfold vx;rw[hz.1,vW]);rw[HR.out];clear h hz ho;go_enter func91,ntmps91
 go_wp2_with fail
 refine DY.out.mono ?_;rintro e w0 ⟨rfl,h1,h2⟩;have H:=Z' h1;have YX:=Z' h2;generalize(odd|| !decide ((zn:Int)<=most))=odd at*;clear h1 h2 DY HR
 go_wp2_with fail
 go_loopg [16] zn (fun gn i wr=>∃j:Nat,j<=zn/\gn=zn-j/\i= .int .i64 j/\Hid (LkS wr g a n cap L (odd|| !(l.take j).all (wT L)))/\Hid (xV g w wr))
 case atStart=>exact⟨0,by omega,by omega,by go_num,Z' (by simpa using H.out),YX⟩
 obtain⟨j,hj,rfl,rfl,HL,HK⟩:=hrel;by_cases ZX:j<zn
 ·obtain⟨b,off,s,rfl,_,hv,q⟩:=(Ss.keep1 HZ.out HK.out HO.out).getC j ZX;have HA:=Z' (show(odd|| !(l.take (j+1)).all (wT L))=((odd|| !(l.take j).all (wT L))|| !wT L s) by rw[tX _ _ _ _ hv,vW]);obtain⟨tg,sa⟩:=s;have q0:wr.cell? ⟨b,off+j*2,none⟩=some (.int .i64 tg):=q 0 (by omega);have q1:wr.cell? ⟨b,off+j*2+1,none⟩=some (.int .i64 sa):=q 1 (by omega);clear q hv;generalize(odd|| !(l.take j).all (wT L))=od at*;have XZ:(j:Int)<zn:=by omega
  have hb:Below wr.heap.size wr (wr.alloc (.cells #[.int .i64 tg,.int .i64 sa] 174)):=yV _ _;have XA:=Z' (HL.out.below hb);have Za:=Z' (HK.out.trans (xV.of hb));have p0:=y8 (heap_alloc_last wr (.cells #[.int .i64 tg,.int .i64 sa] 174)) 0 rfl;have p1:=y8 (heap_alloc_last wr (.cells #[.int .i64 tg,.int .i64 sa] 174)) 1 rfl;simp only[List.getElem?_toArray,List.getElem_toArray,List.getElem_cons_zero,List.getElem_cons_succ]at p0 p1;clear hb HL HK
  go_upto_region 4 with fail
  clear q0 q1;generalize wr.alloc _=W1 at*;by_cases h7:tg=7
  ·subst h7;have HW:=Z9 (wT L ⟨7,sa⟩=clsOk L sa) rfl
   go_wp2_with fail
   refine(pD W1 g a n cap L od sa XA.out).mono ?_;rintro e w1 ⟨rfl,h1,h2⟩
   go_wp2_with fail
   go_roundg (zn-(j+1))
   case measure=>omega
   exact⟨j+1,by omega,rfl,by go_num,Z' (by rw[HA.out,HW.out];exact h1),Z' (Za.out.trans h2)⟩
  by_cases h4:tg=0\/tg=1\/tg=4\/tg=5
  ·have HW:=Z' (show wT L ⟨tg,sa⟩=(sa==0) by unfold wT;rw[if_neg h7,decide_eq_true h4];rfl);clear h7
   rcases h4 with rfl|rfl|rfl|rfl
   ·go_wp2_with fail
    refine(wP W1 g a n cap L od (sa==0) XA.out).mono ?_;rintro e w1 ⟨rfl,h1,h2⟩
    go_wp2_with fail
    go_roundg (zn-(j+1))
    case measure=>omega
    exact⟨j+1,by omega,rfl,by go_num,Z' (by rw[HA.out,HW.out];exact h1),Z' (Za.out.trans h2)⟩
   ·go_wp2_with fail
    refine(wP W1 g a n cap L od (sa==0) XA.out).mono ?_;rintro e w1 ⟨rfl,h1,h2⟩
    go_wp2_with fail
    go_roundg (zn-(j+1))
    case measure=>omega
    exact⟨j+1,by omega,rfl,by go_num,Z' (by rw[HA.out,HW.out];exact h1),Z' (Za.out.trans h2)⟩
   ·go_wp2_with fail
    refine(wP W1 g a n cap L od (sa==0) XA.out).mono ?_;rintro e w1 ⟨rfl,h1,h2⟩
    go_wp2_with fail
    go_roundg (zn-(j+1))
    case measure=>omega
    exact⟨j+1,by omega,rfl,by go_num,Z' (by rw[HA.out,HW.out];exact h1),Z' (Za.out.trans h2)⟩
   go_wp2_with fail
   refine(wP W1 g a n cap L od (sa==0) XA.out).mono ?_;rintro e w1 ⟨rfl,h1,h2⟩
   go_wp2_with fail
   go_roundg (zn-(j+1))
   case measure=>omega
   exact⟨j+1,by omega,rfl,by go_num,Z' (by rw[HA.out,HW.out];exact h1),Z' (Za.out.trans h2)⟩
  have HW:=Z' (show wT L ⟨tg,sa⟩=false by unfold wT;rw[if_neg h7,decide_eq_false h4];rfl);have e7:(tg==7)=false:=beq_eq_false_iff_ne.2 h7;have e0:(tg==0)=false:=beq_eq_false_iff_ne.2 (by omega);have e1:(tg==1)=false:=beq_eq_false_iff_ne.2 (by omega);have e4:(tg==4)=false:=beq_eq_false_iff_ne.2 (by omega);have e5:(tg==5)=false:=beq_eq_false_iff_ne.2 (by omega);clear h7 h4
  go_wp2_with fail
  refine(wP W1 g a n cap L od false XA.out).mono ?_;rintro e w1 ⟨rfl,h1,h2⟩
  go_wp2_with fail
  go_roundg (zn-(j+1))
  case measure=>omega
  exact⟨j+1,by omega,rfl,by go_num,Z' (by rw[HA.out,HW.out];exact h1),Z' (Za.out.trans h2)⟩
 obtain rfl:j=zn:=by omega
 have HE:=Z' (show l.take j=l by rw[List.take_of_length_le (by rw[M9.out];exact Nat.le_refl _)]);rw[HE.out]at HL
 go_wp2_with fail
 go_end0;exact⟨rfl,HL.out,HK.out⟩
theorem D8i(v:BitVec 64)(h:v&&& ~~~8#64=0#64):v=0#64\/v=8#64:=by
 have hb:∀i,i≠3->v.getLsbD i=false:=by
  intro i hi;have h1:=congrArg (fun b=>b.getLsbD i) h
  have h8:(8#64).getLsbD i=false:=by
   rw[show(8#64)=BitVec.twoPow 64 3 by decide,BitVec.getLsbD_twoPow];simp;omega
  simp only[BitVec.getLsbD_and,BitVec.getLsbD_not,h8,Bool.not_false,Bool.and_true,BitVec.getLsbD_zero]at h1;by_cases hl:i<64
  ·simpa[hl]using h1
  exact BitVec.getLsbD_of_ge v i (by omega)
 cases h3:v.getLsbD 3
 ·left;apply BitVec.eq_of_getLsbD_eq;intro i hi;by_cases MK:i=3
  ·subst MK;rw[h3];rfl
  rw[hb i MK];simp
 right;apply BitVec.eq_of_getLsbD_eq;intro i hi;by_cases MK:i=3
 ·subst MK;rw[h3];rfl
 rw[hb i MK,show(8#64)=BitVec.twoPow 64 3 by decide,BitVec.getLsbD_twoPow];simp;omega
theorem E3t(fl:Int)(h:yw fl):(bits .andNot .i64 fl 8==0)=decide (fl=0\/fl=8):=by
 have hd:bits .andNot .i64 fl 8=IntKind.i64.wrap (((BitVec.ofInt 64 fl&&& ~~~8#64).toNat:Nat):Int):=rfl;by_cases h0:fl=0\/fl=8
 ·rw[decide_eq_true h0]
  rcases h0 with rfl|rfl<;>decide
 rw[decide_eq_false h0,beq_eq_false_iff_ne,hd];intro hw
 have hz:(BitVec.ofInt 64 fl&&& ~~~8#64)=0#64:=by
  apply BitVec.eq_of_toNat_eq;have hl:=(BitVec.ofInt 64 fl&&& ~~~8#64).isLt;rw[IntKind.wrap_i64]at hw;simp only[BitVec.toNat_ofNat,Nat.zero_mod];omega
 unfold yw at h;have ht:(BitVec.ofInt 64 fl).toInt=fl:=by rw[BitVec.toInt_ofInt,Int.bmod_def];omega
 rcases D8i _ hz with h8|h8
 ·rw[h8]at ht;exact h0 (.inl (ht.symm.trans (by decide)))
 rw[h8]at ht;exact h0 (.inr (ht.symm.trans (by decide)))
theorem jA(w:World)(g:Nat)(a:Option Addr)(n cap:Nat)(L:List KV)(odd:Bool)(fl nm ds:Int)(h:LkS w g a n cap L odd)(hf:yw fl):
  Calls prog 46 #[.pointer (some ⟨g,0,none⟩),.int .i64 fl,.int .i64 nm,.int .i64 ds] w (rE g a n cap L (odd|| !xK L fl nm ds) w):=by
 have H:=Z' h;have HR:=Z' (show(odd|| !xK L fl nm ds)=(((odd|| !decide (fl=0\/fl=8))|| !isT L nm 1)|| !isT L ds 1) by unfold xK;rw[vW,vW]);rw[HR.out];have e8:=E3t fl hf;generalize decide (fl=0\/fl=8)=b8 at*;have HN:=Z' (wP w g a n cap L odd b8 h);clear h;go_enter func46,ntmps46
 go_wp2_with fail
 refine HN.out.mono ?_;rintro e w1 ⟨rfl,h1,k1⟩;have H1:=Z' h1;have Za:=Z' k1;clear h1 k1
 go_wp2_with fail
 refine(ij w1 g a n cap L _ nm H1.out).mono ?_;rintro e w2 ⟨rfl,h2,k2⟩;have H2:=Z' h2;have Y0:=Z' (Za.out.trans k2);clear h2 k2
 go_wp2_with fail
 refine(ij w2 g a n cap L _ ds H2.out).mono ?_;rintro e w3 ⟨rfl,h3,k3⟩;have ZL:=Z' (Y0.out.trans k3)
 go_wp2_with fail
 go_end0;exact⟨rfl,h3,ZL.out⟩
end
end Go.Proofs.YtclpkipaehpkdaaGreatDoor
