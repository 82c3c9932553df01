/- asm -/
import Derived.Test.YtclpkipaehpkdaaGreatDoorQ07AsmMade
import Derived.Test.YtclpkipaehpkdaaGreatDoorQ05AsmMade
import Derived.Laws.EntriesVeiled
import Derived.Test.YtclpkipaehpkdaaGreatDoorQ06AsmMade
import Derived.StillTailTactics
set_option linter.unusedVariables false
set_option linter.unusedSimpArgs false
set_option maxRecDepth 100000
set_option maxHeartbeats 64000000
namespace Go.Proofs.YtclpkipaehpkdaaGreatDoor
section
open Go.ChangeShapes Go.WideShapes Go.ChangeAt Go.RowKit
theorem B8r:Tryz.prog.underlying 61=some (.struct (Tryz.prog.fieldsOf 61)):=by kernel_rfl
theorem C4x:Tryz.prog.stoodInHeld 61=false:=by kernel_rfl
theorem C2d:Tryz.prog.eqGuardType Tryz.prog.depth 61=false:=by kernel_rfl
theorem C5h:(Tryz.prog.fieldsOf 61).toList.map (fun f=>(f.name,f.type,f.offset))=[("Tag",3,0),("A",3,1),("B",3,2),("N",2,3),("S",9,4)]:=by kernel_rfl
def B7f(c d:KV):Bool:=decide (c.tag=d.tag/\c.a=d.a/\c.b=d.b/\c.n=d.n/\c.s=d.s)
theorem A5y(l:List UInt8):(⟨l.toArray⟩:ByteArray).toList=l:=by rw[ByteArray.toList_eq]
theorem C5i(w:World)(d:Nat)(x y:KV):(Op.equalIn (d+1+1) 61 (kV x) (kV y)).run Tryz.prog w= .ok (B7f x y) w:=by
 unfold kV;rw[run_equalIn_struct w (d+1) _ _ _ B8r C4x];have hl:=C5h
 match hf:(Tryz.prog.fieldsOf 61).toList,hl with
 |[f0,f1,f2,f3,f4],hl=>
  simp only[List.map_cons,List.map_nil,List.cons.injEq,Prod.mk.injEq,and_true]at hl;obtain⟨⟨n0,t0,o0⟩,⟨n1,t1,o1⟩,⟨n2,t2,o2⟩,⟨n3,t3,o3⟩,⟨n4,t4,o4⟩⟩:=hl
  simp only[Op.eqFields,n0,n1,n2,n3,n4,t0,t1,t2,t3,t4,o0,o1,o2,o3,o4]
  have b:∀(e:Value) (i:Nat) (t:TypeId) (d':TypeDesc) (cs:Array Value) (w:World),Tryz.prog.underlying t=some d'->(match d' with| .struct _| .array _ _=>false|_=>true)=true->cs[i]? =some e->(part t cs i).run Tryz.prog w= .ok e w:=by
   intro e i t d' cs w h1 h2 h3
   cases d'<;>simp[part,isAgg,run_underlying h1,h3]at h2⊢
  have i0:∀(i:Nat) (cs:Array Value) (w:World) (h:i<cs.size),(part 3 cs i).run Tryz.prog w= .ok cs[i] w:=fun i cs w h=>b _ i _ _ cs w Tryz.underlying3 rfl (Array.getElem?_eq_getElem h)
  have i3:∀(i:Nat) (cs:Array Value) (w:World) (h:i<cs.size),(part 2 cs i).run Tryz.prog w= .ok cs[i] w:=fun i cs w h=>b _ i _ _ cs w Tryz.underlying2 rfl (Array.getElem?_eq_getElem h)
  have i4:∀(i:Nat) (cs:Array Value) (w:World) (h:i<cs.size),(part 9 cs i).run Tryz.prog w= .ok cs[i] w:=fun i cs w h=>b _ i _ _ cs w Tryz.underlying9 rfl (Array.getElem?_eq_getElem h)
  by_cases g0:x.tag=y.tag
  ·by_cases g1:x.a=y.a
   ·by_cases g2:x.b=y.b
    ·by_cases g3:x.n=y.n
     ·simp[i0,i3,i4,run_equalIn_int _ _ _ _ _ _ _ Tryz.underlying3,run_equalIn_int _ _ _ _ _ _ _ Tryz.underlying2,run_equalIn_string _ _ _ _ _ Tryz.underlying9,g0,g1,g2,g3,B7f,A5y]
      by_cases g4:x.s=y.s<;>simp[g4]
     simp[i0,i3,i4,run_equalIn_int _ _ _ _ _ _ _ Tryz.underlying3,run_equalIn_int _ _ _ _ _ _ _ Tryz.underlying2,g0,g1,g2,g3,B7f]
    simp[i0,i3,i4,run_equalIn_int _ _ _ _ _ _ _ Tryz.underlying3,g0,g1,g2,B7f]
   simp[i0,run_equalIn_int _ _ _ _ _ _ _ Tryz.underlying3,g0,g1,B7f]
  simp[i0,run_equalIn_int _ _ _ _ _ _ _ Tryz.underlying3,g0,B7f]
 |[],hl|[_],hl|[_,_],hl|[_,_,_],hl|[_,_,_,_],hl|_::_::_::_::_::_::_,hl=>simp at hl
theorem D1t(w:World)(x y:KV)(o1 o2:Operand):((eqGuard .neq 61 o1 o2 (kV x) (kV y)).run Tryz.prog w).andThen (fun _ w'=>(binOp .neq 61 (kV x) (kV y)).run Tryz.prog w')= .ok (.bool (!B7f x y)) w:=by
 have h:=C5i w 9998 x y;unfold kV at h⊢;rw[run_eqGuard_agg w _ _ _ _ _ _ C2d,Result.andThen_ok,run_neq_struct,h,Result.andThen_ok]
theorem C6v(c:KV):B7f c (A6j c)=A4r c:=by
 obtain⟨t,a,b,n,s⟩:=c;unfold B7f A6j A4r wrap32;rw[Bool.eq_iff_iff]
 by_cases h1:t=1<;>by_cases h3:t=3<;>by_cases h5:t=5<;>by_cases h9:t=9<;>by_cases h10:t=10<;>by_cases h12:t=12<;>by_cases h7:t=7<;>by_cases h8:t=8<;>first|(exfalso;omega)|(simp[h1,h3,h5,h9,h10,h12,h7,h8];done)|(simp[h1,h3,h5,h9,h10,h12,h7,h8];omega)|(simp[h1,h3,h5,h9,h10,h12,h7,h8];grind)
theorem B2m{P:Program}{ρ:Operand->Value}{o:Oper}{op:BinOp}{t:TypeId}{x y:Operand}{ty:TypeId}(ho:o.op= .binOp op t x y ty){v:Value}{w:World}
  (h:((eqGuard op t x y (ρ x) (ρ y)).run P w).andThen (fun _ w'=>(binOp op t (ρ x) (ρ y)).run P w')= .ok v w):(execOp ρ o).run P w= .ok (.value v) w:=by
 unfold execOp;simp only[ho,Sem.run_bind,Sem.run_pure];rw[h];rfl
def C4e(L:List KV)(w:World)(e:Ending)(w':World):Prop:=e= .returned (.int .i64 (if A6f L then 0 else 8))/\Below w.heap.size w w'
theorem B5t{L:List KV}(h:L.length=0\/1024<L.length):A6f L=false:=by
 unfold A6f
 rcases h with h|h
 ·rw[decide_eq_false (show ¬1<=L.length by omega)];rfl
 rw[decide_eq_false (show ¬L.length<=1024 by omega)];simp
theorem C5v{L:List KV}(h:(kAt L 0).tag≠0):A6f L=false:=by
 unfold A6f;rw[decide_eq_false h];simp
theorem C6r{L:List KV}(j:Nat)(hj:j<L.length)(h:A8y L j=false):A6f L=false:=by
 unfold A6f
 have:(List.range L.length).all (A8y L)=false:=by
  rw[List.all_eq_false];exact⟨j,by simpa using hj,by simp[h]⟩
 rw[this];simp
theorem C1b{L:List KV}(h1:1<=L.length)(h2:L.length<=1024)(h3:(kAt L 0).tag=0)(h:∀k,k<L.length->A8y L k=true):A6f L=true:=by
 unfold A6f;rw[decide_eq_true h1,decide_eq_true h2,decide_eq_true h3];simp;exact h
theorem D1f(w:World)(a:Option Addr)(n cap:Nat)(L:List KV)(hs:Ks w a n L)(hn:n<=65536)(hl:∀i:Nat,i<n->(kAt L i).s.length<=65536):Calls Tryz.prog 43 #[.slice a n cap] w (C4e L w):=by
 have hL:=hs.1;by_cases h0:n=0
 ·subst h0;have HR:=hzz (B5t (L:=L) (.inl hL));clear hs hl;go_enter Tryz.func43,Tryz.ntmps43
  go_wp2_with fail
  go_ret;exact⟨by rw[HR.out];rfl,brz⟩
 by_cases hm:1024<n
 ·have HR:=hzz (B5t (L:=L) (.inr (by omega)));have e0:((n:Int)==0)=false:=by simp;omega
  have e1:decide ((1024:Int)<n)=true:=by simp;omega
  clear hs hl h0 hL;go_enter Tryz.func43,Tryz.ntmps43
  go_wp2_with fail
  go_ret;exact⟨by rw[HR.out];rfl,brz⟩
 obtain⟨b,off,rfl,hbl,hk⟩:=hs.at 0 (by omega);have p0:=hk.c0;simp only[Nat.zero_mul,Nat.add_zero]at p0;have e0:((n:Int)==0)=false:=by simp;omega
 have e1:decide ((1024:Int)<n)=false:=by simp;omega
 have z0:0<n:=by omega
 by_cases ht:(kAt L 0).tag=0
 ·have p0':w.cell? ⟨b,off,none⟩=some (.int .i64 0):=by rw[p0];rw[<-ht];rfl
  have HS:=hzz hs;have HT:=hzz ht;have HLn:=hzz hL;have HL:=hzz hl;clear hk p0 hs ht hl hL;go_enter Tryz.func43,Tryz.ntmps43
  go_wp2_with fail
  clear p0'
  go_loopg [22] n (fun gn i wr=>∃j:Nat,j<=n/\gn=n-j/\i= .int .i64 j/\Hid (∀k,k<j->A8y L k=true)/\Hid (Below w.heap.size w wr))
  case atStart=>exact⟨0,by omega,by omega,by go_num,hzz (fun k h=>by omega),hzz brz⟩
  obtain⟨j,hj,rfl,rfl,HP,HB⟩:=hrel;by_cases hlt:j<n
  ·obtain⟨b',off',he,_,hk⟩:=(HS.out.below HB.out).at j hlt
   cases he
   obtain⟨q0,q1,q2,q3,q4⟩:=hk;have HCB:=hzz (fun w'=>D4d w' (kAt L j))
   have HCL:=hzz (fun w' (hw:Below w.heap.size w w')=>C9t w' (some ⟨b,off,none⟩) n cap L j (HS.out.below hw) hn hlt (HL.out j hlt))
   have HEQ:=hzz (fun w' o1 o2=>D1t w' (kAt L j) (A6j (kAt L j)) o1 o2);rw[C6v]at HEQ;have HPB:=hzz (C6r (L:=L) j (by rw[HLn.out];exact hlt))
   have HPO:Hid (A8y L j=(A4r (kAt L j)&&A2d L j)):=hzz rfl;generalize A4r (kAt L j)=r1 at*;generalize A2d L j=r2 at*;generalize hvb:kV (A6j (kAt L j))=vb at*
   unfold kV at HCB HEQ;clear hvb;generalize(kAt L j).tag=ct at*;generalize(kAt L j).a=ca at*;generalize(kAt L j).b=cb at*;generalize(kAt L j).n=cn at*;generalize(kAt L j).s=cs at*
   have j1:(j:Int)<n:=by omega
   obtain⟨W0,rfl⟩:=exz (wr)
   go_upto_region 6 with fail
   have l0:=fun(x:Value) (k:Nat) (h:(#[Value.int .i64 ct,.int .i64 ca,.int .i64 cb,.int .i64 cn,.string ⟨cs.toArray⟩])[k]? =some x)=>(cell_of_row (W0.alloc (.cells #[Value.int .i64 ct,.int .i64 ca,.int .i64 cb,.int .i64 cn,.string ⟨cs.toArray⟩] 61)) W0.heap.size k _ _ _ (heap_alloc_last W0 _)).trans h
   have c0:=l0 _ 0 rfl;have c1:=l0 _ 1 rfl;have c2:=l0 _ 2 rfl;have c3:=l0 _ 3 rfl;have c4:=l0 _ 4 rfl
   have HB1:=hzz (HB.out.alloc HB.out.size (.cells #[Value.int .i64 ct,.int .i64 ca,.int .i64 cb,.int .i64 cn,.string ⟨cs.toArray⟩] 61));clear l0 q0 q1 q2 q3 q4;generalize W0.alloc _=W at*
   have d0:=fun w' (h:Below W.heap.size W w')=>A0c h c0
   have d1:=fun w' (h:Below W.heap.size W w')=>A0c h c1
   have d2:=fun w' (h:Below W.heap.size W w')=>A0c h c2
   have d3:=fun w' (h:Below W.heap.size W w')=>A0c h c3
   have d4:=fun w' (h:Below W.heap.size W w')=>A0c h c4
   clear c0 c1 c2 c3 c4
   refine A0h (Below W.heap.size W) (.stir [(0,true),(1,true),(2,false),(3,true),(4,true),(5,true),(6,true),(7,false),(8,true),(9,true)]) (by kernel_rfl) (by kernel_rfl) (fun c a d v w h=>by cases d<;>exact h) ?_
   refine A0m (Below W.heap.size W) (fun _ h=>h) brz.drew ?_
   cases r1
   ·have HR:=hzz (HPB.out (by rw[HPO.out];rfl));clear HPB HPO
    iterate 2
     refine A0i fun K hK=>tkX ?_
     go_simp
     try go_bits
     refine hK _ ?_;clear hK K
    refine A0i (fun K hK=> ?_);simp only[A2c,List.getElem?_toArray,List.getElem?_cons_succ,List.getElem?_cons_zero];rw[if_pos (by rfl)];apply Exists.intro;refine⟨fun w' hS'=> ?_,?_⟩
    ·go_simp;exact A4j.call (Calls.mono ((HCB.out w')) fun e w'' h=>⟨h.1,(fun hb''=>hS'.trans (hb''.mono hS'.size)) h.2⟩)
    go_simp;refine hK _ ?_;clear hK K;refine A0i (fun K hK=> ?_);simp only[A2c,List.getElem?_toArray,List.getElem?_cons_succ,List.getElem?_cons_zero];rw[if_pos (by rfl)]
    refine⟨Value.bool (!false),fun w' hS'=> ?_,?_⟩
    ·exact B2m (by rfl) (HEQ.out w' _ _)
    go_simp;refine hK _ ?_;clear hK K
    iterate 1
     refine A0i fun K hK=>tkX ?_
     go_simp
     try go_bits
     refine hK _ ?_;clear hK K
    iterate 4
     refine A0i fun K hK=>skX ?_
     go_simp;refine hK _ ?_;clear hK K
    iterate 1
     refine A0i fun K hK=>tkX ?_
     go_simp
     try go_bits
     refine hK _ ?_;clear hK K
    refine A0p (fun y hy=> ?_);have HY:=btz HB1 hy;clear hy d0 d1 d2 d3 d4 HCB HCL HEQ
    go_wp2_with fail
    go_ret;exact⟨by rw[HR.out];rfl,HY.out⟩
   iterate 2
    refine A0i fun K hK=>tkX ?_
    go_simp
    try go_bits
    refine hK _ ?_;clear hK K
   refine A0i (fun K hK=> ?_);simp only[A2c,List.getElem?_toArray,List.getElem?_cons_succ,List.getElem?_cons_zero];rw[if_pos (by rfl)];apply Exists.intro;refine⟨fun w' hS'=> ?_,?_⟩
   ·go_simp;exact A4j.call (Calls.mono ((HCB.out w')) fun e w'' h=>⟨h.1,(fun hb''=>hS'.trans (hb''.mono hS'.size)) h.2⟩)
   go_simp;refine hK _ ?_;clear hK K;refine A0i (fun K hK=> ?_);simp only[A2c,List.getElem?_toArray,List.getElem?_cons_succ,List.getElem?_cons_zero];rw[if_pos (by rfl)]
   refine⟨Value.bool (!true),fun w' hS'=> ?_,?_⟩
   ·exact B2m (by rfl) (HEQ.out w' _ _)
   go_simp;refine hK _ ?_;clear hK K
   iterate 3
    refine A0i fun K hK=>tkX ?_
    go_simp
    try go_bits
    refine hK _ ?_;clear hK K
   refine A0i (fun K hK=> ?_);simp only[A2c,List.getElem?_toArray,List.getElem?_cons_succ,List.getElem?_cons_zero];rw[if_pos (by rfl)];apply Exists.intro;refine⟨fun w' hS'=> ?_,?_⟩
   ·go_simp;exact A4j.call (Calls.mono ((HCL.out w' (HB1.out.trans (hS'.mono HB1.out.size)))) fun e w'' h=>⟨h.1,(fun hb''=>hS'.trans (hb''.mono hS'.size)) h.2⟩)
   go_simp;refine hK _ ?_;clear hK K
   cases r2
   ·have HR:=hzz (HPB.out (by rw[HPO.out];rfl));clear HPB HPO
    iterate 2
     refine A0i fun K hK=>tkX ?_
     go_simp
     try go_bits
     refine hK _ ?_;clear hK K
    refine A0p (fun y hy=> ?_);have HY:=btz HB1 hy;clear hy d0 d1 d2 d3 d4 HCB HCL HEQ
    go_wp2_with fail
    go_ret;exact⟨by rw[HR.out];rfl,HY.out⟩
   have HQ:=hzz (show ∀k,k<j+1->A8y L k=true from fun k hk=>by
    rcases Nat.lt_or_ge k j with h|h
    ·exact HP.out k h
    obtain rfl:k=j:=by omega
    rw[HPO.out];rfl)
   clear HPB HPO
   iterate 2
    refine A0i fun K hK=>tkX ?_
    go_simp
    try go_bits
    refine hK _ ?_;clear hK K
   refine A0p (fun y hy=> ?_);have HY:=btz HB1 hy;clear hy d0 d1 d2 d3 d4 HCB HCL HEQ
   go_wp2_with fail
   go_roundg (n-(j+1))
   case measure=>omega
   exact⟨j+1,by omega,rfl,by go_num,HQ,HY⟩
  obtain rfl:j=n:=by omega
  have HR:=hzz (C1b (L:=L) (by rw[HLn.out];omega) (by rw[HLn.out];omega) HT.out (by rw[HLn.out];exact HP.out))
  go_wp2_with fail
  go_ret;exact⟨by rw[HR.out];rfl,HB.out⟩
 have HR:=hzz (C5v (L:=L) ht);generalize(kAt L 0).tag=t at*;have e3:(t !=0)=true:=by simp[ht]
 clear hk ht hs hl;go_enter Tryz.func43,Tryz.ntmps43
 go_wp2_with fail
 go_ret;exact⟨by rw[HR.out];rfl,brz⟩
end
section
open Go.RowKit
theorem A6t(L:List KV)(k:Nat)(h:k<L.length):kAt L (k:Int)=L[k]:=by
 unfold kAt;simp[List.getD,h]
end
section
open Go.ChangeShapes Go.WideShapes Go.ChangeAt Go.RowKit
structure KS where
 tag:Int
 a:Int
def KS.cells(s:KS):List Value:=[.int .i64 s.tag,.int .i64 s.a]
theorem KS.cells_length(s:KS):s.cells.length=2:=rfl
structure KT where
 fr:Int
 tt:Int
 pl:Int
 cl:Int
def KT.cells(t:KT):List Value:=[.int .i64 t.fr,.int .i64 t.tt,.int .i64 t.pl,.int .i64 t.cl]
theorem KT.cells_length(t:KT):t.cells.length=4:=rfl
structure KD where
 fl:Int
 nm:Int
 ds:Int
def KD.cells(d:KD):List Value:=[.int .i64 d.fl,.int .i64 d.nm,.int .i64 d.ds]
theorem KD.cells_length(d:KD):d.cells.length=3:=rfl
structure KP where
 pl:Int
 la:Option Addr
 ln:Nat
 lc:Nat
 loc:List KS
 sa:Option Addr
 sn:Nat
 sc:Nat
 stk:List KS
def KP.cells(p:KP):List Value:=[.int .i64 p.pl,.slice p.la p.ln p.lc,.slice p.sa p.sn p.sc]
theorem KP.cells_length(p:KP):p.cells.length=3:=rfl
structure KP.Rd(p:KP)(w:World):Prop where
 loc:Ss 2 KS.cells w p.la p.ln p.loc
 stk:Ss 2 KS.cells w p.sa p.sn p.stk
theorem KP.Rd.below{p:KP}{w w':World}(h:p.Rd w)(hb:Below w.heap.size w w'):p.Rd w':=⟨h.loc.below hb,h.stk.below hb⟩
structure KM where
 fl:Int
 nm:Int
 ds:Int
 st:Int
 lo:Int
 ca:Option Addr
 cn:Nat
 cc:Nat
 code:List UInt8
 ta:Option Addr
 tn:Nat
 tc:Nat
 traps:List KT
 ma:Option Addr
 mn:Nat
 mc:Nat
 maps:List KP
def KM.cells(m:KM):List Value:=[.int .i64 m.fl,.int .i64 m.nm,.int .i64 m.ds,.int .i64 m.st,.int .i64 m.lo,.slice m.ca m.cn m.cc,.slice m.ta m.tn m.tc,.slice m.ma m.mn m.mc]
theorem KM.cells_length(m:KM):m.cells.length=8:=rfl
structure KM.Rd(m:KM)(w:World):Prop where
 code:Sl A5f w m.ca m.cn m.code
 cle:m.cn<=m.cc
 traps:Ss 4 KT.cells w m.ta m.tn m.traps
 maps:Ss 3 KP.cells w m.ma m.mn m.maps
 each:∀p∈m.maps,p.Rd w
theorem KM.Rd.below{m:KM}{w w':World}(h:m.Rd w)(hb:Below w.heap.size w w'):m.Rd w':=⟨h.code.below hb,h.cle,h.traps.below hb,h.maps.below hb,fun p hp=>(h.each p hp).below hb⟩
structure KF where
 pa:Option Addr
 pn:Nat
 pc:Nat
 pool:List KV
 th:Int
 su:Int
 fa:Option Addr
 fn:Nat
 fc:Nat
 fields:List KD
 ma:Option Addr
 mn:Nat
 mc:Nat
 methods:List KM
def KF.cells(f:KF):List Value:=[.slice f.pa f.pn f.pc,.int .i64 f.th,.int .i64 f.su,.slice f.fa f.fn f.fc,.slice f.ma f.mn f.mc]
structure KF.Rd(f:KF)(w:World):Prop where
 pool:Ks w f.pa f.pn f.pool
 fields:Ss 3 KD.cells w f.fa f.fn f.fields
 methods:Ss 8 KM.cells w f.ma f.mn f.methods
 each:∀m∈f.methods,m.Rd w
theorem KF.Rd.below{f:KF}{w w':World}(h:f.Rd w)(hb:Below w.heap.size w w'):f.Rd w':=⟨h.pool.below hb,h.fields.below hb,h.methods.below hb,fun m hm=>(h.each m hm).below hb⟩
def B7p(s:List UInt8)(c:KV):Bool:=decide (c.tag=1/\c.s=s)
def A7t(L:List KV)(s:List UInt8):Nat:=(L.findIdx? (B7p s)).getD 0
def clsOk(L:List KV)(i:Int):Bool:=(A0s L i).2
def A5j(L:List KV)(s:KS):Bool:=if s.tag=7 then clsOk L s.a else decide (s.tag=0\/s.tag=1\/s.tag=4\/s.tag=5)&&decide (s.a=0)
def A8b(L:List KV)(most:Int)(l:List KS):Bool:=decide ((l.length:Int)<=most)&&l.all (A5j L)
def A4f(L:List KV)(fl nm ds:Int):Bool:=decide (fl=0\/fl=8)&&isT L nm 1&&isT L ds 1
def A5i(n:Int):Bool:=decide (0<=n/\n<=65535)
def A7b(L:List KV)(t:KT):Bool:=[t.fr,t.tt,t.pl].all A5i&&(decide (t.cl=0)||clsOk L t.cl)
def A8i(L:List KV)(p:KP):Bool:=A5i p.pl&&A8b L 64 p.loc&&A8b L 64 p.stk
def A6z:List UInt8:=[67,111,100,101]
def B4t:List UInt8:=[83,116,97,99,107,77,97,112]
def B0n(m:KM):Bool:=decide (0<=m.st/\m.st<=64/\0<=m.lo/\m.lo<=64)
def A9d(m:KM):Bool:=decide (0<m.code.length/\m.code.length<=4096/\m.traps.length<=255/\m.maps.length<=255)
def A7k(L:List KV)(m:KM):Bool:=decide (0<A7t L A6z/\(m.maps.length=0\/0<A7t L B4t))
def A3z(L:List KV)(m:KM):Bool:=A4f L m.fl m.nm m.ds&&B0n m&&A9d m&&m.traps.all (A7b L)&&m.maps.all (A8i L)&&A7k L m
def A2r(f:KF):Bool:=A6f f.pool&&clsOk f.pool f.th&&(decide (f.su=0)||clsOk f.pool f.su)&&decide (f.fields.length<=64/\f.methods.length<=64)&&
 f.fields.all (fun d=>A4f f.pool d.fl d.nm d.ds)&&f.methods.all (A3z f.pool)
theorem A9t{α:Type}(p:α->Bool)(l:List α)(j:Nat)(x:α)(h:l[j]? =some x):(l.take (j+1)).all p=((l.take j).all p&&p x):=by
 obtain⟨hj,he⟩:=gsz h;rw[List.take_succ_eq_append_getElem hj,List.all_append,he];simp
theorem Ss.getC{α:Type}{z:Nat}{enc:α->List Value}{w:World}{a:Option Addr}{n:Nat}{xs:List α}(h:Ss z enc w a n xs)(j:Nat)(hj:j<n):∃b off x,a=some ⟨b,off,none⟩/\b<w.heap.size/\xs[j]? =some x/\∀i,i<z->w.cell? ⟨b,off+j*z+i,none⟩=(enc x)[i]? :=by
 obtain⟨b,off,ha,hlt,hc⟩:=h.2 (by omega);have hl:j<xs.length:=by rw[h.1];exact hj
 exact⟨b,off,xs[j],ha,hlt,List.getElem?_eq_getElem hl,hc j hl⟩
theorem D3r{s:List UInt8}{c:KV}(h:c.tag=1):B7p s c=decide (c.s=s):=by unfold B7p;simp[h]
theorem D3k{s:List UInt8}{c:KV}(h:c.tag≠1):B7p s c=false:=by unfold B7p;simp[h]
theorem C8f(w:World)(c:KV)(s:List UInt8)(g:Nat)(hg:w.heap[g]? =some (.cells #[.string ⟨s.toArray⟩] 9)):
  Calls Tryz.prog 138 #[kV c,.pointer (some ⟨g,0,none⟩)] w (A4p (B7p s c) w):=by
 obtain⟨ct,ca,cb,cn,cs⟩:=c;have lt:=A0r hg;have q0:=A0a hg 0 rfl;have hne:w.heap.size≠g:=by omega
 have q0':(w.alloc (.cells #[.int .i64 ct,.int .i64 ca,.int .i64 cb,.int .i64 cn,.string ⟨cs.toArray⟩] 61)).cell? ⟨g,0,none⟩=some (.string ⟨s.toArray⟩):=A0c (A0f _ _) q0;by_cases h:ct=1
 ·subst h;rw[D3r rfl];unfold kV;clear hg;go_enter Tryz.func138,Tryz.ntmps138
  go_wp2_with fail
  go_ret;exact⟨by show _=Ending.returned (.bool (decide (cs=s)));congr 2;by_cases h:cs=s<;>simp[h],A0f _ _⟩
 rw[D3k h];unfold kV;have e1:(ct==1)=false:=by simp[h]
 clear hg h;go_enter Tryz.func138,Tryz.ntmps138
 go_wp2_with fail
 go_ret;exact⟨rfl,A0f _ _⟩
def D5d(L:List KV)(s:List UInt8):Int:=match L.findIdx? (B7p s)with|some j=>(j:Int)|none=> -1
theorem D0n(L:List KV)(s:List UInt8):(A7t L s:Int)=max (D5d L s) 0:=by
 unfold A7t D5d
 cases L.findIdx? (B7p s)<;>simp<;>omega
theorem D7n{L:List KV}{s:List UInt8}(h:∀k,k<L.length->B7p s (kAt L k)=false):D5d L s= -1:=by
 unfold D5d
 rw[List.findIdx?_eq_none_iff.2 (fun x hx=>by
  obtain⟨i,hi,rfl⟩:=List.getElem_of_mem hx;rw[<-A6t L i hi];exact h i hi)]
theorem D5m{L:List KV}{s:List UInt8}(j:Nat)(hj:j<L.length)(h:∀k,k<j->B7p s (kAt L k)=false)(ht:B7p s (kAt L j)=true):D5d L s=j:=by
 unfold D5d;rw[List.findIdx?_eq_some_iff_getElem.2 ⟨hj,by rw[<-A6t L j hj];exact ht,fun k hk=>by rw[<-A6t L k (by omega),h k hk];decide⟩]
theorem C7h(w:World)(a:Option Addr)(n cap:Nat)(L:List KV)(s:List UInt8)(g:Nat)(hs:Ks w a n L)(hn:n<=65536)(hg:w.heap[g]? =some (.cells #[.string ⟨s.toArray⟩] 9)):
  Calls Tryz.prog 137 #[.slice a n cap,.func (.func 138) #[] #[.pointer (some ⟨g,0,none⟩)]] w fun e w'=>e= .returned (.int .i64 (D5d L s))/\Below w.heap.size w w':=by
 have HS:=hzz hs;have HLn:=hzz hs.1;have HG:=hzz hg;clear hs hg;go_enter Tryz.func137,Tryz.ntmps137
 go_wp2_with fail
 go_loopg [8] n (fun gn i wr=>∃j:Nat,j<=n/\gn=n-j/\i= .int .i64 j/\Hid (∀k,k<j->B7p s (kAt L k)=false)/\Hid (Below w.heap.size w wr))
 case atStart=>exact⟨0,by omega,by omega,by go_num,hzz (fun k h=>by omega),hzz brz⟩
 obtain⟨j,hj,rfl,rfl,HP,HB⟩:=hrel;by_cases hlt:j<n
 ·obtain⟨b,off,rfl,_,hk⟩:=(HS.out.below HB.out).at j hlt;obtain⟨q0,q1,q2,q3,q4⟩:=hk;have HC:=hzz (C8f wr (kAt L j) s g (A0e HG.out HB.out))
  have HPJ:=hzz (D5m (L:=L) (s:=s) j (by rw[HLn.out];exact hlt) HP.out)
  have HPN:=hzz (show B7p s (kAt L j)=false->∀k,k<j+1->B7p s (kAt L k)=false from fun h k hk=>by
   rcases Nat.lt_or_ge k j with hkj|hkj
   ·exact HP.out k hkj
   have:k=j:=by omega
   subst this;exact h)
  generalize B7p s (kAt L j)=tx at*;unfold kV at HC;generalize(kAt L j).tag=ct at*;generalize(kAt L j).a=ca at*;generalize(kAt L j).b=cb at*;generalize(kAt L j).n=cn at*
  generalize(kAt L j).s=cs at*;have hj1:(j:Int)<n:=by omega
  go_wp2_with fail
  refine HC.out.mono ?_;rintro e w1 ⟨rfl,hb⟩;have HB1:=btz HB hb;clear hb q0 q1 q2 q3 q4 HC
  cases tx
  ·go_wp2_with fail
   go_roundg (n-(j+1))
   case measure=>omega
   exact⟨j+1,by omega,rfl,by go_num,hzz (HPN.out (by simp)),HB1⟩
  go_wp2_with fail
  go_ret;exact⟨by rw[HPJ.out (by simp)];rfl,HB1.out⟩
 obtain rfl:j=n:=by omega
 have HN:=hzz (D7n (L:=L) (s:=s) (by rw[HLn.out];exact HP.out))
 go_wp2_with fail
 go_ret;exact⟨by rw[HN.out];rfl,HB.out⟩
theorem C3p(w:World)(a:Option Addr)(n cap:Nat)(L:List KV)(s:List UInt8)(hs:Ks w a n L)(hn:n<=65536):
  Calls Tryz.prog 92 #[.slice a n cap,.string ⟨s.toArray⟩] w fun e w'=>e= .returned (.int .i64 (A7t L s))/\Below w.heap.size w w':=by
 have hb1:Below w.heap.size w (w.alloc (.cells #[.string ⟨s.toArray⟩] 9)):=A0f _ _
 have HC:=hzz (C7h (w.alloc (.cells #[.string ⟨s.toArray⟩] 9)) a n cap L s w.heap.size (hs.below hb1) hn (heap_alloc_last w _));have HM:=hzz (D0n L s);have HB:=hzz hb1;clear hs hb1
 go_enter Tryz.func92,Tryz.ntmps92
 go_wp2_with fail
 refine HC.out.mono ?_;rintro e w1 ⟨rfl,hb⟩;have HB1:=btz HB hb;clear hb HC;generalize D5d L s=r at*;by_cases hr:r<0
 ·have HR:=hzz (show(A7t L s:Int)=0 by have:=HM.out;omega)
  go_wp2_with fail
  go_ret
  exact⟨by first|(rw[HR.out];rfl)|(rw[HM.out];rfl),HB1.out⟩
 have HR:=hzz (show(A7t L s:Int)=r by have:=HM.out;omega)
 go_wp2_with fail
 go_ret
 exact⟨by first|(rw[HR.out];rfl)|(rw[HM.out];rfl),HB1.out⟩
def E1i(v:Int):Value:= .int .i64 v
theorem Ss.keep1{α:Type}{z:Nat}{enc:α->List Value}{g:Nat}{w w':World}{x:Option Addr}{n:Nat}{xs:List α}(hs:Ss z enc w x n xs)(h:A1e g w w')(h1:B1t x n g):Ss z enc w' x n xs:=by
 refine⟨hs.1,fun hn=> ?_⟩;obtain⟨b,off,ha,hlt,hc⟩:=hs.2 hn;refine⟨b,off,ha,Nat.lt_of_lt_of_le hlt h.size,fun i hi j hj=> ?_⟩;rw[<-hc i hi j hj];unfold World.cell?
 rw[h.block b hlt (h1 hn b off ha)]
theorem B1t.oldS{α:Type}{z:Nat}{enc:α->List Value}{w:World}{x:Option Addr}{n g:Nat}{xs:List α}(h:Ss z enc w x n xs)(hg:w.heap.size<=g):B1t x n g:=by
 intro hn b off hx;obtain⟨b',off',hx',hlt,_⟩:=h.2 hn;rw[hx]at hx';simp only[Option.some.injEq,Addr.mk.injEq]at hx';omega
structure LkS(w:World)(g:Nat)(a:Option Addr)(n cap:Nat)(L:List KV)(odd:Bool):Prop where
 k:A8w w g (.slice a n cap) (.bool odd) 106
 ks:Ks w a n L
 sm:n<=65536
 off:B1t a n g
theorem LkS.below{w w':World}{g:Nat}{a:Option Addr}{n cap:Nat}{L:List KV}{odd:Bool}(h:LkS w g a n cap L odd)(hb:Below w.heap.size w w'):LkS w' g a n cap L odd:=⟨h.k.below hb,h.ks.below hb,h.sm,h.off⟩
theorem LkS.lt{w:World}{g:Nat}{a:Option Addr}{n cap:Nat}{L:List KV}{odd:Bool}(h:LkS w g a n cap L odd):g<w.heap.size:=h.k.box.lt
def C2f(g:Nat)(a:Option Addr)(n cap:Nat)(L:List KV)(odd:Bool)(w:World)(e:Ending)(w':World):Prop:=e= .returned (.tuple #[])/\LkS w' g a n cap L odd/\A1e g w w'
theorem A1s(w:World)(g:Nat)(a:Option Addr)(n cap:Nat)(L:List KV)(odd ok:Bool)(h:LkS w g a n cap L odd):
  Calls Tryz.prog 45 #[.pointer (some ⟨g,0,none⟩),.bool ok] w (C2f g a n cap L (odd|| !ok) w):=by
 have H:=hzz h;obtain⟨c0,c1,f0,f1,lt⟩:=h.k.box;clear h
 cases odd
 ·go_enter Tryz.func45,Tryz.ntmps45
  go_wp2_with fail
  go_end0;exact⟨rfl,⟨H.out.k.set1,Ss.keep1 H.out.ks ((A1e.refl g w).set 1 _) H.out.off,H.out.sm,H.out.off⟩,(A1e.refl g w).set 1 _⟩
 go_enter Tryz.func45,Tryz.ntmps45
 go_wp2_with fail
 go_end0;exact⟨rfl,⟨H.out.k.set1,Ss.keep1 H.out.ks ((A1e.refl g w).set 1 _) H.out.off,H.out.sm,H.out.off⟩,(A1e.refl g w).set 1 _⟩
theorem A9s(w:World)(g:Nat)(a:Option Addr)(n cap:Nat)(L:List KV)(odd:Bool)(i:Int)(h:LkS w g a n cap L odd):
  Calls Tryz.prog 44 #[.pointer (some ⟨g,0,none⟩),.int .i64 i] w (C2f g a n cap L (odd|| !clsOk L i) w):=by
 have HC:=hzz (B3u w a n cap L i h.ks h.sm);have HN:=hzz (A1s w g a n cap L odd (clsOk L i) h);unfold A9v at HC;unfold clsOk at HN⊢;generalize(A0s L i).1=s1 at*
 generalize(A0s L i).2=b1 at*;obtain⟨c0,c1,f0,f1,lt⟩:=h.k.box;clear h;go_enter Tryz.func44,Tryz.ntmps44
 go_wp2_with fail
 refine HC.out.mono ?_;rintro e w' ⟨rfl,rfl⟩
 go_wp2_with fail
 refine HN.out.mono ?_;rintro e w' ⟨rfl,h1,h2⟩
 go_wp2_with fail
 go_end0;exact⟨rfl,h1,h2⟩
theorem B8b(w:World)(g:Nat)(a:Option Addr)(n cap:Nat)(L:List KV)(odd:Bool)(i:Int)(h:LkS w g a n cap L odd):
  Calls Tryz.prog 89 #[.pointer (some ⟨g,0,none⟩),.int .i64 i] w (C2f g a n cap L (odd|| !isT L i 1) w):=by
 have HC:=hzz (B1q w a n cap L i h.ks h.sm);have HN:=hzz (A1s w g a n cap L odd (isT L i 1) h);unfold A9c at HC;generalize A1c L i=s1 at*;generalize isT L i 1=b1 at*
 obtain⟨c0,c1,f0,f1,lt⟩:=h.k.box;clear h;go_enter Tryz.func89,Tryz.ntmps89
 go_wp2_with fail
 refine HC.out.mono ?_;rintro e w' ⟨rfl,rfl⟩
 go_wp2_with fail
 refine HN.out.mono ?_;rintro e w' ⟨rfl,h1,h2⟩
 go_wp2_with fail
 go_end0;exact⟨rfl,h1,h2⟩
structure A0j(p:Nat->Prop)(w w':World):Prop where
 os:w'.os=w.os
 tape:w'.tape=w.tape
 output:w'.output=w.output
 size:w.heap.size<=w'.heap.size
 block:∀k,k<w.heap.size->¬p k->w'.heap[k]? =w.heap[k]?
theorem A0j.refl(p:Nat->Prop)(w:World):A0j p w w:=⟨rfl,rfl,rfl,Nat.le_refl _,fun _ _ _=>rfl⟩
theorem A0j.trans{p:Nat->Prop}{w w1 w2:World}(h:A0j p w w1)(k:A0j p w1 w2):A0j p w w2:=
 ⟨k.os.trans h.os,k.tape.trans h.tape,k.output.trans h.output,Nat.le_trans h.size k.size,fun i hi hg=>by rw[k.block i (Nat.lt_of_lt_of_le hi h.size) hg,h.block i hi hg]⟩
theorem A0j.of{p:Nat->Prop}{w w1:World}(h:Below w.heap.size w w1):A0j p w w1:=⟨h.os,h.tape,h.output,h.size,fun k hk _=>h.block k hk⟩
theorem A0j.weak{p q:Nat->Prop}{w w1:World}(h:A0j p w w1)(hpq:∀k,k<w.heap.size->p k->q k):A0j q w w1:=⟨h.os,h.tape,h.output,h.size,fun k hk hq=>h.block k hk (fun hp=>hq (hpq k hk hp))⟩
theorem A0j.set{p:Nat->Prop}{w w1:World}(h:A0j p w w1){g:Nat}(hg:p g\/w.heap.size<=g)(o:Nat)(v:Value):A0j p w (w1.setCell ⟨g,o,none⟩ v):=
 ⟨h.os,h.tape,h.output,by have:=h.size;unfold World.setCell;simpa using this,fun k hk hq=>by
  rw[<-h.block k hk hq];unfold World.setCell
  have hne:¬g=k:=by
   rintro rfl
   rcases hg with h1|h1
   ·exact hq h1
   omega
  simp[Array.getElem?_modify,hne]⟩
theorem A0j.setg{w w1:World}{g:Nat}(h:A0j (fun x=>x=g) w w1)(o:Nat)(v:Value):A0j (fun x=>x=g) w (w1.setCell ⟨g,o,none⟩ v):=A0j.set h (Or.inl (rfl:g=g)) o v
theorem A0j.below{p:Nat->Prop}{B:Nat}{w0 w w':World}(h:A0j p w w')(hb:Below B w0 w)(hB:B<=w0.heap.size)(hp:∀k,p k->B<=k):Below B w0 w':=
 ⟨h.os.trans hb.os,h.tape.trans hb.tape,h.output.trans hb.output,Nat.le_trans hb.size h.size,fun k hk=>by
  rw[h.block k (Nat.lt_of_lt_of_le (Nat.lt_of_lt_of_le hk hB) hb.size) (fun hk2=>by have:=hp k hk2;omega)];exact hb.block k hk⟩
theorem A0j.row{p:Nat->Prop}{w w':World}(h:A0j p w w'){g:Nat}{o:Obj}(hg:w.heap[g]? =some o)(hp:¬p g):w'.heap[g]? =some o:=by
 rw[h.block g (Array.getElem?_eq_some_iff.1 hg).1 hp];exact hg
theorem A0j.ss{p:Nat->Prop}{α:Type}{z:Nat}{enc:α->List Value}{w w':World}{x:Option Addr}{n:Nat}{xs:List α}(h:A0j p w w')(hs:Ss z enc w x n xs)(h1:0<n->∀b off,x=some ⟨b,off,none⟩->¬p b):Ss z enc w' x n xs:=by
 refine⟨hs.1,fun hn=> ?_⟩;obtain⟨b,off,ha,hlt,hc⟩:=hs.2 hn;refine⟨b,off,ha,Nat.lt_of_lt_of_le hlt h.size,fun i hi j hj=> ?_⟩;rw[<-hc i hi j hj];unfold World.cell?
 rw[h.block b hlt (h1 hn b off ha)]
theorem A0j.vw{p:Nat->Prop}{w w':World}(h:A0j p w w')(hv:VW w)(h0:¬p 0):VW w':=by
 obtain⟨m,hm⟩:=hv;refine⟨m,?_⟩
 have hlt:0<w.heap.size:=by
  rcases Nat.eq_zero_or_pos w.heap.size with h1|h1
  ·exfalso;have:w.heap[0]? =none:=Array.getElem?_eq_none (by omega);simp[World.cell?,this]at hm
  exact h1
 rw[<-hm];unfold World.cell?;rw[h.block 0 hlt h0]
def B1s(x y:World):Prop:=y=x
def A2a(er:Int)(ok:Bool)(k:Int):Int:=if ok=false/\er=0 then k else er
structure LfS(w:World)(g:Nat)(a:Option Addr)(n cap:Nat)(L:List KV)(er:Int):Prop where
 k:A8w w g (.slice a n cap) (.int .i64 er) 72
 ks:Ks w a n L
 sm:n<=65536
 off:B1t a n g
 tx:∀i:Int,(kAt L i).s.length<=65536
 vw:VW w
 g0:0<g
theorem LfS.below{w w':World}{g:Nat}{a:Option Addr}{n cap:Nat}{L:List KV}{er:Int}(h:LfS w g a n cap L er)(hb:Below w.heap.size w w'):LfS w' g a n cap L er:=⟨h.k.below hb,h.ks.below hb,h.sm,h.off,h.tx,h.vw.below hb,h.g0⟩
theorem LfS.keep{p:Nat->Prop}{w w':World}{g:Nat}{a:Option Addr}{n cap:Nat}{L:List KV}{er:Int}(h:LfS w g a n cap L er)(hk:A0j p w w')(hg:¬p g)(h0:¬p 0)(ha:0<n->∀b off,a=some ⟨b,off,none⟩->¬p b):LfS w' g a n cap L er:=
 ⟨hk.row h.k hg,hk.ss h.ks ha,h.sm,h.off,h.tx,hk.vw h.vw h0,h.g0⟩
theorem LfS.lt{w:World}{g:Nat}{a:Option Addr}{n cap:Nat}{L:List KV}{er:Int}(h:LfS w g a n cap L er):g<w.heap.size:=h.k.box.lt
theorem LfS.set{w:World}{g:Nat}{a:Option Addr}{n cap:Nat}{L:List KV}{er:Int}(h:LfS w g a n cap L er)(e2:Int):LfS (w.setCell ⟨g,1,none⟩ (.int .i64 e2)) g a n cap L e2:=by
 have hk:A0j (·=g) w (w.setCell ⟨g,1,none⟩ (.int .i64 e2)):=(A0j.refl _ _).setg 1 _
 exact⟨h.k.set1,hk.ss h.ks (fun hn b off e=>h.off hn b off e),h.sm,h.off,h.tx,hk.vw h.vw (fun e=>by have:=h.g0;omega),h.g0⟩
def D6w(v:Value)(g:Nat)(a:Option Addr)(n cap:Nat)(L:List KV)(er:Int)(w:World)(e:Ending)(w':World):Prop:=e= .returned v/\LfS w' g a n cap L er/\A0j (·=g) w w'
theorem A5m{L:List KV}(h:∀i:Int,(kAt L i).s.length<=65536)(i:Int):(A1c L i).length<=65536:=by
 unfold A1c;split
 ·exact h i
 simp
theorem B0q{L:List KV}(h:∀i:Int,(kAt L i).s.length<=65536)(i:Int):(A0s L i).1.length<=65536:=by
 unfold A0s;split
 ·exact A5m h _
 simp
theorem B7v{L:List KV}(h:∀i:Int,(kAt L i).s.length<=65536)(i t:Int):(A1i L i t).1.length<=65536/\(A1i L i t).2.1.length<=65536/\(A1i L i t).2.2.1.length<=65536:=by
 unfold A1i;split
 ·exact⟨B0q h _,A5m h _,A5m h _⟩
 simp
theorem A3v(w:World)(g:Nat)(a:Option Addr)(n cap:Nat)(L:List KV)(er:Int)(ok:Bool)(k:Int)(h:LfS w g a n cap L er):
  Calls Tryz.prog 22 #[.pointer (some ⟨g,0,none⟩),.bool ok,.int .i64 k] w (D6w (.tuple #[]) g a n cap L (A2a er ok k) w):=by
 have H:=hzz h;obtain⟨c0,c1,f0,f1,lt⟩:=h.k.box;clear h
 cases ok
 ·by_cases h0:er=0
  ·have e0:(er==0)=true:=by simpa using h0
   have HE:=hzz (show A2a er false k=k by unfold A2a;rw[if_pos ⟨rfl,h0⟩]);generalize A2a er false k=E at*;obtain rfl:E=k:=HE.out;clear HE h0;go_enter Tryz.func22,Tryz.ntmps22
   go_wp2_with fail
   go_end0;exact⟨rfl,H.out.set E,(A0j.refl _ _).setg 1 _⟩
  have e0:(er==0)=false:=by simpa using h0
  have HE:A2a er false k=er:=by unfold A2a;rw[if_neg (fun h=>h0 h.2)]
  rw[HE];clear HE h0;go_enter Tryz.func22,Tryz.ntmps22
  go_wp2_with fail
  go_end0;exact⟨rfl,H.out,A0j.refl _ _⟩
 have HE:A2a er true k=er:=by unfold A2a;rw[if_neg (fun h=>absurd h.1 (by decide))]
 rw[HE];clear HE;go_enter Tryz.func22,Tryz.ntmps22
 go_wp2_with fail
 go_end0;exact⟨rfl,H.out,A0j.refl _ _⟩
theorem A9k(w:World)(g:Nat)(a:Option Addr)(n cap:Nat)(L:List KV)(er i:Int)(h:LfS w g a n cap L er):
  Calls Tryz.prog 21 #[.pointer (some ⟨g,0,none⟩),.int .i64 i] w fun e w'=>e= .returned (.string ⟨(A1c L i).toArray⟩)/\w'=w:=by
 have HT:=hzz (B1q w a n cap L i h.ks h.sm);unfold A9c at HT;obtain⟨c0,c1,f0,f1,lt⟩:=h.k.box;generalize A1c L i=s at*;generalize isT L i 1=b at*;clear h
 go_enter Tryz.func21,Tryz.ntmps21
 go_wp2_with fail
 refine HT.out.mono ?_;rintro e w' ⟨rfl,rfl⟩
 go_wp2_with fail
 go_ret;exact⟨rfl,rfl⟩
def aclsB(L:List KV)(i:Int)(arr:Bool):Bool:=(A0s L i).2&&(A1b (A0s L i).1||(arr&&A2g (A0s L i).1))
theorem A7r(w:World)(g:Nat)(a:Option Addr)(n cap:Nat)(L:List KV)(er i:Int)(arr:Bool)(h:LfS w g a n cap L er):
  Calls Tryz.prog 20 #[.pointer (some ⟨g,0,none⟩),.int .i64 i,.bool arr] w (D6w (.string ⟨(A0s L i).1.toArray⟩) g a n cap L (A2a er (aclsB L i arr) 8) w):=by
 have HC:=hzz (B3u w a n cap L i h.ks h.sm);have HN:=hzz (fun W ok (hb:Below w.heap.size w W)=>A3v W g a n cap L er ok 8 (h.below hb));have hsl:=B0q h.tx i
 have HI:=hzz (fun W (hb:Below w.heap.size w W)=>A6w W (A0s L i).1 (by omega) (h.vw.below hb));have HA:=hzz (fun W (hb:Below w.heap.size w W)=>A8f W (A0s L i).1 hsl (h.vw.below hb))
 have HB0:=hzz (Below.refl w.heap.size w);unfold A9v at HC;have HR:aclsB L i arr=((A0s L i).2&&(A1b (A0s L i).1||(arr&&A2g (A0s L i).1))):=rfl;generalize aclsB L i arr=R at*
 generalize A1b (A0s L i).1=x1 at*;generalize A2g (A0s L i).1=x2 at*;generalize(A0s L i).1=s1 at*;generalize(A0s L i).2=b1 at*;obtain⟨c0,c1,f0,f1,lt⟩:=h.k.box;clear h
 cases b1
 ·have hR:R=false:=HR;subst hR;clear HR;go_enter Tryz.func20,Tryz.ntmps20
  go_wp2_with fail
  refine HC.out.mono ?_;rintro e w1 ⟨rfl,rfl⟩
  go_wp2_with fail
  refine(HN.out w false HB0.out).mono ?_;rintro e w2 ⟨rfl,hs,hk⟩
  go_wp2_with fail
  go_ret;exact⟨rfl,hs,hk⟩
 cases x1
 ·cases arr
  ·have hR:R=false:=HR;subst hR;clear HR;go_enter Tryz.func20,Tryz.ntmps20
   go_wp2_with fail
   refine HC.out.mono ?_;rintro e w1 ⟨rfl,rfl⟩
   go_wp2_with fail
   refine(HI.out w HB0.out).mono ?_;rintro e w2 ⟨rfl,hb2⟩;have HB2:=hzz hb2;clear hb2
   go_wp2_with fail
   refine(HN.out w2 false HB2.out).mono ?_;rintro e w3 ⟨rfl,hs,hk⟩
   go_wp2_with fail
   go_ret;exact⟨rfl,hs,(A0j.of HB2.out).trans hk⟩
  have hR:R=x2:=HR;subst hR;clear HR;go_enter Tryz.func20,Tryz.ntmps20
  go_wp2_with fail
  refine HC.out.mono ?_;rintro e w1 ⟨rfl,rfl⟩
  go_wp2_with fail
  refine(HI.out w HB0.out).mono ?_;rintro e w2 ⟨rfl,hb2⟩;have HB2:=hzz hb2;clear hb2
  go_wp2_with fail
  refine(HA.out w2 HB2.out).mono ?_;rintro e w3 ⟨rfl,hb3⟩;have HB3:=btz HB2 hb3;clear hb3
  go_wp2_with fail
  refine(HN.out w3 R HB3.out).mono ?_;rintro e w4 ⟨rfl,hs,hk⟩
  go_wp2_with fail
  go_ret;exact⟨rfl,hs,(A0j.of HB3.out).trans hk⟩
 have hR:R=true:=HR;subst hR;clear HR;go_enter Tryz.func20,Tryz.ntmps20
 go_wp2_with fail
 refine HC.out.mono ?_;rintro e w1 ⟨rfl,rfl⟩
 go_wp2_with fail
 refine(HI.out w HB0.out).mono ?_;rintro e w2 ⟨rfl,hb2⟩;have HB2:=hzz hb2;clear hb2
 go_wp2_with fail
 refine(HN.out w2 true HB2.out).mono ?_;rintro e w3 ⟨rfl,hs,hk⟩
 go_wp2_with fail
 go_ret;exact⟨rfl,hs,(A0j.of HB2.out).trans hk⟩
structure IN where
 op:Nat
 n:Int
 m:Int
 cl:List UInt8
 nm:List UInt8
 ds:List UInt8
 tx:List UInt8
abbrev A2e:=54
def IN.cells(x:IN):List Value:=[.int .u8 (x.op:Nat),.int .i64 x.n,.int .i64 x.m,.string ⟨x.cl.toArray⟩,.string ⟨x.nm.toArray⟩,.string ⟨x.ds.toArray⟩,.string ⟨x.tx.toArray⟩]
theorem IN.cells_length(x:IN):x.cells.length=7:=rfl
def A3j(g:Nat)(x:IN)(w:World):Prop:=w.heap[g]? =some (.cells x.cells.toArray A2e (0,0))
structure E2c(w:World)(g:Nat)(x:IN):Prop where
 c0:w.cell? ⟨g,0,none⟩=some (.int .u8 (x.op:Nat))
 c1:w.cell? ⟨g,1,none⟩=some (.int .i64 x.n)
 c2:w.cell? ⟨g,2,none⟩=some (.int .i64 x.m)
 c3:w.cell? ⟨g,3,none⟩=some (.string ⟨x.cl.toArray⟩)
 c4:w.cell? ⟨g,4,none⟩=some (.string ⟨x.nm.toArray⟩)
 c5:w.cell? ⟨g,5,none⟩=some (.string ⟨x.ds.toArray⟩)
 c6:w.cell? ⟨g,6,none⟩=some (.string ⟨x.tx.toArray⟩)
 f1:w.frozen? ⟨g,1,none⟩=false
 f2:w.frozen? ⟨g,2,none⟩=false
 f3:w.frozen? ⟨g,3,none⟩=false
 f4:w.frozen? ⟨g,4,none⟩=false
 f5:w.frozen? ⟨g,5,none⟩=false
 f6:w.frozen? ⟨g,6,none⟩=false
theorem A3j.box{g:Nat}{x:IN}{w:World}(h:A3j g x w):E2c w g x:=
 ⟨A0a h 0 rfl,A0a h 1 rfl,A0a h 2 rfl,A0a h 3 rfl,A0a h 4 rfl,A0a h 5 rfl,A0a h 6 rfl,A0n h 1,A0n h 2,A0n h 3,A0n h 4,A0n h 5,A0n h 6⟩
theorem A3j.lt{g:Nat}{x:IN}{w:World}(h:A3j g x w):g<w.heap.size:=A0r h
theorem A3j.below{g:Nat}{x:IN}{w w':World}(h:A3j g x w)(hb:Below w.heap.size w w'):A3j g x w':=A0e h hb
theorem A3j.keep{p:Nat->Prop}{g:Nat}{x:IN}{w w':World}(h:A3j g x w)(hk:A0j p w w')(hp:¬p g):A3j g x w':=hk.row h hp
theorem A3j.set1{g:Nat}{x:IN}{w:World}(h:A3j g x w)(v:Int):A3j g {x with n:=v} (w.setCell ⟨g,1,none⟩ (.int .i64 v)):=A1k h 1 _
theorem A3j.set2{g:Nat}{x:IN}{w:World}(h:A3j g x w)(v:Int):A3j g {x with m:=v} (w.setCell ⟨g,2,none⟩ (.int .i64 v)):=A1k h 2 _
theorem A3j.set3{g:Nat}{x:IN}{w:World}(h:A3j g x w)(v:List UInt8):A3j g {x with cl:=v} (w.setCell ⟨g,3,none⟩ (.string ⟨v.toArray⟩)):=A1k h 3 _
theorem A3j.set4{g:Nat}{x:IN}{w:World}(h:A3j g x w)(v:List UInt8):A3j g {x with nm:=v} (w.setCell ⟨g,4,none⟩ (.string ⟨v.toArray⟩)):=A1k h 4 _
theorem A3j.set5{g:Nat}{x:IN}{w:World}(h:A3j g x w)(v:List UInt8):A3j g {x with ds:=v} (w.setCell ⟨g,5,none⟩ (.string ⟨v.toArray⟩)):=A1k h 5 _
theorem A3j.set6{g:Nat}{x:IN}{w:World}(h:A3j g x w)(v:List UInt8):A3j g {x with tx:=v} (w.setCell ⟨g,6,none⟩ (.string ⟨v.toArray⟩)):=A1k h 6 _
def C4g(L:List KV)(x:IN)(at_:Nat):IN:=
 if(kAt L at_).tag=3 then{x with ds:=[73],n:=(kAt L at_).n}
 else if(kAt L at_).tag=5 then{x with ds:=[74],n:=(kAt L at_).n}
 else if(kAt L at_).tag=8 then{x with ds:=[83],tx:=A1c L (kAt L at_).a}
 else x
def C0k(x:IN):Bool:= !x.ds.isEmpty&&(decide (x.ds=[74])==decide (x.op=20))
structure LfI(w:World)(g:Nat)(a:Option Addr)(n cap:Nat)(L:List KV)(er:Int)(gx:Nat)(x:IN):Prop where
 k:LfS w g a n cap L er
 i:A3j gx x w
 ne:gx≠g
 z:0<gx
 off:B1t a n gx
theorem LfI.below{w w':World}{g:Nat}{a:Option Addr}{n cap:Nat}{L:List KV}{er:Int}{gx:Nat}{x:IN}(h:LfI w g a n cap L er gx x)(hb:Below w.heap.size w w'):LfI w' g a n cap L er gx x:=⟨h.k.below hb,h.i.below hb,h.ne,h.z,h.off⟩
theorem LfI.put{w:World}{g:Nat}{a:Option Addr}{n cap:Nat}{L:List KV}{er:Int}{gx:Nat}{x x':IN}(h:LfI w g a n cap L er gx x)(o:Nat)(v:Value)(hi:A3j gx x' (w.setCell ⟨gx,o,none⟩ v)):LfI (w.setCell ⟨gx,o,none⟩ v) g a n cap L er gx x':=by
 have hk:A0j (fun k=>k=gx) w (w.setCell ⟨gx,o,none⟩ v):=(A0j.refl _ _).setg o v
 exact⟨h.k.keep hk (fun e=>h.ne e.symm) (fun e=>by have:=h.z;omega) (fun hn b off e=>h.off hn b off e),hi,h.ne,h.z,h.off⟩
def D4g(g:Nat)(a:Option Addr)(n cap:Nat)(L:List KV)(er:Int)(gx:Nat)(x:IN)(w:World)(e:Ending)(w':World):Prop:=e= .returned (.tuple #[])/\LfI w' g a n cap L er gx x/\A0j (fun k=>k=g\/k=gx) w w'
def C1x(gc:Nat)(c:KV)(w:World):Prop:=w.heap[gc]? =some (.cells c.cells.toArray 61 (0,0))
structure E2d(w:World)(g:Nat)(c:KV):Prop where
 c0:w.cell? ⟨g,0,none⟩=some (.int .i64 c.tag)
 c1:w.cell? ⟨g,1,none⟩=some (.int .i64 c.a)
 c3:w.cell? ⟨g,3,none⟩=some (.int .i64 c.n)
theorem C1x.box{gc:Nat}{c:KV}{w:World}(h:C1x gc c w):E2d w gc c:=⟨A0a h 0 rfl,A0a h 1 rfl,A0a h 3 rfl⟩
def E1r(w0:World)(c:KV)(g:Nat)(a:Option Addr)(n cap:Nat)(L:List KV)(er:Int)(gx:Nat)(x:IN)(gc:Nat)(w:World):Prop:=LfI w g a n cap L er gx x/\C1x gc c w/\Below w0.heap.size w0 w/\gc=w0.heap.size
theorem C5r(w:World)(g:Nat)(a:Option Addr)(n cap:Nat)(L:List KV)(er:Int)(gx:Nat)(x:IN)(at_:Nat)(hat:at_<1048576)(h:LfI w g a n cap L er gx x):
  Calls Tryz.prog 103 #[.pointer (some ⟨g,0,none⟩),.pointer (some ⟨gx,0,none⟩),.int .i64 at_] w (D4g g a n cap L (A2a er (C0k (C4g L x at_)) 8) gx (C4g L x at_) w):=by
 have H:=hzz h;have hnn:n=L.length:=h.k.ks.1.symm;have HN:=hzz hnn;have hsm:=h.k.sm;obtain⟨c,hc⟩:=exz (kAt L at_);have HC:=hzz hc
 have HX:=hzz (show C4g L x at_=if c.tag=3 then{x with ds:=[73],n:=c.n}else if c.tag=5 then{x with ds:=[74],n:=c.n}else if c.tag=8 then{x with ds:=[83],tx:=A1c L c.a}else x by rw[hc];rfl)
 obtain⟨x',hx'⟩:=exz (C4g L x at_);rw[<-hx']at HX⊢;obtain⟨k0,k1,q0,q1,klt⟩:=h.k.k.box;have hb0:(0:Int)<=at_:=by omega
 have hb2:(at_:Int)<1048576:=by omega
 clear h hc hx' hnn;by_cases hlt:at_<n
 ·have hl1:(at_:Int)<n:=by omega
  obtain⟨b1,o1,rfl,hb1,p⟩:=H.out.k.ks.at at_ hlt;rw[<-HC.out]at p;obtain⟨p0,p1,p2,p3,p4⟩:=p;clear hlt;go_enter Tryz.func103,Tryz.ntmps103
  go_upto_region 3 with fail
  have hbA:Below w.heap.size w (w.alloc (.cells #[.int .i64 c.tag,.int .i64 c.a,.int .i64 c.b,.int .i64 c.n,.string ⟨c.s.toArray⟩] 61)):=brz.alloc nlz _
  have HCA:=hzz (show E1r w c g (some ⟨b1,o1,none⟩) n cap L er gx x w.heap.size (w.alloc (.cells #[.int .i64 c.tag,.int .i64 c.a,.int .i64 c.b,.int .i64 c.n,.string ⟨c.s.toArray⟩] 61))from⟨H.out.below hbA,heap_alloc_last w _,hbA,rfl⟩)
  generalize(some ⟨b1,o1,none⟩:Option Addr)=a at*;generalize w.alloc _=W at*;clear hbA p0 p1 p2 p3 p4 k0 k1 q0 q1 klt hb0 hb2 hl1 hb1;generalize w.heap.size=gc at*
  have HNE:=hzz (show gc≠gx by have:=HCA.out.2.2.2;have:=H.out.i.lt;omega);obtain⟨p0,p1,p3⟩:=HCA.out.2.1.box;by_cases h3:c.tag=3
  ·have e3:(c.tag==3)=true:=by rw[h3];rfl
   have HXE:=hzz (show x'={x with ds:=[73],n:=c.n} by rw[HX.out,if_pos h3]);clear HX h3;have hlf0:=HCA.out.1;obtain⟨i0,i1,i2,i3,i4,i5,i6,f1,f2,f3,f4,f5,f6⟩:=hlf0.i.box
   have lc:∀w',C1x gc c w'->w'.cell? ⟨gc,3,none⟩=some (.int .i64 c.n):=fun w' h=>h.box.c3
   go_upto_region 5 with fail
   have hSw:C1x gc c W.drew:=HCA.out.2.1
   refine A0h (C1x gc c) (.of [(0,true),(1,true),(2,true),(3,true),(4,true),(5,true),(6,false),(7,true),(8,true),(9,false)] (.stir [])) (by kernel_rfl) (by kernel_rfl) (fun c a d v w h=>by cases d<;>exact h) ?_
   iterate 6
    refine A0b fun K hK=>tkF ?_
    go_simp
    try go_bits
    refine hK _ _ ?_;clear hK K
   refine A0b fun K hK=>alF ?_
   go_step;have hl1:LfI (W.drew.setCell ⟨gx,5,none⟩ (.string ⟨#[73]⟩)) g a n cap L er gx {x with ds:=[73]}:=(HCA.out.1.below (brz.drew)).put 5 _ ((HCA.out.1.i.below (brz.drew)).set5 [73])
   have hc1:C1x gc c (W.drew.setCell ⟨gx,5,none⟩ (.string ⟨#[73]⟩)):=A1r HCA.out.2.1 HNE.out _ _
   have hk1:A0j (fun k=>k=g\/k=gx) w (W.drew.setCell ⟨gx,5,none⟩ (.string ⟨#[73]⟩)):=((A0j.of HCA.out.2.2.1).trans (A0j.of (brz.drew))).set (.inl (.inr rfl)) 5 _
   first|refine⟨hc1,hK _ _ ?_⟩|skip
   clear hK K i0 i1 i2 i3 i4 i5 i6 f1 f2 f3 f4 f5 f6;change A4e _ _ _ _ _ _ (W.drew.setCell ⟨gx,5,none⟩ (.string ⟨#[73]⟩));generalize W.drew.setCell ⟨gx,5,none⟩ (.string ⟨#[73]⟩)=W1 at*
   have hSw:C1x gc c W1:=hc1;obtain⟨i0,i1,i2,i3,i4,i5,i6,f1,f2,f3,f4,f5,f6⟩:=hl1.i.box
   iterate 2
    refine A0b fun K hK=>tkF ?_
    go_simp
    try go_bits
    refine hK _ _ ?_;clear hK K
   refine A0b fun K hK=>alF ?_
   go_step
   have hl2:LfI (W1.setCell ⟨gx,1,none⟩ (.int .i64 c.n)) g a n cap L er gx x':=by
    have:=hl1.put 1 (.int .i64 c.n) (hl1.i.set1 c.n);rw[HXE.out];exact this
   have hc2:C1x gc c (W1.setCell ⟨gx,1,none⟩ (.int .i64 c.n)):=A1r hc1 HNE.out _ _
   have hk2:A0j (fun k=>k=g\/k=gx) w (W1.setCell ⟨gx,1,none⟩ (.int .i64 c.n)):=hk1.set (.inl (.inr rfl)) 1 _
   first|refine⟨hc2,hK _ _ ?_⟩|skip
   clear hK K i0 i1 i2 i3 i4 i5 i6 f1 f2 f3 f4 f5 f6;generalize W1.setCell ⟨gx,1,none⟩ (.int .i64 c.n)=W2 at*;refine A0m (B1s W2) (fun y hy=>by obtain rfl:y=W2:=hy;exact hc2) rfl ?_
   refine A0p (fun yy hy=> ?_);obtain rfl:W2=yy:=Eq.symm hy;have HL:=hzz hl2;have HK:=hzz hk2;clear hl1 hc1 hk1 hl2 hc2 hk2 lc hlf0
   obtain⟨i0,i1,i2,i3,i4,i5,i6,f1,f2,f3,f4,f5,f6⟩:=HL.out.i.box;obtain⟨D,hD⟩:=exz (x'.ds)
   have li0:∀w',A3j gx x' w'->w'.cell? ⟨gx,0,none⟩=some (.int .u8 (x'.op:Nat)):=fun w' h=>h.box.c0
   have li5:∀w',A3j gx x' w'->w'.cell? ⟨gx,5,none⟩=some (.string ⟨D.toArray⟩):=fun w' h=>by rw[hD];exact h.box.c5
   have HCC:=hzz (show C0k x'=(!D.isEmpty&&(decide (D=[74])==decide (x'.op=20))) by rw[hD];rfl);have HNE2:=hzz (fun ok=>A3v W2.drew g a n cap L er ok 8 (HL.out.k.below (brz.drew)))
   generalize C0k x'=CC at*;generalize x'.op=xo at*;clear hD i0 i1 i2 i3 i4 i5 i6 f1 f2 f3 f4 f5 f6
   go_upto_region 10 with fail
   cases D with
   |nil=>
    have hCC:CC=false:=HCC.out;subst hCC;have hSw:A3j gx x' W2.drew:=HL.out.i
    refine A0h (A3j gx x') (.of [(0,true),(1,true),(2,true),(3,true),(4,true),(5,true),(6,true),(7,true),(8,true),(9,true),(10,true),(11,true),(12,true),(13,true),(14,true),(15,true),(16,true),(17,true),(18,true),(19,false)] (.stir [])) (by kernel_rfl) (by kernel_rfl) (fun c a d v w h=>by cases d<;>exact h) ?_
    iterate 7
     refine A0b fun K hK=>tkF ?_
     go_simp
     try go_bits
     refine hK _ _ ?_;clear hK K
    iterate 11
     refine A0b fun K hK=>skF ?_
     go_simp;refine hK _ _ ?_;clear hK K
    iterate 1
     refine A0b fun K hK=>tkF ?_
     go_simp
     try go_bits
     refine hK _ _ ?_;clear hK K
    refine A0b fun K hK=>alF ?_
    go_step;refine(HNE2.out false).mono ?_;rintro e W3 ⟨rfl,h3,k3⟩
    have HL3:=hzz (show LfI W3 g a n cap L (A2a er false 8) gx x' from⟨h3,(HL.out.i.below (brz.drew)).keep k3 HL.out.ne,HL.out.ne,HL.out.z,HL.out.off⟩)
    have HK3:=hzz ((HK.out.trans (A0j.of (brz.drew))).trans (k3.weak (fun k _ e=>Or.inl e)));clear h3 k3;go_simp
    first|refine⟨HL3.out.i,hK _ _ ?_⟩|skip
    clear hK K;refine A0m (B1s W3) (fun y hy=>by obtain rfl:y=W3:=hy;exact HL3.out.i) rfl ?_;refine A0p (fun yy hy=> ?_);obtain rfl:W3=yy:=Eq.symm hy
    go_wp2_with fail
    go_end0;exact⟨rfl,HL3.out,HK3.out⟩
   |cons d0 D0=>
   obtain⟨y74,hy74⟩:∃y,y=decide (d0::D0=[74]):=⟨_,rfl⟩;obtain⟨y20,hy20⟩:∃y,y=decide (xo=20):=⟨_,rfl⟩
   have e74:(d0::D0==[74])=y74:=by rw[hy74,Bool.eq_iff_iff,beq_iff_eq,decide_eq_true_iff]
   have e20:((xo:Int)==20)=y20:=by rw[hy20,Bool.eq_iff_iff,beq_iff_eq,decide_eq_true_iff];omega
   have hCC:CC=(y74==y20):=by rw[HCC.out,hy74,hy20];rfl
   subst hCC;clear hy74 hy20 HCC;have hSw:A3j gx x' W2.drew:=HL.out.i
   refine A0h (A3j gx x') (.of [(0,true),(1,true),(2,true),(3,true),(4,true),(5,true),(6,true),(7,true),(8,true),(9,true),(10,true),(11,true),(12,true),(13,true),(14,true),(15,true),(16,true),(17,true),(18,true),(19,false)] (.stir [])) (by kernel_rfl) (by kernel_rfl) (fun c a d v w h=>by cases d<;>exact h) ?_
   iterate 19
    refine A0b fun K hK=>tkF ?_
    go_simp
    try go_bits
    refine hK _ _ ?_;clear hK K
   refine A0b fun K hK=>alF ?_
   go_step;refine(HNE2.out (y74==y20)).mono ?_;rintro e W3 ⟨rfl,h3,k3⟩
   have HL3:=hzz (show LfI W3 g a n cap L (A2a er (y74==y20) 8) gx x' from⟨h3,(HL.out.i.below (brz.drew)).keep k3 HL.out.ne,HL.out.ne,HL.out.z,HL.out.off⟩)
   have HK3:=hzz ((HK.out.trans (A0j.of (brz.drew))).trans (k3.weak (fun k _ e=>Or.inl e)));clear h3 k3;go_simp
   first|refine⟨HL3.out.i,hK _ _ ?_⟩|skip
   clear hK K;refine A0m (B1s W3) (fun y hy=>by obtain rfl:y=W3:=hy;exact HL3.out.i) rfl ?_;refine A0p (fun yy hy=> ?_);obtain rfl:W3=yy:=Eq.symm hy
   go_wp2_with fail
   go_end0;exact⟨rfl,HL3.out,HK3.out⟩
  have e3:(c.tag==3)=false:=by simpa using h3
  by_cases h5:c.tag=5
  ·have e5:(c.tag==5)=true:=by rw[h5];rfl
   have HXE:=hzz (show x'={x with ds:=[74],n:=c.n} by rw[HX.out,if_neg h3,if_pos h5]);clear HX h3 h5;have hlf0:=HCA.out.1
   obtain⟨i0,i1,i2,i3,i4,i5,i6,f1,f2,f3,f4,f5,f6⟩:=hlf0.i.box;have lc:∀w',C1x gc c w'->w'.cell? ⟨gc,3,none⟩=some (.int .i64 c.n):=fun w' h=>h.box.c3
   go_upto_region 7 with fail
   have hSw:C1x gc c W.drew:=HCA.out.2.1
   refine A0h (C1x gc c) (.of [(0,true),(1,true),(2,true),(3,true),(4,true),(5,true),(6,false),(7,true),(8,true),(9,false)] (.stir [])) (by kernel_rfl) (by kernel_rfl) (fun c a d v w h=>by cases d<;>exact h) ?_
   iterate 6
    refine A0b fun K hK=>tkF ?_
    go_simp
    try go_bits
    refine hK _ _ ?_;clear hK K
   refine A0b fun K hK=>alF ?_
   go_step;have hl1:LfI (W.drew.setCell ⟨gx,5,none⟩ (.string ⟨#[74]⟩)) g a n cap L er gx {x with ds:=[74]}:=(HCA.out.1.below (brz.drew)).put 5 _ ((HCA.out.1.i.below (brz.drew)).set5 [74])
   have hc1:C1x gc c (W.drew.setCell ⟨gx,5,none⟩ (.string ⟨#[74]⟩)):=A1r HCA.out.2.1 HNE.out _ _
   have hk1:A0j (fun k=>k=g\/k=gx) w (W.drew.setCell ⟨gx,5,none⟩ (.string ⟨#[74]⟩)):=((A0j.of HCA.out.2.2.1).trans (A0j.of (brz.drew))).set (.inl (.inr rfl)) 5 _
   first|refine⟨hc1,hK _ _ ?_⟩|skip
   clear hK K i0 i1 i2 i3 i4 i5 i6 f1 f2 f3 f4 f5 f6;change A4e _ _ _ _ _ _ (W.drew.setCell ⟨gx,5,none⟩ (.string ⟨#[74]⟩));generalize W.drew.setCell ⟨gx,5,none⟩ (.string ⟨#[74]⟩)=W1 at*
   have hSw:C1x gc c W1:=hc1;obtain⟨i0,i1,i2,i3,i4,i5,i6,f1,f2,f3,f4,f5,f6⟩:=hl1.i.box
   iterate 2
    refine A0b fun K hK=>tkF ?_
    go_simp
    try go_bits
    refine hK _ _ ?_;clear hK K
   refine A0b fun K hK=>alF ?_
   go_step
   have hl2:LfI (W1.setCell ⟨gx,1,none⟩ (.int .i64 c.n)) g a n cap L er gx x':=by
    have:=hl1.put 1 (.int .i64 c.n) (hl1.i.set1 c.n);rw[HXE.out];exact this
   have hc2:C1x gc c (W1.setCell ⟨gx,1,none⟩ (.int .i64 c.n)):=A1r hc1 HNE.out _ _
   have hk2:A0j (fun k=>k=g\/k=gx) w (W1.setCell ⟨gx,1,none⟩ (.int .i64 c.n)):=hk1.set (.inl (.inr rfl)) 1 _
   first|refine⟨hc2,hK _ _ ?_⟩|skip
   clear hK K i0 i1 i2 i3 i4 i5 i6 f1 f2 f3 f4 f5 f6;generalize W1.setCell ⟨gx,1,none⟩ (.int .i64 c.n)=W2 at*;refine A0m (B1s W2) (fun y hy=>by obtain rfl:y=W2:=hy;exact hc2) rfl ?_
   refine A0p (fun yy hy=> ?_);obtain rfl:W2=yy:=Eq.symm hy;have HL:=hzz hl2;have HK:=hzz hk2;clear hl1 hc1 hk1 hl2 hc2 hk2 lc hlf0
   obtain⟨i0,i1,i2,i3,i4,i5,i6,f1,f2,f3,f4,f5,f6⟩:=HL.out.i.box;obtain⟨D,hD⟩:=exz (x'.ds)
   have li0:∀w',A3j gx x' w'->w'.cell? ⟨gx,0,none⟩=some (.int .u8 (x'.op:Nat)):=fun w' h=>h.box.c0
   have li5:∀w',A3j gx x' w'->w'.cell? ⟨gx,5,none⟩=some (.string ⟨D.toArray⟩):=fun w' h=>by rw[hD];exact h.box.c5
   have HCC:=hzz (show C0k x'=(!D.isEmpty&&(decide (D=[74])==decide (x'.op=20))) by rw[hD];rfl);have HNE2:=hzz (fun ok=>A3v W2.drew g a n cap L er ok 8 (HL.out.k.below (brz.drew)))
   generalize C0k x'=CC at*;generalize x'.op=xo at*;clear hD i0 i1 i2 i3 i4 i5 i6 f1 f2 f3 f4 f5 f6
   go_upto_region 10 with fail
   cases D with
   |nil=>
    have hCC:CC=false:=HCC.out;subst hCC;have hSw:A3j gx x' W2.drew:=HL.out.i
    refine A0h (A3j gx x') (.of [(0,true),(1,true),(2,true),(3,true),(4,true),(5,true),(6,true),(7,true),(8,true),(9,true),(10,true),(11,true),(12,true),(13,true),(14,true),(15,true),(16,true),(17,true),(18,true),(19,false)] (.stir [])) (by kernel_rfl) (by kernel_rfl) (fun c a d v w h=>by cases d<;>exact h) ?_
    iterate 7
     refine A0b fun K hK=>tkF ?_
     go_simp
     try go_bits
     refine hK _ _ ?_;clear hK K
    iterate 11
     refine A0b fun K hK=>skF ?_
     go_simp;refine hK _ _ ?_;clear hK K
    iterate 1
     refine A0b fun K hK=>tkF ?_
     go_simp
     try go_bits
     refine hK _ _ ?_;clear hK K
    refine A0b fun K hK=>alF ?_
    go_step;refine(HNE2.out false).mono ?_;rintro e W3 ⟨rfl,h3,k3⟩
    have HL3:=hzz (show LfI W3 g a n cap L (A2a er false 8) gx x' from⟨h3,(HL.out.i.below (brz.drew)).keep k3 HL.out.ne,HL.out.ne,HL.out.z,HL.out.off⟩)
    have HK3:=hzz ((HK.out.trans (A0j.of (brz.drew))).trans (k3.weak (fun k _ e=>Or.inl e)));clear h3 k3;go_simp
    first|refine⟨HL3.out.i,hK _ _ ?_⟩|skip
    clear hK K;refine A0m (B1s W3) (fun y hy=>by obtain rfl:y=W3:=hy;exact HL3.out.i) rfl ?_;refine A0p (fun yy hy=> ?_);obtain rfl:W3=yy:=Eq.symm hy
    go_wp2_with fail
    go_end0;exact⟨rfl,HL3.out,HK3.out⟩
   |cons d0 D0=>
   obtain⟨y74,hy74⟩:∃y,y=decide (d0::D0=[74]):=⟨_,rfl⟩;obtain⟨y20,hy20⟩:∃y,y=decide (xo=20):=⟨_,rfl⟩
   have e74:(d0::D0==[74])=y74:=by rw[hy74,Bool.eq_iff_iff,beq_iff_eq,decide_eq_true_iff]
   have e20:((xo:Int)==20)=y20:=by rw[hy20,Bool.eq_iff_iff,beq_iff_eq,decide_eq_true_iff];omega
   have hCC:CC=(y74==y20):=by rw[HCC.out,hy74,hy20];rfl
   subst hCC;clear hy74 hy20 HCC;have hSw:A3j gx x' W2.drew:=HL.out.i
   refine A0h (A3j gx x') (.of [(0,true),(1,true),(2,true),(3,true),(4,true),(5,true),(6,true),(7,true),(8,true),(9,true),(10,true),(11,true),(12,true),(13,true),(14,true),(15,true),(16,true),(17,true),(18,true),(19,false)] (.stir [])) (by kernel_rfl) (by kernel_rfl) (fun c a d v w h=>by cases d<;>exact h) ?_
   iterate 19
    refine A0b fun K hK=>tkF ?_
    go_simp
    try go_bits
    refine hK _ _ ?_;clear hK K
   refine A0b fun K hK=>alF ?_
   go_step;refine(HNE2.out (y74==y20)).mono ?_;rintro e W3 ⟨rfl,h3,k3⟩
   have HL3:=hzz (show LfI W3 g a n cap L (A2a er (y74==y20) 8) gx x' from⟨h3,(HL.out.i.below (brz.drew)).keep k3 HL.out.ne,HL.out.ne,HL.out.z,HL.out.off⟩)
   have HK3:=hzz ((HK.out.trans (A0j.of (brz.drew))).trans (k3.weak (fun k _ e=>Or.inl e)));clear h3 k3;go_simp
   first|refine⟨HL3.out.i,hK _ _ ?_⟩|skip
   clear hK K;refine A0m (B1s W3) (fun y hy=>by obtain rfl:y=W3:=hy;exact HL3.out.i) rfl ?_;refine A0p (fun yy hy=> ?_);obtain rfl:W3=yy:=Eq.symm hy
   go_wp2_with fail
   go_end0;exact⟨rfl,HL3.out,HK3.out⟩
  have e5:(c.tag==5)=false:=by simpa using h5
  by_cases h8:c.tag=8
  ·have e8:(c.tag==8)=true:=by rw[h8];rfl
   have HXE:=hzz (show x'={x with ds:=[83],tx:=A1c L c.a} by rw[HX.out,if_neg h3,if_neg h5,if_pos h8]);have HT:=hzz (A9k W g a n cap L er c.a HCA.out.1.k)
   obtain⟨i0,i1,i2,i3,i4,i5,i6,f1,f2,f3,f4,f5,f6⟩:=HCA.out.1.i.box;generalize A1c L c.a=s at*;clear HX h3 h5 h8
   go_wp2_with fail
   refine HT.out.mono ?_;rintro e W0 ⟨rfl,rfl⟩
   go_upto_region 10 with fail
   have hl1:=HCA.out.1.put 5 (.string ⟨[83].toArray⟩) (HCA.out.1.i.set5 [83]);have hl2:=hl1.put 6 (.string ⟨s.toArray⟩) (hl1.i.set6 s)
   have HL:=hzz (show LfI ((W0.setCell ⟨gx,5,none⟩ (.string ⟨#[83]⟩)).setCell ⟨gx,6,none⟩ (.string ⟨s.toArray⟩)) g a n cap L er gx x' by rw[HXE.out];exact hl2)
   have HK:=hzz (show A0j (fun k=>k=g\/k=gx) w ((W0.setCell ⟨gx,5,none⟩ (.string ⟨#[83]⟩)).setCell ⟨gx,6,none⟩ (.string ⟨s.toArray⟩))from((A0j.of HCA.out.2.2.1).set (.inl (.inr rfl)) 5 _).set (.inl (.inr rfl)) 6 _)
   clear hl1 hl2 i0 i1 i2 i3 i4 i5 i6 f1 f2 f3 f4 f5 f6;generalize(W0.setCell ⟨gx,5,none⟩ (.string ⟨#[83]⟩)).setCell ⟨gx,6,none⟩ (.string ⟨s.toArray⟩)=W2 at*
   obtain⟨i0,i1,i2,i3,i4,i5,i6,f1,f2,f3,f4,f5,f6⟩:=HL.out.i.box;obtain⟨D,hD⟩:=exz (x'.ds)
   have li0:∀w',A3j gx x' w'->w'.cell? ⟨gx,0,none⟩=some (.int .u8 (x'.op:Nat)):=fun w' h=>h.box.c0
   have li5:∀w',A3j gx x' w'->w'.cell? ⟨gx,5,none⟩=some (.string ⟨D.toArray⟩):=fun w' h=>by rw[hD];exact h.box.c5
   have HCC:=hzz (show C0k x'=(!D.isEmpty&&(decide (D=[74])==decide (x'.op=20))) by rw[hD];rfl);have HNE2:=hzz (fun ok=>A3v W2.drew g a n cap L er ok 8 (HL.out.k.below (brz.drew)))
   generalize C0k x'=CC at*;generalize x'.op=xo at*;clear hD i0 i1 i2 i3 i4 i5 i6 f1 f2 f3 f4 f5 f6
   go_upto_region 10 with fail
   cases D with
   |nil=>
    have hCC:CC=false:=HCC.out;subst hCC;have hSw:A3j gx x' W2.drew:=HL.out.i
    refine A0h (A3j gx x') (.of [(0,true),(1,true),(2,true),(3,true),(4,true),(5,true),(6,true),(7,true),(8,true),(9,true),(10,true),(11,true),(12,true),(13,true),(14,true),(15,true),(16,true),(17,true),(18,true),(19,false)] (.stir [])) (by kernel_rfl) (by kernel_rfl) (fun c a d v w h=>by cases d<;>exact h) ?_
    iterate 7
     refine A0b fun K hK=>tkF ?_
     go_simp
     try go_bits
     refine hK _ _ ?_;clear hK K
    iterate 11
     refine A0b fun K hK=>skF ?_
     go_simp;refine hK _ _ ?_;clear hK K
    iterate 1
     refine A0b fun K hK=>tkF ?_
     go_simp
     try go_bits
     refine hK _ _ ?_;clear hK K
    refine A0b fun K hK=>alF ?_
    go_step;refine(HNE2.out false).mono ?_;rintro e W3 ⟨rfl,h3,k3⟩
    have HL3:=hzz (show LfI W3 g a n cap L (A2a er false 8) gx x' from⟨h3,(HL.out.i.below (brz.drew)).keep k3 HL.out.ne,HL.out.ne,HL.out.z,HL.out.off⟩)
    have HK3:=hzz ((HK.out.trans (A0j.of (brz.drew))).trans (k3.weak (fun k _ e=>Or.inl e)));clear h3 k3;go_simp
    first|refine⟨HL3.out.i,hK _ _ ?_⟩|skip
    clear hK K;refine A0m (B1s W3) (fun y hy=>by obtain rfl:y=W3:=hy;exact HL3.out.i) rfl ?_;refine A0p (fun yy hy=> ?_);obtain rfl:W3=yy:=Eq.symm hy
    go_wp2_with fail
    go_end0;exact⟨rfl,HL3.out,HK3.out⟩
   |cons d0 D0=>
   obtain⟨y74,hy74⟩:∃y,y=decide (d0::D0=[74]):=⟨_,rfl⟩;obtain⟨y20,hy20⟩:∃y,y=decide (xo=20):=⟨_,rfl⟩
   have e74:(d0::D0==[74])=y74:=by rw[hy74,Bool.eq_iff_iff,beq_iff_eq,decide_eq_true_iff]
   have e20:((xo:Int)==20)=y20:=by rw[hy20,Bool.eq_iff_iff,beq_iff_eq,decide_eq_true_iff];omega
   have hCC:CC=(y74==y20):=by rw[HCC.out,hy74,hy20];rfl
   subst hCC;clear hy74 hy20 HCC;have hSw:A3j gx x' W2.drew:=HL.out.i
   refine A0h (A3j gx x') (.of [(0,true),(1,true),(2,true),(3,true),(4,true),(5,true),(6,true),(7,true),(8,true),(9,true),(10,true),(11,true),(12,true),(13,true),(14,true),(15,true),(16,true),(17,true),(18,true),(19,false)] (.stir [])) (by kernel_rfl) (by kernel_rfl) (fun c a d v w h=>by cases d<;>exact h) ?_
   iterate 19
    refine A0b fun K hK=>tkF ?_
    go_simp
    try go_bits
    refine hK _ _ ?_;clear hK K
   refine A0b fun K hK=>alF ?_
   go_step;refine(HNE2.out (y74==y20)).mono ?_;rintro e W3 ⟨rfl,h3,k3⟩
   have HL3:=hzz (show LfI W3 g a n cap L (A2a er (y74==y20) 8) gx x' from⟨h3,(HL.out.i.below (brz.drew)).keep k3 HL.out.ne,HL.out.ne,HL.out.z,HL.out.off⟩)
   have HK3:=hzz ((HK.out.trans (A0j.of (brz.drew))).trans (k3.weak (fun k _ e=>Or.inl e)));clear h3 k3;go_simp
   first|refine⟨HL3.out.i,hK _ _ ?_⟩|skip
   clear hK K;refine A0m (B1s W3) (fun y hy=>by obtain rfl:y=W3:=hy;exact HL3.out.i) rfl ?_;refine A0p (fun yy hy=> ?_);obtain rfl:W3=yy:=Eq.symm hy
   go_wp2_with fail
   go_end0;exact⟨rfl,HL3.out,HK3.out⟩
  have e8:(c.tag==8)=false:=by simpa using h8
  have HXE:=hzz (show x'=x by rw[HX.out,if_neg h3,if_neg h5,if_neg h8]);clear HX h3 h5 h8
  go_upto_region 10 with fail
  have HL:=hzz (show LfI W g a n cap L er gx x' by rw[HXE.out];exact HCA.out.1);have HK:=hzz (show A0j (fun k=>k=g\/k=gx) w W from A0j.of HCA.out.2.2.1);obtain⟨W2,hW2⟩:=exz (W);subst hW2
  obtain⟨i0,i1,i2,i3,i4,i5,i6,f1,f2,f3,f4,f5,f6⟩:=HL.out.i.box;obtain⟨D,hD⟩:=exz (x'.ds)
  have li0:∀w',A3j gx x' w'->w'.cell? ⟨gx,0,none⟩=some (.int .u8 (x'.op:Nat)):=fun w' h=>h.box.c0
  have li5:∀w',A3j gx x' w'->w'.cell? ⟨gx,5,none⟩=some (.string ⟨D.toArray⟩):=fun w' h=>by rw[hD];exact h.box.c5
  have HCC:=hzz (show C0k x'=(!D.isEmpty&&(decide (D=[74])==decide (x'.op=20))) by rw[hD];rfl);have HNE2:=hzz (fun ok=>A3v W2.drew g a n cap L er ok 8 (HL.out.k.below (brz.drew)))
  generalize C0k x'=CC at*;generalize x'.op=xo at*;clear hD i0 i1 i2 i3 i4 i5 i6 f1 f2 f3 f4 f5 f6
  go_upto_region 10 with fail
  cases D with
  |nil=>
   have hCC:CC=false:=HCC.out;subst hCC;have hSw:A3j gx x' W2.drew:=HL.out.i
   refine A0h (A3j gx x') (.of [(0,true),(1,true),(2,true),(3,true),(4,true),(5,true),(6,true),(7,true),(8,true),(9,true),(10,true),(11,true),(12,true),(13,true),(14,true),(15,true),(16,true),(17,true),(18,true),(19,false)] (.stir [])) (by kernel_rfl) (by kernel_rfl) (fun c a d v w h=>by cases d<;>exact h) ?_
   iterate 7
    refine A0b fun K hK=>tkF ?_
    go_simp
    try go_bits
    refine hK _ _ ?_;clear hK K
   iterate 11
    refine A0b fun K hK=>skF ?_
    go_simp;refine hK _ _ ?_;clear hK K
   iterate 1
    refine A0b fun K hK=>tkF ?_
    go_simp
    try go_bits
    refine hK _ _ ?_;clear hK K
   refine A0b fun K hK=>alF ?_
   go_step;refine(HNE2.out false).mono ?_;rintro e W3 ⟨rfl,h3,k3⟩
   have HL3:=hzz (show LfI W3 g a n cap L (A2a er false 8) gx x' from⟨h3,(HL.out.i.below (brz.drew)).keep k3 HL.out.ne,HL.out.ne,HL.out.z,HL.out.off⟩)
   have HK3:=hzz ((HK.out.trans (A0j.of (brz.drew))).trans (k3.weak (fun k _ e=>Or.inl e)));clear h3 k3;go_simp
   first|refine⟨HL3.out.i,hK _ _ ?_⟩|skip
   clear hK K;refine A0m (B1s W3) (fun y hy=>by obtain rfl:y=W3:=hy;exact HL3.out.i) rfl ?_;refine A0p (fun yy hy=> ?_);obtain rfl:W3=yy:=Eq.symm hy
   go_wp2_with fail
   go_end0;exact⟨rfl,HL3.out,HK3.out⟩
  |cons d0 D0=>
  obtain⟨y74,hy74⟩:∃y,y=decide (d0::D0=[74]):=⟨_,rfl⟩;obtain⟨y20,hy20⟩:∃y,y=decide (xo=20):=⟨_,rfl⟩
  have e74:(d0::D0==[74])=y74:=by rw[hy74,Bool.eq_iff_iff,beq_iff_eq,decide_eq_true_iff]
  have e20:((xo:Int)==20)=y20:=by rw[hy20,Bool.eq_iff_iff,beq_iff_eq,decide_eq_true_iff];omega
  have hCC:CC=(y74==y20):=by rw[HCC.out,hy74,hy20];rfl
  subst hCC;clear hy74 hy20 HCC;have hSw:A3j gx x' W2.drew:=HL.out.i
  refine A0h (A3j gx x') (.of [(0,true),(1,true),(2,true),(3,true),(4,true),(5,true),(6,true),(7,true),(8,true),(9,true),(10,true),(11,true),(12,true),(13,true),(14,true),(15,true),(16,true),(17,true),(18,true),(19,false)] (.stir [])) (by kernel_rfl) (by kernel_rfl) (fun c a d v w h=>by cases d<;>exact h) ?_
  iterate 19
   refine A0b fun K hK=>tkF ?_
   go_simp
   try go_bits
   refine hK _ _ ?_;clear hK K
  refine A0b fun K hK=>alF ?_
  go_step;refine(HNE2.out (y74==y20)).mono ?_;rintro e W3 ⟨rfl,h3,k3⟩
  have HL3:=hzz (show LfI W3 g a n cap L (A2a er (y74==y20) 8) gx x' from⟨h3,(HL.out.i.below (brz.drew)).keep k3 HL.out.ne,HL.out.ne,HL.out.z,HL.out.off⟩)
  have HK3:=hzz ((HK.out.trans (A0j.of (brz.drew))).trans (k3.weak (fun k _ e=>Or.inl e)));clear h3 k3;go_simp
  first|refine⟨HL3.out.i,hK _ _ ?_⟩|skip
  clear hK K;refine A0m (B1s W3) (fun y hy=>by obtain rfl:y=W3:=hy;exact HL3.out.i) rfl ?_;refine A0p (fun yy hy=> ?_);obtain rfl:W3=yy:=Eq.symm hy
  go_wp2_with fail
  go_end0;exact⟨rfl,HL3.out,HK3.out⟩
 have hl1:¬(at_:Int)<n:=by omega
 have hcz:c=kz:=by
  rw[HC.out];unfold kAt;rw[Int.toNat_natCast,List.getD_eq_getElem?_getD,List.getElem?_eq_none (by have:=HN.out;omega)];rfl
 have HX0:=hzz (show x'=x by rw[HX.out,hcz];rfl);subst hcz;clear HX HC hlt;go_enter Tryz.func103,Tryz.ntmps103
 go_upto_region 10 with fail
 have hbA:Below w.heap.size w (w.alloc (.cells #[.int .i64 0,.int .i64 0,.int .i64 0,.int .i64 0,.string ⟨#[]⟩] 61)):=brz.alloc nlz _
 have HL:=hzz (show LfI (w.alloc (.cells #[.int .i64 0,.int .i64 0,.int .i64 0,.int .i64 0,.string ⟨#[]⟩] 61)) g a n cap L er gx x' by rw[HX0.out];exact H.out.below hbA)
 have HK:=hzz (show A0j (fun k=>k=g\/k=gx) w (w.alloc (.cells #[.int .i64 0,.int .i64 0,.int .i64 0,.int .i64 0,.string ⟨#[]⟩] 61))from A0j.of hbA);generalize w.alloc _=W2 at*
 clear hbA k0 k1 q0 q1 klt hb0 hb2 hl1;obtain⟨i0,i1,i2,i3,i4,i5,i6,f1,f2,f3,f4,f5,f6⟩:=HL.out.i.box;obtain⟨D,hD⟩:=exz (x'.ds)
 have li0:∀w',A3j gx x' w'->w'.cell? ⟨gx,0,none⟩=some (.int .u8 (x'.op:Nat)):=fun w' h=>h.box.c0
 have li5:∀w',A3j gx x' w'->w'.cell? ⟨gx,5,none⟩=some (.string ⟨D.toArray⟩):=fun w' h=>by rw[hD];exact h.box.c5
 have HCC:=hzz (show C0k x'=(!D.isEmpty&&(decide (D=[74])==decide (x'.op=20))) by rw[hD];rfl);have HNE2:=hzz (fun ok=>A3v W2.drew g a n cap L er ok 8 (HL.out.k.below (brz.drew)))
 generalize C0k x'=CC at*;generalize x'.op=xo at*;clear hD i0 i1 i2 i3 i4 i5 i6 f1 f2 f3 f4 f5 f6
 go_upto_region 10 with fail
 cases D with
 |nil=>
  have hCC:CC=false:=HCC.out;subst hCC;have hSw:A3j gx x' W2.drew:=HL.out.i
  refine A0h (A3j gx x') (.of [(0,true),(1,true),(2,true),(3,true),(4,true),(5,true),(6,true),(7,true),(8,true),(9,true),(10,true),(11,true),(12,true),(13,true),(14,true),(15,true),(16,true),(17,true),(18,true),(19,false)] (.stir [])) (by kernel_rfl) (by kernel_rfl) (fun c a d v w h=>by cases d<;>exact h) ?_
  iterate 7
   refine A0b fun K hK=>tkF ?_
   go_simp
   try go_bits
   refine hK _ _ ?_;clear hK K
  iterate 11
   refine A0b fun K hK=>skF ?_
   go_simp;refine hK _ _ ?_;clear hK K
  iterate 1
   refine A0b fun K hK=>tkF ?_
   go_simp
   try go_bits
   refine hK _ _ ?_;clear hK K
  refine A0b fun K hK=>alF ?_
  go_step;refine(HNE2.out false).mono ?_;rintro e W3 ⟨rfl,h3,k3⟩
  have HL3:=hzz (show LfI W3 g a n cap L (A2a er false 8) gx x' from⟨h3,(HL.out.i.below (brz.drew)).keep k3 HL.out.ne,HL.out.ne,HL.out.z,HL.out.off⟩)
  have HK3:=hzz ((HK.out.trans (A0j.of (brz.drew))).trans (k3.weak (fun k _ e=>Or.inl e)));clear h3 k3;go_simp
  first|refine⟨HL3.out.i,hK _ _ ?_⟩|skip
  clear hK K;refine A0m (B1s W3) (fun y hy=>by obtain rfl:y=W3:=hy;exact HL3.out.i) rfl ?_;refine A0p (fun yy hy=> ?_);obtain rfl:W3=yy:=Eq.symm hy
  go_wp2_with fail
  go_end0;exact⟨rfl,HL3.out,HK3.out⟩
 |cons d0 D0=>
 obtain⟨y74,hy74⟩:∃y,y=decide (d0::D0=[74]):=⟨_,rfl⟩;obtain⟨y20,hy20⟩:∃y,y=decide (xo=20):=⟨_,rfl⟩
 have e74:(d0::D0==[74])=y74:=by rw[hy74,Bool.eq_iff_iff,beq_iff_eq,decide_eq_true_iff]
 have e20:((xo:Int)==20)=y20:=by rw[hy20,Bool.eq_iff_iff,beq_iff_eq,decide_eq_true_iff];omega
 have hCC:CC=(y74==y20):=by rw[HCC.out,hy74,hy20];rfl
 subst hCC;clear hy74 hy20 HCC;have hSw:A3j gx x' W2.drew:=HL.out.i
 refine A0h (A3j gx x') (.of [(0,true),(1,true),(2,true),(3,true),(4,true),(5,true),(6,true),(7,true),(8,true),(9,true),(10,true),(11,true),(12,true),(13,true),(14,true),(15,true),(16,true),(17,true),(18,true),(19,false)] (.stir [])) (by kernel_rfl) (by kernel_rfl) (fun c a d v w h=>by cases d<;>exact h) ?_
 iterate 19
  refine A0b fun K hK=>tkF ?_
  go_simp
  try go_bits
  refine hK _ _ ?_;clear hK K
 refine A0b fun K hK=>alF ?_
 go_step;refine(HNE2.out (y74==y20)).mono ?_;rintro e W3 ⟨rfl,h3,k3⟩
 have HL3:=hzz (show LfI W3 g a n cap L (A2a er (y74==y20) 8) gx x' from⟨h3,(HL.out.i.below (brz.drew)).keep k3 HL.out.ne,HL.out.ne,HL.out.z,HL.out.off⟩)
 have HK3:=hzz ((HK.out.trans (A0j.of (brz.drew))).trans (k3.weak (fun k _ e=>Or.inl e)));clear h3 k3;go_simp
 first|refine⟨HL3.out.i,hK _ _ ?_⟩|skip
 clear hK K;refine A0m (B1s W3) (fun y hy=>by obtain rfl:y=W3:=hy;exact HL3.out.i) rfl ?_;refine A0p (fun yy hy=> ?_);obtain rfl:W3=yy:=Eq.symm hy
 go_wp2_with fail
 go_end0;exact⟨rfl,HL3.out,HK3.out⟩
def D7j(L:List KV)(x:IN)(at_ t:Int):IN:={x with cl:=(A1i L at_ t).1,nm:=(A1i L at_ t).2.1,ds:=(A1i L at_ t).2.2.1}
def C6k(p:List UInt8->Bool)(L:List KV)(at_ t:Int):Bool:=(A1i L at_ t).2.2.2&&(A1b (A1i L at_ t).1&&(A5e (A1i L at_ t).2.1&&p (A1i L at_ t).2.2.1))
theorem C2p(w:World)(g:Nat)(a:Option Addr)(n cap:Nat)(L:List KV)(er:Int)(gx:Nat)(x:IN)(at_ t:Int)(fis:Nat)(p:List UInt8->Bool)
  (hen:∀(args:Array Value) (W:World),(callFunc fis args).run Tryz.prog W= .ok (.enter fis args) W)
  (hp:∀(W:World) (s:List UInt8),s.length<=65536->VW W->Calls Tryz.prog fis #[.string ⟨s.toArray⟩] W fun e w'=>e= .returned (.bool (p s))/\Below W.heap.size W w') (h:LfI w g a n cap L er gx x):
  Calls Tryz.prog 104 #[.pointer (some ⟨g,0,none⟩),.pointer (some ⟨gx,0,none⟩),.int .i64 at_,.int .i64 t,.func (.func fis) #[] #[]] w (D4g g a n cap L (A2a er (C6k p L at_ t) 8) gx (D7j L x at_ t) w):=by
 have HM:=hzz (C5d w a n cap L at_ t h.k.ks h.k.sm);obtain⟨l1,l2,l3⟩:=B7v h.k.tx at_ t;have H:=hzz h
 have HC:C6k p L at_ t=((A1i L at_ t).2.2.2&&(A1b (A1i L at_ t).1&&(A5e (A1i L at_ t).2.1&&p (A1i L at_ t).2.2.1))):=rfl
 have hX:D7j L x at_ t={x with cl:=(A1i L at_ t).1,nm:=(A1i L at_ t).2.1,ds:=(A1i L at_ t).2.2.1}:=rfl;generalize C6k p L at_ t=C at*;generalize D7j L x at_ t=x' at*
 unfold A2s at HM;generalize(A1i L at_ t).1=s1 at*;generalize(A1i L at_ t).2.1=s2 at*;generalize(A1i L at_ t).2.2.1=s3 at*;generalize(A1i L at_ t).2.2.2=b at*
 have HX:=hzz hX;have HI1:=hzz (fun W (hv:VW W)=>A6w W s1 (by omega) hv);have HI2:=hzz (fun W (hv:VW W)=>A4s W s2 l2 hv);have HI3:=hzz (fun W (hv:VW W)=>hp W s3 l3 hv)
 generalize A1b s1=x1 at*;generalize A5e s2=x2 at*;generalize p s3=x3 at*;obtain⟨k0,k1,q0,q1,klt⟩:=h.k.k.box;clear h hX hp l1 l2 l3;go_enter Tryz.func104,Tryz.ntmps104
 go_wp2_with fail
 refine HM.out.mono ?_;rintro e W0 ⟨rfl,hb0⟩;have H0:=hzz (H.out.below hb0);have HK0:=hzz (show A0j (fun k=>k=g\/k=gx) w W0 from A0j.of hb0);clear hb0 k0 k1 q0 q1 klt
 obtain⟨i0,i1,i2,i3,i4,i5,i6,f1,f2,f3,f4,f5,f6⟩:=H0.out.i.box
 go_upto_region 2 with fail
 have hl1:=H0.out.put 3 (.string ⟨s1.toArray⟩) (H0.out.i.set3 s1);have hl2:=hl1.put 4 (.string ⟨s2.toArray⟩) (hl1.i.set4 s2);have hl3:=hl2.put 5 (.string ⟨s3.toArray⟩) (hl2.i.set5 s3)
 have HL:=hzz (show LfI (((W0.setCell ⟨gx,3,none⟩ (.string ⟨s1.toArray⟩)).setCell ⟨gx,4,none⟩ (.string ⟨s2.toArray⟩)).setCell ⟨gx,5,none⟩ (.string ⟨s3.toArray⟩)) g a n cap L er gx x' by rw[HX.out];exact hl3)
 have HK:=hzz (show A0j (fun k=>k=g\/k=gx) w (((W0.setCell ⟨gx,3,none⟩ (.string ⟨s1.toArray⟩)).setCell ⟨gx,4,none⟩ (.string ⟨s2.toArray⟩)).setCell ⟨gx,5,none⟩ (.string ⟨s3.toArray⟩))from((HK0.out.set (.inl (.inr rfl)) 3 _).set (.inl (.inr rfl)) 4 _).set (.inl (.inr rfl)) 5 _)
 clear hl1 hl2 hl3 i0 i1 i2 i3 i4 i5 i6 f1 f2 f3 f4 f5 f6 HK0 H0
 generalize((W0.setCell ⟨gx,3,none⟩ (.string ⟨s1.toArray⟩)).setCell ⟨gx,4,none⟩ (.string ⟨s2.toArray⟩)).setCell ⟨gx,5,none⟩ (.string ⟨s3.toArray⟩)=W2 at*
 have HFIN:=hzz (fun W (hb:Below W2.heap.size W2 W) ok=>(A3v W g a n cap L er ok 8 (HL.out.k.below hb)).mono (R':=fun e W3=>e= .returned (.tuple #[])/\LfI W3 g a n cap L (A2a er ok 8) gx x'/\A0j (fun k=>k=g\/k=gx) w W3) (by
  rintro e W3 ⟨rfl,h3,k3⟩;exact⟨rfl,⟨h3,(HL.out.i.below hb).keep k3 HL.out.ne,HL.out.ne,HL.out.z,HL.out.off⟩,(HK.out.trans (A0j.of hb)).trans (k3.weak (fun k _ e=>Or.inl e))⟩))
 have HBX:=hzz (fun W (hb:Below W2.heap.size W2 W)=>(HL.out.i.below hb).box);have HBR:=hzz (Below.refl W2.heap.size W2);have hvs:x'.cl=s1/\x'.nm=s2/\x'.ds=s3:=by rw[HX.out];exact⟨rfl,rfl,rfl⟩
 obtain⟨v1,v2,v3⟩:=hvs
 cases b
 ·have hC:C=false:=HC;subst hC;clear HC
  go_wp2_with fail
  refine(HFIN.out W2 HBR.out false).mono ?_;rintro e W9 ⟨rfl,hl,hk⟩
  go_wp2_with fail
  go_end0;exact⟨rfl,hl,hk⟩
 obtain⟨i0,i1,i2,i3,i4,i5,i6,f1,f2,f3,f4,f5,f6⟩:=HBX.out W2 HBR.out;rw[v1]at i3;rw[v2]at i4;rw[v3]at i5
 go_wp2_with fail
 refine(HI1.out W2 (HL.out.k.vw.below HBR.out)).mono ?_;rintro e W3 ⟨rfl,hb⟩;have HB3:=btz HBR hb;clear hb i0 i1 i2 i3 i4 i5 i6 f1 f2 f3 f4 f5 f6
 cases x1
 ·have hC:C=false:=HC;subst hC;clear HC
  go_wp2_with fail
  refine(HFIN.out W3 HB3.out false).mono ?_;rintro e W9 ⟨rfl,hl,hk⟩
  go_wp2_with fail
  go_end0;exact⟨rfl,hl,hk⟩
 obtain⟨i0,i1,i2,i3,i4,i5,i6,f1,f2,f3,f4,f5,f6⟩:=HBX.out W3 HB3.out;rw[v1]at i3;rw[v2]at i4;rw[v3]at i5
 go_wp2_with fail
 refine(HI2.out W3 (HL.out.k.vw.below HB3.out)).mono ?_;rintro e W4 ⟨rfl,hb⟩;have HB4:=btz HB3 hb;clear hb i0 i1 i2 i3 i4 i5 i6 f1 f2 f3 f4 f5 f6
 cases x2
 ·have hC:C=false:=HC;subst hC;clear HC
  go_wp2_with fail
  refine(HFIN.out W4 HB4.out false).mono ?_;rintro e W9 ⟨rfl,hl,hk⟩
  go_wp2_with fail
  go_end0;exact⟨rfl,hl,hk⟩
 obtain⟨i0,i1,i2,i3,i4,i5,i6,f1,f2,f3,f4,f5,f6⟩:=HBX.out W4 HB4.out;rw[v1]at i3;rw[v2]at i4;rw[v3]at i5
 go_wp2_with fail
 refine(HI3.out W4 (HL.out.k.vw.below HB4.out)).mono ?_;rintro e W5 ⟨rfl,hb⟩;have HB5:=btz HB4 hb;clear hb i0 i1 i2 i3 i4 i5 i6 f1 f2 f3 f4 f5 f6;have hC:C=x3:=HC;subst hC;clear HC
 go_wp2_with fail
 refine(HFIN.out W5 HB5.out C).mono ?_;rintro e W9 ⟨rfl,hl,hk⟩
 go_wp2_with fail
 go_end0;exact⟨rfl,hl,hk⟩
end
end Go.Proofs.YtclpkipaehpkdaaGreatDoor
