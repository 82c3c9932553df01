/- asm -/
import Derived.Test.YtclpkipaehpkdaaGreatDoorQ04AsmLowers
import Derived.Test.YtclpkipaehpkdaaGreatDoorQ03AsmLowers
set_option linter.unusedVariables false
set_option linter.unusedSimpArgs false
set_option maxRecDepth 100000
set_option maxHeartbeats 64000000
namespace Go.Proofs.YtclpkipaehpkdaaGreatDoor
section
open Go.ChangeShapes Go.WideShapes Go.ChangeAt Go.RowKit
theorem C1a:Tryz.prog.underlying 61=some (.struct (Tryz.prog.fieldsOf 61)):=by kernel_rfl
theorem C7q:Tryz.prog.stoodInHeld 61=false:=by kernel_rfl
theorem B5f:Tryz.prog.eqGuardType Tryz.prog.depth 61=false:=by kernel_rfl
theorem C8u:(Tryz.prog.fieldsOf 61).toList.map (fun f=>(f.name,f.type,f.offset))=[("Tag",3,0),("A",3,1),("B",3,2),("N",2,3),("S",9,4)]:=by kernel_rfl
def B5a(c d:KV):Bool:=decide (c.tag=d.tag/\c.a=d.a/\c.b=d.b/\c.n=d.n/\c.s=d.s)
theorem A6m(l:List UInt8):(⟨l.toArray⟩:ByteArray).toList=l:=by rw[ByteArray.toList_eq]
theorem B7z(w:World)(d:Nat)(x y:KV):(Op.equalIn (d+1+1) 61 (kV x) (kV y)).run Tryz.prog w= .ok (B5a x y) w:=by
 unfold kV;rw[run_equalIn_struct w (d+1) _ _ _ C1a C7q];have hl:=C8u
 match hf:(Tryz.prog.fieldsOf 61).toList,hl with
 |[f0,f1,f2,f3,f4],hl=>
  simp only[List.map_cons,List.map_nil,List.cons.injEq,Prod.mk.injEq,and_true]at hl;obtain⟨⟨n0,t0,o0⟩,⟨n1,t1,o1⟩,⟨n2,t2,o2⟩,⟨n3,t3,o3⟩,⟨n4,t4,o4⟩⟩:=hl
  simp only[Op.eqFields,n0,n1,n2,n3,n4,t0,t1,t2,t3,t4,o0,o1,o2,o3,o4]
  have b:∀(e:Value) (i:Nat) (t:TypeId) (d':TypeDesc) (cs:Array Value) (w:World),Tryz.prog.underlying t=some d'->(match d' with| .struct _| .array _ _=>false|_=>true)=true->cs[i]? =some e->(part t cs i).run Tryz.prog w= .ok e w:=by
   intro e i t d' cs w h1 h2 h3
   cases d'<;>simp[part,isAgg,run_underlying h1,h3]at h2⊢
  have i0:∀(i:Nat) (cs:Array Value) (w:World) (h:i<cs.size),(part 3 cs i).run Tryz.prog w= .ok cs[i] w:=fun i cs w h=>b _ i _ _ cs w Tryz.underlying3 rfl (Array.getElem?_eq_getElem h)
  have i3:∀(i:Nat) (cs:Array Value) (w:World) (h:i<cs.size),(part 2 cs i).run Tryz.prog w= .ok cs[i] w:=fun i cs w h=>b _ i _ _ cs w Tryz.underlying2 rfl (Array.getElem?_eq_getElem h)
  have i4:∀(i:Nat) (cs:Array Value) (w:World) (h:i<cs.size),(part 9 cs i).run Tryz.prog w= .ok cs[i] w:=fun i cs w h=>b _ i _ _ cs w Tryz.underlying9 rfl (Array.getElem?_eq_getElem h)
  by_cases g0:x.tag=y.tag
  ·by_cases g1:x.a=y.a
   ·by_cases g2:x.b=y.b
    ·by_cases g3:x.n=y.n
     ·simp[i0,i3,i4,run_equalIn_int _ _ _ _ _ _ _ Tryz.underlying3,run_equalIn_int _ _ _ _ _ _ _ Tryz.underlying2,run_equalIn_string _ _ _ _ _ Tryz.underlying9,g0,g1,g2,g3,B5a,A6m]
      by_cases g4:x.s=y.s<;>simp[g4]
     simp[i0,i3,i4,run_equalIn_int _ _ _ _ _ _ _ Tryz.underlying3,run_equalIn_int _ _ _ _ _ _ _ Tryz.underlying2,g0,g1,g2,g3,B5a]
    simp[i0,i3,i4,run_equalIn_int _ _ _ _ _ _ _ Tryz.underlying3,g0,g1,g2,B5a]
   simp[i0,run_equalIn_int _ _ _ _ _ _ _ Tryz.underlying3,g0,g1,B5a]
  simp[i0,run_equalIn_int _ _ _ _ _ _ _ Tryz.underlying3,g0,B5a]
 |[],hl|[_],hl|[_,_],hl|[_,_,_],hl|[_,_,_,_],hl|_::_::_::_::_::_::_,hl=>simp at hl
theorem D4x(w:World)(x y:KV)(o1 o2:Operand):((eqGuard .neq 61 o1 o2 (kV x) (kV y)).run Tryz.prog w).andThen (fun _ w'=>(binOp .neq 61 (kV x) (kV y)).run Tryz.prog w')= .ok (.bool (!B5a x y)) w:=by
 have h:=B7z w 9998 x y;unfold kV at h⊢;rw[run_eqGuard_agg w _ _ _ _ _ _ B5f,Result.andThen_ok,run_neq_struct,h,Result.andThen_ok]
theorem C8y(c:KV):B5a c (A6x c)=A0x c:=by
 obtain⟨t,a,b,n,s⟩:=c;unfold B5a A6x A0x wrap32;rw[Bool.eq_iff_iff]
 by_cases h1:t=1<;>by_cases h3:t=3<;>by_cases h5:t=5<;>by_cases h9:t=9<;>by_cases h10:t=10<;>by_cases h12:t=12<;>by_cases h7:t=7<;>by_cases h8:t=8<;>first|(exfalso;omega)|(simp[h1,h3,h5,h9,h10,h12,h7,h8];done)|(simp[h1,h3,h5,h9,h10,h12,h7,h8];omega)|(simp[h1,h3,h5,h9,h10,h12,h7,h8];grind)
theorem B3p{P:Program}{ρ:Operand->Value}{o:Oper}{op:BinOp}{t:TypeId}{x y:Operand}{ty:TypeId}(ho:o.op= .binOp op t x y ty){v:Value}{w:World}
  (h:((eqGuard op t x y (ρ x) (ρ y)).run P w).andThen (fun _ w'=>(binOp op t (ρ x) (ρ y)).run P w')= .ok v w):(execOp ρ o).run P w= .ok (.value v) w:=by
 unfold execOp;simp only[ho,Sem.run_bind,Sem.run_pure];rw[h];rfl
def C5j(L:List KV)(w:World)(e:Ending)(w':World):Prop:=e= .returned (.int .i64 (if A5e L then 0 else 8))/\Below w.heap.size w w'
theorem B0p{L:List KV}(h:L.length=0\/1024<L.length):A5e L=false:=by
 unfold A5e
 rcases h with h|h
 ·rw[decide_eq_false (show ¬1<=L.length by omega)];rfl
 rw[decide_eq_false (show ¬L.length<=1024 by omega)];simp
theorem B7f{L:List KV}(h:(kAt L 0).tag≠0):A5e L=false:=by
 unfold A5e;rw[decide_eq_false h];simp
theorem B7y{L:List KV}(j:Nat)(hj:j<L.length)(h:A1f L j=false):A5e L=false:=by
 unfold A5e
 have:(List.range L.length).all (A1f L)=false:=by
  rw[List.all_eq_false];exact⟨j,by simpa using hj,by simp[h]⟩
 rw[this];simp
theorem B5k{L:List KV}(h1:1<=L.length)(h2:L.length<=1024)(h3:(kAt L 0).tag=0)(h:∀k,k<L.length->A1f L k=true):A5e L=true:=by
 unfold A5e;rw[decide_eq_true h1,decide_eq_true h2,decide_eq_true h3];simp;exact h
theorem D2s(w:World)(a:Option Addr)(n cap:Nat)(L:List KV)(hs:Ks w a n L)(hn:n<=65536)(hl:∀i:Nat,i<n->(kAt L i).s.length<=65536):Calls Tryz.prog 43 #[.slice a n cap] w (C5j L w):=by
 have hL:=hs.1;by_cases h0:n=0
 ·subst h0;have HR:=hzz (B0p (L:=L) (.inl hL));clear hs hl;go_enter Tryz.func43,Tryz.ntmps43
  go_wp2_with fail
  go_ret;exact⟨by rw[HR.out];rfl,brz⟩
 by_cases hm:1024<n
 ·have HR:=hzz (B0p (L:=L) (.inr (by omega)));have e0:((n:Int)==0)=false:=by simp;omega
  have e1:decide ((1024:Int)<n)=true:=by simp;omega
  clear hs hl h0 hL;go_enter Tryz.func43,Tryz.ntmps43
  go_wp2_with fail
  go_ret;exact⟨by rw[HR.out];rfl,brz⟩
 obtain⟨b,off,rfl,hbl,hk⟩:=hs.at 0 (by omega);have p0:=hk.c0;simp only[Nat.zero_mul,Nat.add_zero]at p0;have e0:((n:Int)==0)=false:=by simp;omega
 have e1:decide ((1024:Int)<n)=false:=by simp;omega
 have z0:0<n:=by omega
 by_cases ht:(kAt L 0).tag=0
 ·have p0':w.cell? ⟨b,off,none⟩=some (.int .i64 0):=by rw[p0];rw[<-ht];rfl
  have HS:=hzz hs;have HT:=hzz ht;have HLn:=hzz hL;have HL:=hzz hl;clear hk p0 hs ht hl hL;go_enter Tryz.func43,Tryz.ntmps43
  go_wp2_with fail
  clear p0'
  go_loopg [22] n (fun gn i wr=>∃j:Nat,j<=n/\gn=n-j/\i= .int .i64 j/\Hid (∀k,k<j->A1f L k=true)/\Hid (Below w.heap.size w wr))
  case atStart=>exact⟨0,by omega,by omega,by go_num,hzz (fun k h=>by omega),hzz brz⟩
  obtain⟨j,hj,rfl,rfl,HP,HB⟩:=hrel;by_cases hlt:j<n
  ·obtain⟨b',off',he,_,hk⟩:=(HS.out.below HB.out).at j hlt
   cases he
   obtain⟨q0,q1,q2,q3,q4⟩:=hk;have HCB:=hzz (fun w'=>D6p w' (kAt L j))
   have HCL:=hzz (fun w' (hw:Below w.heap.size w w')=>D2w w' (some ⟨b,off,none⟩) n cap L j (HS.out.below hw) hn hlt (HL.out j hlt))
   have HEQ:=hzz (fun w' o1 o2=>D4x w' (kAt L j) (A6x (kAt L j)) o1 o2);rw[C8y]at HEQ;have HPB:=hzz (B7y (L:=L) j (by rw[HLn.out];exact hlt))
   have HPO:Hid (A1f L j=(A0x (kAt L j)&&A1g L j)):=hzz rfl;generalize A0x (kAt L j)=r1 at*;generalize A1g L j=r2 at*;generalize hvb:kV (A6x (kAt L j))=vb at*
   unfold kV at HCB HEQ;clear hvb;generalize(kAt L j).tag=ct at*;generalize(kAt L j).a=ca at*;generalize(kAt L j).b=cb at*;generalize(kAt L j).n=cn at*;generalize(kAt L j).s=cs at*
   have j1:(j:Int)<n:=by omega
   obtain⟨W0,rfl⟩:=exz (wr)
   go_upto_region 6 with fail
   have l0:=fun(x:Value) (k:Nat) (h:(#[Value.int .i64 ct,.int .i64 ca,.int .i64 cb,.int .i64 cn,.string ⟨cs.toArray⟩])[k]? =some x)=>(cell_of_row (W0.alloc (.cells #[Value.int .i64 ct,.int .i64 ca,.int .i64 cb,.int .i64 cn,.string ⟨cs.toArray⟩] 61)) W0.heap.size k _ _ _ (heap_alloc_last W0 _)).trans h
   have c0:=l0 _ 0 rfl;have c1:=l0 _ 1 rfl;have c2:=l0 _ 2 rfl;have c3:=l0 _ 3 rfl;have c4:=l0 _ 4 rfl
   have HB1:=hzz (HB.out.alloc HB.out.size (.cells #[Value.int .i64 ct,.int .i64 ca,.int .i64 cb,.int .i64 cn,.string ⟨cs.toArray⟩] 61));clear l0 q0 q1 q2 q3 q4;generalize W0.alloc _=W at*
   have d0:=fun w' (h:Below W.heap.size W w')=>A0e h c0
   have d1:=fun w' (h:Below W.heap.size W w')=>A0e h c1
   have d2:=fun w' (h:Below W.heap.size W w')=>A0e h c2
   have d3:=fun w' (h:Below W.heap.size W w')=>A0e h c3
   have d4:=fun w' (h:Below W.heap.size W w')=>A0e h c4
   clear c0 c1 c2 c3 c4
   refine A0g (Below W.heap.size W) (.stir [(0,true),(1,true),(2,false),(3,true),(4,true),(5,true),(6,true),(7,false),(8,true),(9,true)]) (by kernel_rfl) (by kernel_rfl) (fun c a d v w h=>by cases d<;>exact h) ?_
   refine A0k (Below W.heap.size W) (fun _ h=>h) brz.drew ?_
   cases r1
   ·have HR:=hzz (HPB.out (by rw[HPO.out];rfl));clear HPB HPO
    iterate 2
     refine A0h fun K hK=>tkX ?_
     go_simp
     try go_bits
     refine hK _ ?_;clear hK K
    refine A0h (fun K hK=> ?_);simp only[A2h,List.getElem?_toArray,List.getElem?_cons_succ,List.getElem?_cons_zero];rw[if_pos (by rfl)];apply Exists.intro;refine⟨fun w' hS'=> ?_,?_⟩
    ·go_simp;exact A4r.call (Calls.mono ((HCB.out w')) fun e w'' h=>⟨h.1,(fun hb''=>hS'.trans (hb''.mono hS'.size)) h.2⟩)
    go_simp;refine hK _ ?_;clear hK K;refine A0h (fun K hK=> ?_);simp only[A2h,List.getElem?_toArray,List.getElem?_cons_succ,List.getElem?_cons_zero];rw[if_pos (by rfl)]
    refine⟨Value.bool (!false),fun w' hS'=> ?_,?_⟩
    ·exact B3p (by rfl) (HEQ.out w' _ _)
    go_simp;refine hK _ ?_;clear hK K
    iterate 1
     refine A0h fun K hK=>tkX ?_
     go_simp
     try go_bits
     refine hK _ ?_;clear hK K
    iterate 4
     refine A0h fun K hK=>skX ?_
     go_simp;refine hK _ ?_;clear hK K
    iterate 1
     refine A0h fun K hK=>tkX ?_
     go_simp
     try go_bits
     refine hK _ ?_;clear hK K
    refine A0n (fun y hy=> ?_);have HY:=btz HB1 hy;clear hy d0 d1 d2 d3 d4 HCB HCL HEQ
    go_wp2_with fail
    go_ret;exact⟨by rw[HR.out];rfl,HY.out⟩
   iterate 2
    refine A0h fun K hK=>tkX ?_
    go_simp
    try go_bits
    refine hK _ ?_;clear hK K
   refine A0h (fun K hK=> ?_);simp only[A2h,List.getElem?_toArray,List.getElem?_cons_succ,List.getElem?_cons_zero];rw[if_pos (by rfl)];apply Exists.intro;refine⟨fun w' hS'=> ?_,?_⟩
   ·go_simp;exact A4r.call (Calls.mono ((HCB.out w')) fun e w'' h=>⟨h.1,(fun hb''=>hS'.trans (hb''.mono hS'.size)) h.2⟩)
   go_simp;refine hK _ ?_;clear hK K;refine A0h (fun K hK=> ?_);simp only[A2h,List.getElem?_toArray,List.getElem?_cons_succ,List.getElem?_cons_zero];rw[if_pos (by rfl)]
   refine⟨Value.bool (!true),fun w' hS'=> ?_,?_⟩
   ·exact B3p (by rfl) (HEQ.out w' _ _)
   go_simp;refine hK _ ?_;clear hK K
   iterate 3
    refine A0h fun K hK=>tkX ?_
    go_simp
    try go_bits
    refine hK _ ?_;clear hK K
   refine A0h (fun K hK=> ?_);simp only[A2h,List.getElem?_toArray,List.getElem?_cons_succ,List.getElem?_cons_zero];rw[if_pos (by rfl)];apply Exists.intro;refine⟨fun w' hS'=> ?_,?_⟩
   ·go_simp;exact A4r.call (Calls.mono ((HCL.out w' (HB1.out.trans (hS'.mono HB1.out.size)))) fun e w'' h=>⟨h.1,(fun hb''=>hS'.trans (hb''.mono hS'.size)) h.2⟩)
   go_simp;refine hK _ ?_;clear hK K
   cases r2
   ·have HR:=hzz (HPB.out (by rw[HPO.out];rfl));clear HPB HPO
    iterate 2
     refine A0h fun K hK=>tkX ?_
     go_simp
     try go_bits
     refine hK _ ?_;clear hK K
    refine A0n (fun y hy=> ?_);have HY:=btz HB1 hy;clear hy d0 d1 d2 d3 d4 HCB HCL HEQ
    go_wp2_with fail
    go_ret;exact⟨by rw[HR.out];rfl,HY.out⟩
   have HQ:=hzz (show ∀k,k<j+1->A1f L k=true from fun k hk=>by
    rcases Nat.lt_or_ge k j with h|h
    ·exact HP.out k h
    obtain rfl:k=j:=by omega
    rw[HPO.out];rfl)
   clear HPB HPO
   iterate 2
    refine A0h fun K hK=>tkX ?_
    go_simp
    try go_bits
    refine hK _ ?_;clear hK K
   refine A0n (fun y hy=> ?_);have HY:=btz HB1 hy;clear hy d0 d1 d2 d3 d4 HCB HCL HEQ
   go_wp2_with fail
   go_roundg (n-(j+1))
   case measure=>omega
   exact⟨j+1,by omega,rfl,by go_num,HQ,HY⟩
  obtain rfl:j=n:=by omega
  have HR:=hzz (B5k (L:=L) (by rw[HLn.out];omega) (by rw[HLn.out];omega) HT.out (by rw[HLn.out];exact HP.out))
  go_wp2_with fail
  go_ret;exact⟨by rw[HR.out];rfl,HB.out⟩
 have HR:=hzz (B7f (L:=L) ht);generalize(kAt L 0).tag=t at*;have e3:(t !=0)=true:=by simp[ht]
 clear hk ht hs hl;go_enter Tryz.func43,Tryz.ntmps43
 go_wp2_with fail
 go_ret;exact⟨by rw[HR.out];rfl,brz⟩
end
section
open Go.RowKit
theorem A8c(L:List KV)(k:Nat)(h:k<L.length):kAt L (k:Int)=L[k]:=by
 unfold kAt;simp[List.getD,h]
end
section
open Go.ChangeShapes Go.WideShapes Go.ChangeAt Go.RowKit
theorem A0m.no{r:Bool}{w w':World}(h:r=false)(hb:Below w.heap.size w w'):A0m r w (.returned (.bool false)) w':=⟨by rw[h],hb⟩
theorem A0m.yes{r:Bool}{w w':World}(h:r=true)(hb:Below w.heap.size w w'):A0m r w (.returned (.bool true)) w':=⟨by rw[h],hb⟩
theorem A0m.is{r x:Bool}{w w':World}(h:r=x)(hb:Below w.heap.size w w'):A0m r w (.returned (.bool x)) w':=⟨by rw[h],hb⟩
theorem C8p(w:World)(a:Option Addr)(n cap:Nat)(L:List KV)(i:Nat)(hs:Ks w a n L)(hn:n<=65536)(hi:i<n)(ht:(kAt L i).tag=0):Calls Tryz.prog 106 #[.slice a n cap,.int .i64 i] w (A0m (A1f L i) w):=by
 obtain⟨b,off,rfl,hbl,hk⟩:=hs.at i hi;obtain⟨q0,q1,q2,q3,q4⟩:=hk;rw[ht]at q0;obtain⟨r,hrr⟩:=exz (A1f L i);rw[<-hrr]
 have HRR:=hzz (show r=(A0x ⟨0,(kAt L i).a,(kAt L i).b,(kAt L i).n,(kAt L i).s⟩&&(i==0||decide ((kAt L ((i:Int) -1)).tag=5)))from by
  rw[hrr];unfold A1f
  rw[show A1g L i=(i==0||decide ((kAt L ((i:Int) -1)).tag=5))from by unfold A1g;simp[ht],show A0x (kAt L i)=A0x ⟨0,(kAt L i).a,(kAt L i).b,(kAt L i).n,(kAt L i).s⟩from by unfold A0x;rw[ht]])
 clear hrr
 have HP:=hzz (show i≠0->w.cell? ⟨b,off+(i-1)*5,none⟩=some (.int .i64 (kAt L ((i:Int) -1)).tag)/\((i-1:Nat):Int)=(i:Int) -1 from fun h0=>by
  obtain⟨b',off',he,_,hk⟩:=hs.at (i-1) (by omega)
  cases he
  have p0:=hk.c0;have hij:((i-1:Nat):Int)=(i:Int) -1:=by omega
  rw[hij]at p0;exact⟨p0,hij⟩)
 generalize(kAt L ((i:Int) -1)).tag=t1 at*;clear hs ht;generalize(kAt L i).a=ca at*;generalize(kAt L i).b=cb at*;generalize(kAt L i).n=cn at*;generalize(kAt L i).s=cs at*
 by_cases hs:cs=[]
 case' neg=>
  have es:cs.isEmpty=false:=by simp[hs]
  have HQ:=hzz (show r=false by rw[HRR.out];unfold A0x;simp[hs]);clear hs;go_enter Tryz.func106,Tryz.ntmps106
  go_wp2_with fail
  go_ret;exact A0m.no HQ.out (A0f _ _)
 have es:cs.isEmpty=true:=by simp[hs]
 by_cases hn:cn=0
 case' neg=>
  have en:(cn !=0)=true:=by simp[hn]
  have HQ:=hzz (show r=false by rw[HRR.out];unfold A0x;simp[hn]);clear hn;go_enter Tryz.func106,Tryz.ntmps106
  go_wp2_with fail
  go_ret;exact A0m.no HQ.out (A0f _ _)
 have en:(cn !=0)=false:=by simp[hn]
 by_cases hb:cb=0
 case' neg=>
  have eb:(cb !=0)=true:=by simp[hb]
  have HQ:=hzz (show r=false by rw[HRR.out];unfold A0x;simp[hb]);clear hb;go_enter Tryz.func106,Tryz.ntmps106
  go_wp2_with fail
  go_ret;exact A0m.no HQ.out (A0f _ _)
 have eb:(cb !=0)=false:=by simp[hb]
 by_cases ha:ca=0
 case' neg=>
  have ea:(ca !=0)=true:=by simp[ha]
  have HQ:=hzz (show r=false by rw[HRR.out];unfold A0x;simp[ha]);clear ha;go_enter Tryz.func106,Tryz.ntmps106
  go_wp2_with fail
  go_ret;exact A0m.no HQ.out (A0f _ _)
 have ea:(ca !=0)=false:=by simp[ha]
 have HB:=hzz (show A0x ⟨0,ca,cb,cn,cs⟩=true by unfold A0x;simp[hs,hn,hb,ha]);rw[HB.out,Bool.true_and]at HRR;clear hs hn hb ha;by_cases h0:i=0
 ·have e0:((i:Int)==0)=true:=by simp[h0]
  have HQ:=hzz (show r=true by rw[HRR.out];simp[h0]);clear h0 HP;go_enter Tryz.func106,Tryz.ntmps106
  go_wp2_with fail
  go_ret;exact A0m.yes HQ.out (A0f _ _)
 obtain⟨p0,hij⟩:=HP.out h0;have e0:((i:Int)==0)=false:=by simp;omega
 have i1:(1:Int)<=i:=by omega
 have i2:((i:Int) -1).toNat=i-1:=by omega
 have i3:(i:Int) -1<n:=by omega
 have HQ:=hzz (show r=decide (t1=5) by rw[HRR.out];simp[h0]);clear HP h0 hij;by_cases h5:t1=5
 ·subst h5;go_enter Tryz.func106,Tryz.ntmps106
  go_wp2_with fail
  go_ret;exact A0m.yes (by rw[HQ.out];rfl) (A0f _ _)
 have e5:(t1==5)=false:=by simp[h5]
 have HQ2:=hzz (show r=false by rw[HQ.out,decide_eq_false h5]);clear h5;go_enter Tryz.func106,Tryz.ntmps106
 go_wp2_with fail
 go_ret;exact A0m.no HQ2.out (A0f _ _)
theorem C9r(w:World)(a:Option Addr)(n cap:Nat)(L:List KV)(i:Nat)(hs:Ks w a n L)(hn:n<=65536)(hi:i<n)(ht:(kAt L i).tag=1)(hl:(kAt L i).s.length<=65536):Calls Tryz.prog 106 #[.slice a n cap,.int .i64 i] w (A0m (A1f L i) w):=by
 obtain⟨b,off,rfl,hbl,hk⟩:=hs.at i hi;obtain⟨q0,q1,q2,q3,q4⟩:=hk;rw[ht]at q0;obtain⟨r,hrr⟩:=exz (A1f L i);rw[<-hrr]
 have HRR:=hzz (show r=(A0x ⟨1,(kAt L i).a,(kAt L i).b,(kAt L i).n,(kAt L i).s⟩&&((A3m (kAt L i).s).isSome&&decide ((kAt L i).s.length<=65535)))from by
  rw[hrr];unfold A1f
  rw[show A1g L i=((A3m (kAt L i).s).isSome&&decide ((kAt L i).s.length<=65535))from by unfold A1g;simp[ht],show A0x (kAt L i)=A0x ⟨1,(kAt L i).a,(kAt L i).b,(kAt L i).n,(kAt L i).s⟩from by unfold A0x;rw[ht]])
 clear hrr;obtain⟨c,w1,hr,hs1,hc1,hb1,hz1⟩:=B3e (w.alloc (.cells #[.int .i64 1,.int .i64 (kAt L i).a,.int .i64 (kAt L i).b,.int .i64 (kAt L i).n,.string ⟨(kAt L i).s.toArray⟩] 61)) (kAt L i).s
 have hz:(w.alloc (.cells #[.int .i64 1,.int .i64 (kAt L i).a,.int .i64 (kAt L i).b,.int .i64 (kAt L i).n,.string ⟨(kAt L i).s.toArray⟩] 61)).heap.size=w.heap.size+1:=by simp
 rw[hz]at hr hs1;clear hz;have CL:=B8g w1 _ (kAt L i).s.length c (kAt L i).s hs1 hl hc1;have HB1:=hzz (show Below w.heap.size w w1 from(A0f _ _).trans (hb1.mono (by simp)))
 have HK1:=hzz (A0e hb1 (cell_of_row (w.alloc (.cells #[.int .i64 1,.int .i64 (kAt L i).a,.int .i64 (kAt L i).b,.int .i64 (kAt L i).n,.string ⟨(kAt L i).s.toArray⟩] 61)) w.heap.size 4 _ _ _ (heap_alloc_last w _)))
 have HL:=hzz CL;clear CL hs1 hc1 hb1 hz1 hl;clear hs ht;generalize(kAt L i).a=ca at*;generalize(kAt L i).b=cb at*;generalize(kAt L i).n=cn at*;generalize(kAt L i).s=cs at*;by_cases hn:cn=0
 case' neg=>
  have en:(cn !=0)=true:=by simp[hn]
  have HQ:=hzz (show r=false by rw[HRR.out];unfold A0x;simp[hn]);clear hn;go_enter Tryz.func106,Tryz.ntmps106
  go_wp2_with fail
  go_ret;exact A0m.no HQ.out (A0f _ _)
 have en:(cn !=0)=false:=by simp[hn]
 by_cases hb:cb=0
 case' neg=>
  have eb:(cb !=0)=true:=by simp[hb]
  have HQ:=hzz (show r=false by rw[HRR.out];unfold A0x;simp[hb]);clear hb;go_enter Tryz.func106,Tryz.ntmps106
  go_wp2_with fail
  go_ret;exact A0m.no HQ.out (A0f _ _)
 have eb:(cb !=0)=false:=by simp[hb]
 by_cases ha:ca=0
 case' neg=>
  have ea:(ca !=0)=true:=by simp[ha]
  have HQ:=hzz (show r=false by rw[HRR.out];unfold A0x;simp[ha]);clear ha;go_enter Tryz.func106,Tryz.ntmps106
  go_wp2_with fail
  go_ret;exact A0m.no HQ.out (A0f _ _)
 have ea:(ca !=0)=false:=by simp[ha]
 have HB:=hzz (show A0x ⟨1,ca,cb,cn,cs⟩=true by unfold A0x;simp[hn,hb,ha]);rw[HB.out,Bool.true_and]at HRR;clear hn hb ha;go_enter Tryz.func106,Tryz.ntmps106
 go_wp2_with fail
 cases hd:A3m cs with
 |none=>
  rw[hd]at HRR HL;clear hd;refine HL.out.mono ?_;rintro e w2 ⟨rfl,hb2⟩;have HB2:=btz HB1 hb2;have c4:w2.cell? ⟨w.heap.size,4,none⟩=some (.string ⟨cs.toArray⟩):=A0e hb2 HK1.out;clear hb2 hr
  go_wp2_with fail
  go_ret;exact A0m.no (by rw[HRR.out];rfl) HB2.out
 |some us=>
 rw[hd]at HRR HL;clear hd;refine HL.out.mono ?_;rintro e w2 ⟨v2,m2,rfl,_,hb2⟩;have HB2:=btz HB1 hb2;have c4:w2.cell? ⟨w.heap.size,4,none⟩=some (.string ⟨cs.toArray⟩):=A0e hb2 HK1.out
 clear hb2 hr;by_cases h6:cs.length<=65535
 ·have h7:decide ((cs.length:Int)<=65535)=true:=by simp;omega
  have H6:=hzz (show r=true by rw[HRR.out,decide_eq_true h6];rfl)
  go_wp2_with fail
  go_ret;exact A0m.yes H6.out HB2.out
 have h7:decide ((cs.length:Int)<=65535)=false:=by simp;omega
 have H6:=hzz (show r=false by rw[HRR.out,decide_eq_false h6];rfl)
 go_wp2_with fail
 go_ret;exact A0m.no H6.out HB2.out
theorem C9h(w:World)(a:Option Addr)(n cap:Nat)(L:List KV)(i:Nat)(hs:Ks w a n L)(hn:n<=65536)(hi:i<n)(ht:(kAt L i).tag=3):Calls Tryz.prog 106 #[.slice a n cap,.int .i64 i] w (A0m (A1f L i) w):=by
 obtain⟨b,off,rfl,hbl,hk⟩:=hs.at i hi;obtain⟨q0,q1,q2,q3,q4⟩:=hk;rw[ht]at q0;obtain⟨r,hrr⟩:=exz (A1f L i);rw[<-hrr]
 have HRR:=hzz (show r=(A0x ⟨3,(kAt L i).a,(kAt L i).b,(kAt L i).n,(kAt L i).s⟩&&(true))from by
  rw[hrr];unfold A1f;rw[show A1g L i=(true)from by unfold A1g;simp[ht],show A0x (kAt L i)=A0x ⟨3,(kAt L i).a,(kAt L i).b,(kAt L i).n,(kAt L i).s⟩from by unfold A0x;rw[ht]])
 clear hrr;clear hs ht;generalize(kAt L i).a=ca at*;generalize(kAt L i).b=cb at*;generalize(kAt L i).n=cn at*;generalize(kAt L i).s=cs at*;by_cases hs:cs=[]
 case' neg=>
  have es:cs.isEmpty=false:=by simp[hs]
  have HQ:=hzz (show r=false by rw[HRR.out];unfold A0x;simp[hs]);clear hs;go_enter Tryz.func106,Tryz.ntmps106
  go_wp2_with fail
  go_ret;exact A0m.no HQ.out (A0f _ _)
 have es:cs.isEmpty=true:=by simp[hs]
 by_cases hb:cb=0
 case' neg=>
  have eb:(cb !=0)=true:=by simp[hb]
  have HQ:=hzz (show r=false by rw[HRR.out];unfold A0x;simp[hb]);clear hb;go_enter Tryz.func106,Tryz.ntmps106
  go_wp2_with fail
  go_ret;exact A0m.no HQ.out (A0f _ _)
 have eb:(cb !=0)=false:=by simp[hb]
 by_cases ha:ca=0
 case' neg=>
  have ea:(ca !=0)=true:=by simp[ha]
  have HQ:=hzz (show r=false by rw[HRR.out];unfold A0x;simp[ha]);clear ha;go_enter Tryz.func106,Tryz.ntmps106
  go_wp2_with fail
  go_ret;exact A0m.no HQ.out (A0f _ _)
 have ea:(ca !=0)=false:=by simp[ha]
 by_cases h3: -2147483648<=cn/\cn<=2147483647
 ·have w3:IntKind.i32.wrap cn=cn:=by rw[IntKind.wrap_i32];omega
  have w5:IntKind.i64.wrap cn=cn:=by rw[IntKind.wrap_i64];omega
  have e3:(cn==cn)=true:=by simp
  have HQ:=hzz (show r=true by rw[HRR.out];unfold A0x;simp[hs,hb,ha,h3]);clear h3 hs hb ha;go_enter Tryz.func106,Tryz.ntmps106
  go_wp2_with fail
  go_ret;exact A0m.yes HQ.out (A0f _ _)
 obtain⟨q,hq⟩:=exz (IntKind.i32.wrap cn);have hq2:q≠cn:=by rw[hq,IntKind.wrap_i32];omega
 have w3:IntKind.i32.wrap cn=q:=hq.symm;have w4:IntKind.i64.wrap q=q:=by rw[hq,IntKind.wrap_i32,IntKind.wrap_i64];omega
 have e3:(cn==q)=false:=by simp;omega
 have HQ:=hzz (show r=false by rw[HRR.out];unfold A0x;simp[hs,hb,ha];omega);clear h3 hs hb ha hq hq2;go_enter Tryz.func106,Tryz.ntmps106
 go_wp2_with fail
 go_ret;exact A0m.no HQ.out (A0f _ _)
theorem C7c(w:World)(a:Option Addr)(n cap:Nat)(L:List KV)(i:Nat)(hs:Ks w a n L)(hn:n<=65536)(hi:i<n)(ht:(kAt L i).tag=5):Calls Tryz.prog 106 #[.slice a n cap,.int .i64 i] w (A0m (A1f L i) w):=by
 obtain⟨b,off,rfl,hbl,hk⟩:=hs.at i hi;obtain⟨q0,q1,q2,q3,q4⟩:=hk;rw[ht]at q0;obtain⟨r,hrr⟩:=exz (A1f L i);rw[<-hrr]
 have HRR:=hzz (show r=(A0x ⟨5,(kAt L i).a,(kAt L i).b,(kAt L i).n,(kAt L i).s⟩&&(decide (i+1<L.length)&&decide ((kAt L ((i:Int)+1)).tag=0)))from by
  rw[hrr];unfold A1f
  rw[show A1g L i=(decide (i+1<L.length)&&decide ((kAt L ((i:Int)+1)).tag=0))from by unfold A1g;simp[ht],show A0x (kAt L i)=A0x ⟨5,(kAt L i).a,(kAt L i).b,(kAt L i).n,(kAt L i).s⟩from by unfold A0x;rw[ht]])
 clear hrr
 have HP:=hzz (show i+1<n->w.cell? ⟨b,off+(i+1)*5,none⟩=some (.int .i64 (kAt L ((i:Int)+1)).tag)from fun h1=>by
  obtain⟨b',off',he,_,hk⟩:=hs.at (i+1) h1
  cases he
  have p0:=hk.c0;rw[show((i+1:Nat):Int)=(i:Int)+1 by omega]at p0;exact p0)
 rw[hs.1]at HRR;generalize(kAt L ((i:Int)+1)).tag=t1 at*;clear hs ht;generalize(kAt L i).a=ca at*;generalize(kAt L i).b=cb at*;generalize(kAt L i).n=cn at*;generalize(kAt L i).s=cs at*
 by_cases hs:cs=[]
 case' neg=>
  have es:cs.isEmpty=false:=by simp[hs]
  have HQ:=hzz (show r=false by rw[HRR.out];unfold A0x;simp[hs]);clear hs;go_enter Tryz.func106,Tryz.ntmps106
  go_wp2_with fail
  go_ret;exact A0m.no HQ.out (A0f _ _)
 have es:cs.isEmpty=true:=by simp[hs]
 by_cases hb:cb=0
 case' neg=>
  have eb:(cb !=0)=true:=by simp[hb]
  have HQ:=hzz (show r=false by rw[HRR.out];unfold A0x;simp[hb]);clear hb;go_enter Tryz.func106,Tryz.ntmps106
  go_wp2_with fail
  go_ret;exact A0m.no HQ.out (A0f _ _)
 have eb:(cb !=0)=false:=by simp[hb]
 by_cases ha:ca=0
 case' neg=>
  have ea:(ca !=0)=true:=by simp[ha]
  have HQ:=hzz (show r=false by rw[HRR.out];unfold A0x;simp[ha]);clear ha;go_enter Tryz.func106,Tryz.ntmps106
  go_wp2_with fail
  go_ret;exact A0m.no HQ.out (A0f _ _)
 have ea:(ca !=0)=false:=by simp[ha]
 have HB:=hzz (show A0x ⟨5,ca,cb,cn,cs⟩=true by unfold A0x;simp[hs,hb,ha]);rw[HB.out,Bool.true_and]at HRR;clear hs hb ha;by_cases h1:i+1<n
 ·have p0:=HP.out h1;have e1:decide ((i:Int)+1<n)=true:=by simp;omega
  have i3:(i:Int)+1<n:=by omega
  have HQ:=hzz (show r=decide (t1=0) by rw[HRR.out];simp[h1]);clear HP h1;by_cases h5:t1=0
  ·subst h5;go_enter Tryz.func106,Tryz.ntmps106
   go_wp2_with fail
   go_ret;exact A0m.yes (by rw[HQ.out];rfl) (A0f _ _)
  have e5:(t1==0)=false:=by simp[h5]
  have HQ2:=hzz (show r=false by rw[HQ.out,decide_eq_false h5]);clear h5;go_enter Tryz.func106,Tryz.ntmps106
  go_wp2_with fail
  go_ret;exact A0m.no HQ2.out (A0f _ _)
 have e1:decide ((i:Int)+1<n)=false:=by simp;omega
 have HQ:=hzz (show r=false by rw[HRR.out];simp[h1]);clear HP h1;go_enter Tryz.func106,Tryz.ntmps106
 go_wp2_with fail
 go_ret;exact A0m.no HQ.out (A0f _ _)
theorem C9e(w:World)(a:Option Addr)(n cap:Nat)(L:List KV)(i:Nat)(hs:Ks w a n L)(hn:n<=65536)(hi:i<n)(ht:(kAt L i).tag=7):Calls Tryz.prog 106 #[.slice a n cap,.int .i64 i] w (A0m (A1f L i) w):=by
 obtain⟨b,off,rfl,hbl,hk⟩:=hs.at i hi;obtain⟨q0,q1,q2,q3,q4⟩:=hk;rw[ht]at q0;obtain⟨r,hrr⟩:=exz (A1f L i);rw[<-hrr]
 have HRR:=hzz (show r=(A0x ⟨7,(kAt L i).a,(kAt L i).b,(kAt L i).n,(kAt L i).s⟩&&(isT L (kAt L i).a 1))from by
  rw[hrr];unfold A1f
  rw[show A1g L i=(isT L (kAt L i).a 1)from by unfold A1g;simp[ht],show A0x (kAt L i)=A0x ⟨7,(kAt L i).a,(kAt L i).b,(kAt L i).n,(kAt L i).s⟩from by unfold A0x;rw[ht]])
 clear hrr
 have C1:=hzz (A4i (w.alloc (.cells #[.int .i64 7,.int .i64 (kAt L i).a,.int .i64 (kAt L i).b,.int .i64 (kAt L i).n,.string ⟨(kAt L i).s.toArray⟩] 61)) _ n cap L (kAt L i).a 1 (hs.below (A0f _ _)) hn)
 generalize isT L (kAt L i).a 1=r1 at*;clear hs ht;generalize(kAt L i).a=ca at*;generalize(kAt L i).b=cb at*;generalize(kAt L i).n=cn at*;generalize(kAt L i).s=cs at*;by_cases hs:cs=[]
 case' neg=>
  have es:cs.isEmpty=false:=by simp[hs]
  have HQ:=hzz (show r=false by rw[HRR.out];unfold A0x;simp[hs]);clear hs;go_enter Tryz.func106,Tryz.ntmps106
  go_wp2_with fail
  go_ret;exact A0m.no HQ.out (A0f _ _)
 have es:cs.isEmpty=true:=by simp[hs]
 by_cases hn:cn=0
 case' neg=>
  have en:(cn !=0)=true:=by simp[hn]
  have HQ:=hzz (show r=false by rw[HRR.out];unfold A0x;simp[hn]);clear hn;go_enter Tryz.func106,Tryz.ntmps106
  go_wp2_with fail
  go_ret;exact A0m.no HQ.out (A0f _ _)
 have en:(cn !=0)=false:=by simp[hn]
 by_cases hb:cb=0
 case' neg=>
  have eb:(cb !=0)=true:=by simp[hb]
  have HQ:=hzz (show r=false by rw[HRR.out];unfold A0x;simp[hb]);clear hb;go_enter Tryz.func106,Tryz.ntmps106
  go_wp2_with fail
  go_ret;exact A0m.no HQ.out (A0f _ _)
 have eb:(cb !=0)=false:=by simp[hb]
 have HB:=hzz (show A0x ⟨7,ca,cb,cn,cs⟩=true by unfold A0x;simp[hs,hn,hb]);rw[HB.out,Bool.true_and]at HRR;clear hs hn hb;go_enter Tryz.func106,Tryz.ntmps106
 go_wp2_with fail
 refine C1.out.mono ?_;rintro e w' ⟨rfl,rfl⟩
 go_wp2_with fail
 go_ret;exact A0m.is HRR.out (A0f _ _)
theorem C7p(w:World)(a:Option Addr)(n cap:Nat)(L:List KV)(i:Nat)(hs:Ks w a n L)(hn:n<=65536)(hi:i<n)(ht:(kAt L i).tag=8):Calls Tryz.prog 106 #[.slice a n cap,.int .i64 i] w (A0m (A1f L i) w):=by
 obtain⟨b,off,rfl,hbl,hk⟩:=hs.at i hi;obtain⟨q0,q1,q2,q3,q4⟩:=hk;rw[ht]at q0;obtain⟨r,hrr⟩:=exz (A1f L i);rw[<-hrr]
 have HRR:=hzz (show r=(A0x ⟨8,(kAt L i).a,(kAt L i).b,(kAt L i).n,(kAt L i).s⟩&&(isT L (kAt L i).a 1))from by
  rw[hrr];unfold A1f
  rw[show A1g L i=(isT L (kAt L i).a 1)from by unfold A1g;simp[ht],show A0x (kAt L i)=A0x ⟨8,(kAt L i).a,(kAt L i).b,(kAt L i).n,(kAt L i).s⟩from by unfold A0x;rw[ht]])
 clear hrr
 have C1:=hzz (A4i (w.alloc (.cells #[.int .i64 8,.int .i64 (kAt L i).a,.int .i64 (kAt L i).b,.int .i64 (kAt L i).n,.string ⟨(kAt L i).s.toArray⟩] 61)) _ n cap L (kAt L i).a 1 (hs.below (A0f _ _)) hn)
 generalize isT L (kAt L i).a 1=r1 at*;clear hs ht;generalize(kAt L i).a=ca at*;generalize(kAt L i).b=cb at*;generalize(kAt L i).n=cn at*;generalize(kAt L i).s=cs at*;by_cases hs:cs=[]
 case' neg=>
  have es:cs.isEmpty=false:=by simp[hs]
  have HQ:=hzz (show r=false by rw[HRR.out];unfold A0x;simp[hs]);clear hs;go_enter Tryz.func106,Tryz.ntmps106
  go_wp2_with fail
  go_ret;exact A0m.no HQ.out (A0f _ _)
 have es:cs.isEmpty=true:=by simp[hs]
 by_cases hn:cn=0
 case' neg=>
  have en:(cn !=0)=true:=by simp[hn]
  have HQ:=hzz (show r=false by rw[HRR.out];unfold A0x;simp[hn]);clear hn;go_enter Tryz.func106,Tryz.ntmps106
  go_wp2_with fail
  go_ret;exact A0m.no HQ.out (A0f _ _)
 have en:(cn !=0)=false:=by simp[hn]
 by_cases hb:cb=0
 case' neg=>
  have eb:(cb !=0)=true:=by simp[hb]
  have HQ:=hzz (show r=false by rw[HRR.out];unfold A0x;simp[hb]);clear hb;go_enter Tryz.func106,Tryz.ntmps106
  go_wp2_with fail
  go_ret;exact A0m.no HQ.out (A0f _ _)
 have eb:(cb !=0)=false:=by simp[hb]
 have HB:=hzz (show A0x ⟨8,ca,cb,cn,cs⟩=true by unfold A0x;simp[hs,hn,hb]);rw[HB.out,Bool.true_and]at HRR;clear hs hn hb;go_enter Tryz.func106,Tryz.ntmps106
 go_wp2_with fail
 refine C1.out.mono ?_;rintro e w' ⟨rfl,rfl⟩
 go_wp2_with fail
 go_ret;exact A0m.is HRR.out (A0f _ _)
theorem C4e(w:World)(a:Option Addr)(n cap:Nat)(L:List KV)(i:Nat)(hs:Ks w a n L)(hn:n<=65536)(hi:i<n)(ht:(kAt L i).tag=12):Calls Tryz.prog 106 #[.slice a n cap,.int .i64 i] w (A0m (A1f L i) w):=by
 obtain⟨b,off,rfl,hbl,hk⟩:=hs.at i hi;obtain⟨q0,q1,q2,q3,q4⟩:=hk;rw[ht]at q0;obtain⟨r,hrr⟩:=exz (A1f L i);rw[<-hrr]
 have HRR:=hzz (show r=(A0x ⟨12,(kAt L i).a,(kAt L i).b,(kAt L i).n,(kAt L i).s⟩&&(isT L (kAt L i).a 1&&isT L (kAt L i).b 1))from by
  rw[hrr];unfold A1f
  rw[show A1g L i=(isT L (kAt L i).a 1&&isT L (kAt L i).b 1)from by unfold A1g;simp[ht],show A0x (kAt L i)=A0x ⟨12,(kAt L i).a,(kAt L i).b,(kAt L i).n,(kAt L i).s⟩from by unfold A0x;rw[ht]])
 clear hrr
 have C1:=hzz (A4i (w.alloc (.cells #[.int .i64 12,.int .i64 (kAt L i).a,.int .i64 (kAt L i).b,.int .i64 (kAt L i).n,.string ⟨(kAt L i).s.toArray⟩] 61)) _ n cap L (kAt L i).a 1 (hs.below (A0f _ _)) hn)
 have C2:=hzz (A4i (w.alloc (.cells #[.int .i64 12,.int .i64 (kAt L i).a,.int .i64 (kAt L i).b,.int .i64 (kAt L i).n,.string ⟨(kAt L i).s.toArray⟩] 61)) _ n cap L (kAt L i).b 1 (hs.below (A0f _ _)) hn)
 generalize isT L (kAt L i).a 1=r1 at*;generalize isT L (kAt L i).b 1=r2 at*;clear hs ht;generalize(kAt L i).a=ca at*;generalize(kAt L i).b=cb at*;generalize(kAt L i).n=cn at*
 generalize(kAt L i).s=cs at*;by_cases hs:cs=[]
 case' neg=>
  have es:cs.isEmpty=false:=by simp[hs]
  have HQ:=hzz (show r=false by rw[HRR.out];unfold A0x;simp[hs]);clear hs;go_enter Tryz.func106,Tryz.ntmps106
  go_wp2_with fail
  go_ret;exact A0m.no HQ.out (A0f _ _)
 have es:cs.isEmpty=true:=by simp[hs]
 by_cases hn:cn=0
 case' neg=>
  have en:(cn !=0)=true:=by simp[hn]
  have HQ:=hzz (show r=false by rw[HRR.out];unfold A0x;simp[hn]);clear hn;go_enter Tryz.func106,Tryz.ntmps106
  go_wp2_with fail
  go_ret;exact A0m.no HQ.out (A0f _ _)
 have en:(cn !=0)=false:=by simp[hn]
 have HB:=hzz (show A0x ⟨12,ca,cb,cn,cs⟩=true by unfold A0x;simp[hs,hn]);rw[HB.out,Bool.true_and]at HRR;clear hs hn
 cases r1
 ·go_enter Tryz.func106,Tryz.ntmps106
  go_wp2_with fail
  refine C1.out.mono ?_;rintro e w' ⟨rfl,rfl⟩
  go_wp2_with fail
  go_ret;exact A0m.no (by rw[HRR.out];rfl) (A0f _ _)
 go_enter Tryz.func106,Tryz.ntmps106
 go_wp2_with fail
 refine C1.out.mono ?_;rintro e w' ⟨rfl,rfl⟩
 go_wp2_with fail
 refine C2.out.mono ?_;rintro e w' ⟨rfl,rfl⟩
 go_wp2_with fail
 go_ret;exact A0m.is (by rw[HRR.out];rfl) (A0f _ _)
theorem C9s(w:World)(a:Option Addr)(n cap:Nat)(L:List KV)(i:Nat)(hs:Ks w a n L)(hn:n<=65536)(hi:i<n)(ht:(kAt L i).tag=9):Calls Tryz.prog 106 #[.slice a n cap,.int .i64 i] w (A0m (A1f L i) w):=by
 obtain⟨b,off,rfl,hbl,hk⟩:=hs.at i hi;obtain⟨q0,q1,q2,q3,q4⟩:=hk;rw[ht]at q0;obtain⟨r,hrr⟩:=exz (A1f L i);rw[<-hrr]
 have HRR:=hzz (show r=(A0x ⟨9,(kAt L i).a,(kAt L i).b,(kAt L i).n,(kAt L i).s⟩&&(isT L (kAt L i).a 7&&isT L (kAt L i).b 12))from by
  rw[hrr];unfold A1f
  rw[show A1g L i=(isT L (kAt L i).a 7&&isT L (kAt L i).b 12)from by unfold A1g;simp[ht],show A0x (kAt L i)=A0x ⟨9,(kAt L i).a,(kAt L i).b,(kAt L i).n,(kAt L i).s⟩from by unfold A0x;rw[ht]])
 clear hrr
 have C1:=hzz (A4i (w.alloc (.cells #[.int .i64 9,.int .i64 (kAt L i).a,.int .i64 (kAt L i).b,.int .i64 (kAt L i).n,.string ⟨(kAt L i).s.toArray⟩] 61)) _ n cap L (kAt L i).a 7 (hs.below (A0f _ _)) hn)
 have C2:=hzz (A4i (w.alloc (.cells #[.int .i64 9,.int .i64 (kAt L i).a,.int .i64 (kAt L i).b,.int .i64 (kAt L i).n,.string ⟨(kAt L i).s.toArray⟩] 61)) _ n cap L (kAt L i).b 12 (hs.below (A0f _ _)) hn)
 generalize isT L (kAt L i).a 7=r1 at*;generalize isT L (kAt L i).b 12=r2 at*;clear hs ht;generalize(kAt L i).a=ca at*;generalize(kAt L i).b=cb at*;generalize(kAt L i).n=cn at*
 generalize(kAt L i).s=cs at*;by_cases hs:cs=[]
 case' neg=>
  have es:cs.isEmpty=false:=by simp[hs]
  have HQ:=hzz (show r=false by rw[HRR.out];unfold A0x;simp[hs]);clear hs;go_enter Tryz.func106,Tryz.ntmps106
  go_wp2_with fail
  go_ret;exact A0m.no HQ.out (A0f _ _)
 have es:cs.isEmpty=true:=by simp[hs]
 by_cases hn:cn=0
 case' neg=>
  have en:(cn !=0)=true:=by simp[hn]
  have HQ:=hzz (show r=false by rw[HRR.out];unfold A0x;simp[hn]);clear hn;go_enter Tryz.func106,Tryz.ntmps106
  go_wp2_with fail
  go_ret;exact A0m.no HQ.out (A0f _ _)
 have en:(cn !=0)=false:=by simp[hn]
 have HB:=hzz (show A0x ⟨9,ca,cb,cn,cs⟩=true by unfold A0x;simp[hs,hn]);rw[HB.out,Bool.true_and]at HRR;clear hs hn
 cases r1
 ·go_enter Tryz.func106,Tryz.ntmps106
  go_wp2_with fail
  refine C1.out.mono ?_;rintro e w' ⟨rfl,rfl⟩
  go_wp2_with fail
  go_ret;exact A0m.no (by rw[HRR.out];rfl) (A0f _ _)
 go_enter Tryz.func106,Tryz.ntmps106
 go_wp2_with fail
 refine C1.out.mono ?_;rintro e w' ⟨rfl,rfl⟩
 go_wp2_with fail
 refine C2.out.mono ?_;rintro e w' ⟨rfl,rfl⟩
 go_wp2_with fail
 go_ret;exact A0m.is (by rw[HRR.out];rfl) (A0f _ _)
theorem C3k(w:World)(a:Option Addr)(n cap:Nat)(L:List KV)(i:Nat)(hs:Ks w a n L)(hn:n<=65536)(hi:i<n)(ht:(kAt L i).tag=10):Calls Tryz.prog 106 #[.slice a n cap,.int .i64 i] w (A0m (A1f L i) w):=by
 obtain⟨b,off,rfl,hbl,hk⟩:=hs.at i hi;obtain⟨q0,q1,q2,q3,q4⟩:=hk;rw[ht]at q0;obtain⟨r,hrr⟩:=exz (A1f L i);rw[<-hrr]
 have HRR:=hzz (show r=(A0x ⟨10,(kAt L i).a,(kAt L i).b,(kAt L i).n,(kAt L i).s⟩&&(isT L (kAt L i).a 7&&isT L (kAt L i).b 12))from by
  rw[hrr];unfold A1f
  rw[show A1g L i=(isT L (kAt L i).a 7&&isT L (kAt L i).b 12)from by unfold A1g;simp[ht],show A0x (kAt L i)=A0x ⟨10,(kAt L i).a,(kAt L i).b,(kAt L i).n,(kAt L i).s⟩from by unfold A0x;rw[ht]])
 clear hrr
 have C1:=hzz (A4i (w.alloc (.cells #[.int .i64 10,.int .i64 (kAt L i).a,.int .i64 (kAt L i).b,.int .i64 (kAt L i).n,.string ⟨(kAt L i).s.toArray⟩] 61)) _ n cap L (kAt L i).a 7 (hs.below (A0f _ _)) hn)
 have C2:=hzz (A4i (w.alloc (.cells #[.int .i64 10,.int .i64 (kAt L i).a,.int .i64 (kAt L i).b,.int .i64 (kAt L i).n,.string ⟨(kAt L i).s.toArray⟩] 61)) _ n cap L (kAt L i).b 12 (hs.below (A0f _ _)) hn)
 generalize isT L (kAt L i).a 7=r1 at*;generalize isT L (kAt L i).b 12=r2 at*;clear hs ht;generalize(kAt L i).a=ca at*;generalize(kAt L i).b=cb at*;generalize(kAt L i).n=cn at*
 generalize(kAt L i).s=cs at*;by_cases hs:cs=[]
 case' neg=>
  have es:cs.isEmpty=false:=by simp[hs]
  have HQ:=hzz (show r=false by rw[HRR.out];unfold A0x;simp[hs]);clear hs;go_enter Tryz.func106,Tryz.ntmps106
  go_wp2_with fail
  go_ret;exact A0m.no HQ.out (A0f _ _)
 have es:cs.isEmpty=true:=by simp[hs]
 by_cases hn:cn=0
 case' neg=>
  have en:(cn !=0)=true:=by simp[hn]
  have HQ:=hzz (show r=false by rw[HRR.out];unfold A0x;simp[hn]);clear hn;go_enter Tryz.func106,Tryz.ntmps106
  go_wp2_with fail
  go_ret;exact A0m.no HQ.out (A0f _ _)
 have en:(cn !=0)=false:=by simp[hn]
 have HB:=hzz (show A0x ⟨10,ca,cb,cn,cs⟩=true by unfold A0x;simp[hs,hn]);rw[HB.out,Bool.true_and]at HRR;clear hs hn
 cases r1
 ·go_enter Tryz.func106,Tryz.ntmps106
  go_wp2_with fail
  refine C1.out.mono ?_;rintro e w' ⟨rfl,rfl⟩
  go_wp2_with fail
  go_ret;exact A0m.no (by rw[HRR.out];rfl) (A0f _ _)
 go_enter Tryz.func106,Tryz.ntmps106
 go_wp2_with fail
 refine C1.out.mono ?_;rintro e w' ⟨rfl,rfl⟩
 go_wp2_with fail
 refine C2.out.mono ?_;rintro e w' ⟨rfl,rfl⟩
 go_wp2_with fail
 go_ret;exact A0m.is (by rw[HRR.out];rfl) (A0f _ _)
theorem B8h(w:World)(a:Option Addr)(n cap:Nat)(L:List KV)(i:Nat)(hs:Ks w a n L)(hn:n<=65536)(hi:i<n)(h0:(kAt L i).tag≠0)(h1:(kAt L i).tag≠1)(h3:(kAt L i).tag≠3)(h5:(kAt L i).tag≠5)(h12:(kAt L i).tag≠12)(h7:(kAt L i).tag≠7)(h8:(kAt L i).tag≠8)(h9:(kAt L i).tag≠9)(h10:(kAt L i).tag≠10):Calls Tryz.prog 106 #[.slice a n cap,.int .i64 i] w (A0m (A1f L i) w):=by
 obtain⟨b,off,rfl,hbl,hk⟩:=hs.at i hi;obtain⟨q0,q1,q2,q3,q4⟩:=hk;rw[show A1f L i=false from by unfold A1f A1g;simp[h0,h1,h3,h5,h12,h7,h8,h9,h10]];clear hs
 generalize(kAt L i).tag=t at*;generalize(kAt L i).a=ca at*;generalize(kAt L i).b=cb at*;generalize(kAt L i).n=cn at*;generalize(kAt L i).s=cs at*;have e0:(t==0)=false:=by simp[h0]
 have e1:(t==1)=false:=by simp[h1]
 have e3:(t==3)=false:=by simp[h3]
 have e5:(t==5)=false:=by simp[h5]
 have e12:(t==12)=false:=by simp[h12]
 have e7:(t==7)=false:=by simp[h7]
 have e8:(t==8)=false:=by simp[h8]
 have e9:(t==9)=false:=by simp[h9]
 have e10:(t==10)=false:=by simp[h10]
 have z1:(t !=1)=true:=by simp[h1]
 have z3:(t !=3)=true:=by simp[h3]
 have z5:(t !=5)=true:=by simp[h5]
 clear h0 h1 h3 h5 h12 h7 h8 h9 h10;obtain⟨s1,e20⟩:∃x,cs.isEmpty=x:=⟨_,rfl⟩;obtain⟨s2,e21⟩:∃x,(cn !=0)=x:=⟨_,rfl⟩;obtain⟨s3,e22⟩:∃x,(cb !=0)=x:=⟨_,rfl⟩
 obtain⟨s4,e23⟩:∃x,(ca !=0)=x:=⟨_,rfl⟩
 cases s1
 ·go_enter Tryz.func106,Tryz.ntmps106
  go_wp2_with fail
  go_ret;exact⟨rfl,A0f _ _⟩
 cases s2
 case' true=>
  go_enter Tryz.func106,Tryz.ntmps106
  go_wp2_with fail
  go_ret;exact⟨rfl,A0f _ _⟩
 cases s3
 case' true=>
  go_enter Tryz.func106,Tryz.ntmps106
  go_wp2_with fail
  go_ret;exact⟨rfl,A0f _ _⟩
 cases s4
 all_goals
  go_enter Tryz.func106,Tryz.ntmps106
  go_wp2_with fail
  go_ret;exact⟨rfl,A0f _ _⟩
theorem C1r(w:World)(a:Option Addr)(n cap:Nat)(L:List KV)(i:Nat)(hs:Ks w a n L)(hn:n<=65536)(hi:i<n)(hl:(kAt L i).s.length<=65536):Calls Tryz.prog 106 #[.slice a n cap,.int .i64 i] w (A0m (A1f L i) w):=by
 by_cases h0:(kAt L i).tag=0
 ·exact C8p w a n cap L i hs hn hi h0
 by_cases h1:(kAt L i).tag=1
 ·exact C9r w a n cap L i hs hn hi h1 hl
 by_cases h3:(kAt L i).tag=3
 ·exact C9h w a n cap L i hs hn hi h3
 by_cases h5:(kAt L i).tag=5
 ·exact C7c w a n cap L i hs hn hi h5
 by_cases h12:(kAt L i).tag=12
 ·exact C4e w a n cap L i hs hn hi h12
 by_cases h7:(kAt L i).tag=7
 ·exact C9e w a n cap L i hs hn hi h7
 by_cases h8:(kAt L i).tag=8
 ·exact C7p w a n cap L i hs hn hi h8
 by_cases h9:(kAt L i).tag=9
 ·exact C9s w a n cap L i hs hn hi h9
 by_cases h10:(kAt L i).tag=10
 ·exact C3k w a n cap L i hs hn hi h10
 exact B8h w a n cap L i hs hn hi h0 h1 h3 h5 h12 h7 h8 h9 h10
theorem C1m(w:World)(a:Option Addr)(n cap:Nat)(L:List KV)(hs:Ks w a n L)(hn:n<=65536)(hl:∀i:Nat,i<n->(kAt L i).s.length<=65536):Calls Tryz.prog 58 #[.slice a n cap] w (A0m (A5e L) w):=by
 have hL:=hs.1;by_cases h0:n=0
 ·subst h0;have HR:=hzz (B0p (L:=L) (.inl hL));clear hs hl;go_enter Tryz.func58,Tryz.ntmps58
  go_wp2_with fail
  go_ret;exact A0m.no HR.out brz
 by_cases hm:1024<n
 ·have HR:=hzz (B0p (L:=L) (.inr (by omega)));have e0:decide ((n:Int)<1)=false:=by simp;omega
  have e1:decide ((1024:Int)<n)=true:=by simp;omega
  clear hs hl h0 hL;go_enter Tryz.func58,Tryz.ntmps58
  go_wp2_with fail
  go_ret;exact A0m.no HR.out brz
 obtain⟨b,off,rfl,hbl,hk⟩:=hs.at 0 (by omega);have p0:=hk.c0;simp only[Nat.zero_mul,Nat.add_zero]at p0;have e0:decide ((n:Int)<1)=false:=by simp;omega
 have e1:decide ((1024:Int)<n)=false:=by simp;omega
 have z0:0<n:=by omega
 by_cases ht:(kAt L 0).tag=0
 ·have p0':w.cell? ⟨b,off,none⟩=some (.int .i64 0):=by rw[p0];rw[<-ht];rfl
  have HS:=hzz hs;have HT:=hzz ht;have HLn:=hzz hL;have HL:=hzz hl;clear hk p0 hs ht hl hL;go_enter Tryz.func58,Tryz.ntmps58
  go_wp2_with fail
  clear p0'
  go_loopg [21] n (fun gn i wr=>∃j:Nat,j<=n/\gn=n-j/\i= .int .i64 j/\Hid (∀k,k<j->A1f L k=true)/\Hid (Below w.heap.size w wr))
  case atStart=>exact⟨0,by omega,by omega,by go_num,hzz (fun k h=>by omega),hzz brz⟩
  obtain⟨j,hj,rfl,rfl,HP,HB⟩:=hrel;by_cases hlt:j<n
  ·have HCL:=hzz (C1r _ (some ⟨b,off,none⟩) n cap L j (HS.out.below HB.out) hn hlt (HL.out j hlt));have HPB:=hzz (B7y (L:=L) j (by rw[HLn.out];exact hlt))
   have HNX:=hzz (show A1f L j=true->∀k,k<j+1->A1f L k=true from fun h k hk=>by
    rcases Nat.lt_or_ge k j with h1|h1
    ·exact HP.out k h1
    obtain rfl:k=j:=by omega
    exact h)
   have j1:(j:Int)<n:=by omega
   generalize A1f L j=ok at*
   go_wp2_with fail
   refine HCL.out.mono ?_;rintro e w3 ⟨rfl,hb3⟩;have HB3:=btz HB hb3;clear hb3
   cases ok
   ·have HR:=hzz (HPB.out rfl)
    go_wp2_with fail
    go_ret;exact A0m.no HR.out HB3.out
   have HN:=hzz (HNX.out rfl)
   go_wp2_with fail
   go_roundg (n-(j+1))
   case measure=>omega
   exact⟨j+1,by omega,rfl,by go_num,HN,HB3⟩
  obtain rfl:j=n:=by omega
  have HR:=hzz (B5k (L:=L) (by rw[HLn.out];omega) (by rw[HLn.out];omega) HT.out (by rw[HLn.out];exact HP.out))
  go_wp2_with fail
  go_ret;exact A0m.yes HR.out HB.out
 have HR:=hzz (B7f (L:=L) ht);have p1:(kAt L ((0:Nat):Int)).tag=(kAt L 0).tag:=rfl;rw[p1]at p0;generalize(kAt L 0).tag=t at*;have et:(t !=0)=true:=by simp[ht]
 clear hk hs hl ht p1;go_enter Tryz.func58,Tryz.ntmps58
 go_wp2_with fail
 go_ret;exact A0m.no HR.out brz
theorem D3m(w:World)(a b:Option Addr)(n ca cb:Nat)(L:List KV)(hs:Ks w a n L)(ht:Ks w b n L)(hn:n<=65536):Calls Tryz.prog 37 #[.slice a n ca,.slice b n cb] w (A0m true w):=by
 have HS:=hzz hs;have HT:=hzz ht;have hgd:=B5f;clear hs ht;go_enter Tryz.func37,Tryz.ntmps37
 go_wp2_with fail
 go_loopg [13] n (fun gn i wr=>∃j:Nat,j<=n/\gn=n-j/\i= .int .i64 j/\Hid (Below w.heap.size w wr))
 case atStart=>exact⟨0,by omega,by omega,by go_num,hzz brz⟩
 obtain⟨j,hj,rfl,rfl,HB⟩:=hrel;by_cases hlt:j<n
 ·obtain⟨b1,o1,rfl,_,p⟩:=(HS.out.below HB.out).at j hlt;obtain⟨b2,o2,rfl,_,q⟩:=(HT.out.below HB.out).at j hlt;obtain⟨p0,p1,p2,p3,p4⟩:=p;obtain⟨q0,q1,q2,q3,q4⟩:=q
  have hq:=fun w'=>B7z w' 9998 (kAt L j) (kAt L j)
  rw[show B5a (kAt L j) (kAt L j)=true by unfold B5a;simp]at hq;unfold kV at hq;generalize(kAt L j).tag=ct at*;generalize(kAt L j).a=ca at*;generalize(kAt L j).b=cb at*
  generalize(kAt L j).n=cn at*;generalize(kAt L j).s=cs at*;have j1:(j:Int)<n:=by omega
  have j0:(0:Int)<=j:=by omega
  go_wp2_with fail
  go_quiet (fail)
  have HB2:=hzz (D7x HB.out nq)
  go_wp2_with fail
  go_roundg (n-(j+1))
  case measure=>omega
  exact⟨j+1,by omega,rfl,by go_num,HB2⟩
 obtain rfl:j=n:=by omega
 go_wp2_with fail
 go_ret;exact⟨rfl,HB.out⟩
end
end Go.Proofs.YtclpkipaehpkdaaGreatDoor
