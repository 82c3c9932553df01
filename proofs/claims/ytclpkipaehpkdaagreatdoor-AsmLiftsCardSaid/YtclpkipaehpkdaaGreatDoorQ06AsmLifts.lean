/- asm: own texts, merged (wip/merge3.py). No condition. -/
import Derived.Test.YtclpkipaehpkdaaGreatDoorQ05AsmLifts
import Derived.Test.YtclpkipaehpkdaaGreatDoorQ00AsmLifts
import Derived.Deep.LoopGhost
import Derived.Deep.DeepCutAuto
import Derived.Test.YtclpkipaehpkdaaGreatDoorQ01AsmLifts
import Derived.Test.YtclpkipaehpkdaaGreatDoorQ04AsmLifts
import Derived.Laws.EntriesVeiled
set_option linter.unusedVariables false
set_option linter.unusedSimpArgs false
set_option maxRecDepth 100000
set_option maxHeartbeats 64000000
namespace Go.Proofs.YtclpkipaehpkdaaGreatDoor
section
open Go.ChangeShapes Go.WideShapes Go.ChangeAt Go.RowKit
theorem B9g:Tryz.prog.underlying 61=some (.struct (Tryz.prog.fieldsOf 61)):=by kernel_rfl
theorem C6n:Tryz.prog.stoodInHeld 61=false:=by kernel_rfl
theorem C3r:Tryz.prog.eqGuardType Tryz.prog.depth 61=false:=by kernel_rfl
theorem C5z:(Tryz.prog.fieldsOf 61).toList.map (fun f=>(f.name,f.type,f.offset))=[("Tag",3,0),("A",3,1),("B",3,2),("N",2,3),("S",9,4)]:=by kernel_rfl
def B7b(c d:KV):Bool:=decide (c.tag=d.tag∧c.a=d.a∧c.b=d.b∧c.n=d.n∧c.s=d.s)
theorem A6c(l:List UInt8):(⟨l.toArray⟩:ByteArray).toList=l:=by rw[ByteArray.toList_eq]
theorem C7u(w:World)(d:Nat)(x y:KV):(Op.equalIn (d+1+1) 61 (kV x) (kV y)).run Tryz.prog w= .ok (B7b x y) w:=by
 unfold kV;rw[run_equalIn_struct w (d+1) _ _ _ B9g C6n];have hl:=C5z
 match hf:(Tryz.prog.fieldsOf 61).toList,hl with
 |[f0,f1,f2,f3,f4],hl=>
  simp only[List.map_cons,List.map_nil,List.cons.injEq,Prod.mk.injEq,and_true]at hl;obtain⟨⟨n0,t0,o0⟩,⟨n1,t1,o1⟩,⟨n2,t2,o2⟩,⟨n3,t3,o3⟩,⟨n4,t4,o4⟩⟩:=hl
  simp only[Op.eqFields,n0,n1,n2,n3,n4,t0,t1,t2,t3,t4,o0,o1,o2,o3,o4]
  have b:∀(e:Value) (i:Nat) (t:TypeId) (d':TypeDesc) (cs:Array Value) (w:World),Tryz.prog.underlying t=some d'→(match d' with| .struct _| .array _ _=>false|_=>true)=true→cs[i]? =some e→(part t cs i).run Tryz.prog w= .ok e w:=by
   intro e i t d' cs w h1 h2 h3
   cases d'<;>simp[part,isAgg,run_underlying h1,h3]at h2⊢
  have i0:∀(i:Nat) (cs:Array Value) (w:World) (h:i<cs.size),(part 3 cs i).run Tryz.prog w= .ok cs[i] w:=fun i cs w h=>b _ i _ _ cs w Tryz.underlying3 rfl (Array.getElem?_eq_getElem h)
  have i3:∀(i:Nat) (cs:Array Value) (w:World) (h:i<cs.size),(part 2 cs i).run Tryz.prog w= .ok cs[i] w:=fun i cs w h=>b _ i _ _ cs w Tryz.underlying2 rfl (Array.getElem?_eq_getElem h)
  have i4:∀(i:Nat) (cs:Array Value) (w:World) (h:i<cs.size),(part 9 cs i).run Tryz.prog w= .ok cs[i] w:=fun i cs w h=>b _ i _ _ cs w Tryz.underlying9 rfl (Array.getElem?_eq_getElem h)
  by_cases g0:x.tag=y.tag
  ·by_cases g1:x.a=y.a
   ·by_cases g2:x.b=y.b
    ·by_cases g3:x.n=y.n
     ·simp[i0,i3,i4,run_equalIn_int _ _ _ _ _ _ _ Tryz.underlying3,run_equalIn_int _ _ _ _ _ _ _ Tryz.underlying2,run_equalIn_string _ _ _ _ _ Tryz.underlying9,g0,g1,g2,g3,B7b,A6c]
      by_cases g4:x.s=y.s<;>simp[g4]
     ·simp[i0,i3,i4,run_equalIn_int _ _ _ _ _ _ _ Tryz.underlying3,run_equalIn_int _ _ _ _ _ _ _ Tryz.underlying2,g0,g1,g2,g3,B7b]
    ·simp[i0,i3,i4,run_equalIn_int _ _ _ _ _ _ _ Tryz.underlying3,g0,g1,g2,B7b]
   ·simp[i0,run_equalIn_int _ _ _ _ _ _ _ Tryz.underlying3,g0,g1,B7b]
  ·simp[i0,run_equalIn_int _ _ _ _ _ _ _ Tryz.underlying3,g0,B7b]
 |[],hl|[_],hl|[_,_],hl|[_,_,_],hl|[_,_,_,_],hl|_::_::_::_::_::_::_,hl=>simp at hl
theorem D1t(w:World)(x y:KV)(o1 o2:Operand):((eqGuard .neq 61 o1 o2 (kV x) (kV y)).run Tryz.prog w).andThen (fun _ w'=>(binOp .neq 61 (kV x) (kV y)).run Tryz.prog w')= .ok (.bool (!B7b x y)) w:=by
 have h:=C7u w 9998 x y;unfold kV at h⊢;rw[run_eqGuard_agg w _ _ _ _ _ _ C3r,Result.andThen_ok,run_neq_struct,h,Result.andThen_ok]
theorem C5q(c:KV):B7b c (A6m c)=A0w c:=by
 obtain⟨t,a,b,n,s⟩:=c;unfold B7b A6m A0w wrap32;rw[Bool.eq_iff_iff]
 by_cases h1:t=1<;>by_cases h3:t=3<;>by_cases h5:t=5<;>by_cases h9:t=9<;>by_cases h10:t=10<;>by_cases h12:t=12<;>by_cases h7:t=7<;>by_cases h8:t=8<;>first|(exfalso;omega)|(simp[h1,h3,h5,h9,h10,h12,h7,h8];done)|(simp[h1,h3,h5,h9,h10,h12,h7,h8];omega)|(simp[h1,h3,h5,h9,h10,h12,h7,h8];grind)
theorem B3c{P:Program}{ρ:Operand→Value}{o:Oper}{op:BinOp}{t:TypeId}{x y:Operand}{ty:TypeId}(ho:o.op= .binOp op t x y ty){v:Value}{w:World}
  (h:((eqGuard op t x y (ρ x) (ρ y)).run P w).andThen (fun _ w'=>(binOp op t (ρ x) (ρ y)).run P w')= .ok v w):(execOp ρ o).run P w= .ok (.value v) w:=by
 unfold execOp;simp only[ho,Sem.run_bind,Sem.run_pure];rw[h];rfl
def C4p(L:List KV)(w:World)(e:Ending)(w':World):Prop:=e= .returned (.int .i64 (if A5a L then 0 else 8))∧Below w.heap.size w w'
theorem B0i{L:List KV}(h:L.length=0∨1024<L.length):A5a L=false:=by
 unfold A5a
 rcases h with h|h
 ·rw[decide_eq_false (show ¬1≤L.length by omega)];rfl
 ·rw[decide_eq_false (show ¬L.length≤1024 by omega)];simp
theorem B6e{L:List KV}(h:(kAt L 0).tag≠0):A5a L=false:=by
 unfold A5a;rw[decide_eq_false h];simp
theorem B6x{L:List KV}(j:Nat)(hj:j<L.length)(h:A1h L j=false):A5a L=false:=by
 unfold A5a
 have:(List.range L.length).all (A1h L)=false:=by
  rw[List.all_eq_false];exact⟨j,by simpa using hj,by simp[h]⟩
 rw[this];simp
theorem B4w{L:List KV}(h1:1≤L.length)(h2:L.length≤1024)(h3:(kAt L 0).tag=0)(h:∀k,k<L.length→A1h L k=true):A5a L=true:=by
 unfold A5a;rw[decide_eq_true h1,decide_eq_true h2,decide_eq_true h3];simp;exact h
theorem D0u(w:World)(a:Option Addr)(n cap:Nat)(L:List KV)(hs:Ks w a n L)(hn:n≤65536)(hl:∀i:Nat,i<n→(kAt L i).s.length≤65536):Calls Tryz.prog 43 #[.slice a n cap] w (C4p L w):=by
 have hL:=hs.1;by_cases h0:n=0
 ·subst h0;have HR:=Lib.hid (B0i (L:=L) (.inl hL));clear hs hl;go_enter Tryz.func43,Tryz.ntmps43
  go_wp2_with fail
  go_ret;exact⟨by rw[HR.out];rfl,Below.refl _ _⟩
 ·by_cases hm:1024<n
  ·have HR:=Lib.hid (B0i (L:=L) (.inr (by omega)));have e0:((n:Int)==0)=false:=by simp;omega
   have e1:decide ((1024:Int)<n)=true:=by simp;omega
   clear hs hl h0 hL;go_enter Tryz.func43,Tryz.ntmps43
   go_wp2_with fail
   go_ret;exact⟨by rw[HR.out];rfl,Below.refl _ _⟩
  ·obtain⟨b,off,rfl,hbl,hk⟩:=hs.at 0 (by omega);have p0:=hk.c0;simp only[Nat.zero_mul,Nat.add_zero]at p0;have e0:((n:Int)==0)=false:=by simp;omega
   have e1:decide ((1024:Int)<n)=false:=by simp;omega
   have z0:0<n:=by omega
   by_cases ht:(kAt L 0).tag=0
   ·have p0':w.cell? ⟨b,off,none⟩=some (.int .i64 0):=by rw[p0];rw[←ht];rfl
    have HS:=Lib.hid hs;have HT:=Lib.hid ht;have HLn:=Lib.hid hL;have HL:=Lib.hid hl;clear hk p0 hs ht hl hL;go_enter Tryz.func43,Tryz.ntmps43
    go_wp2_with fail
    clear p0'
    go_loopg [22] n (fun gn i wr=>∃j:Nat,j≤n∧gn=n-j∧i= .int .i64 j∧Hid (∀k,k<j→A1h L k=true)∧Hid (Below w.heap.size w wr))
    case atStart=>exact⟨0,by omega,by omega,by go_num,Lib.hid (fun k h=>by omega),Lib.hid (Below.refl _ _)⟩
    case round=>
     obtain⟨j,hj,rfl,rfl,HP,HB⟩:=hrel;by_cases hlt:j<n
     ·obtain⟨b',off',he,_,hk⟩:=(HS.out.below HB.out).at j hlt
      cases he
      obtain⟨q0,q1,q2,q3,q4⟩:=hk;have HCB:=Lib.hid (fun w'=>D4i w' (kAt L j))
      have HCL:=Lib.hid (fun w' (hw:Below w.heap.size w w')=>C9x w' (some ⟨b,off,none⟩) n cap L j (HS.out.below hw) hn hlt (HL.out j hlt))
      have HEQ:=Lib.hid (fun w' o1 o2=>D1t w' (kAt L j) (A6m (kAt L j)) o1 o2);rw[C5q]at HEQ;have HPB:=Lib.hid (B6x (L:=L) j (by rw[HLn.out];exact hlt))
      have HPO:Hid (A1h L j=(A0w (kAt L j)&&A1j L j)):=Lib.hid rfl;generalize A0w (kAt L j)=r1 at*;generalize A1j L j=r2 at*
      generalize hvb:kV (A6m (kAt L j))=vb at*;unfold kV at HCB HEQ;clear hvb;generalize(kAt L j).tag=ct at*;generalize(kAt L j).a=ca at*;generalize(kAt L j).b=cb at*
      generalize(kAt L j).n=cn at*;generalize(kAt L j).s=cs at*;have j1:(j:Int)<n:=by omega
      obtain⟨W0,rfl⟩:∃W0,W0=wr:=⟨_,rfl⟩
      go_upto_region 6 with fail
      have l0:=fun(x:Value) (k:Nat) (h:(#[Value.int .i64 ct,.int .i64 ca,.int .i64 cb,.int .i64 cn,.string ⟨cs.toArray⟩])[k]? =some x)=>(cell_of_row (W0.alloc (.cells #[Value.int .i64 ct,.int .i64 ca,.int .i64 cb,.int .i64 cn,.string ⟨cs.toArray⟩] 61)) W0.heap.size k _ _ _ (heap_alloc_last W0 _)).trans h
      have c0:=l0 _ 0 rfl;have c1:=l0 _ 1 rfl;have c2:=l0 _ 2 rfl;have c3:=l0 _ 3 rfl;have c4:=l0 _ 4 rfl
      have HB1:=Lib.hid (HB.out.alloc HB.out.size (.cells #[Value.int .i64 ct,.int .i64 ca,.int .i64 cb,.int .i64 cn,.string ⟨cs.toArray⟩] 61));clear l0 q0 q1 q2 q3 q4
      generalize W0.alloc (.cells #[Value.int .i64 ct,.int .i64 ca,.int .i64 cb,.int .i64 cn,.string ⟨cs.toArray⟩] 61)=W at*;have d0:=fun w' (h:Below W.heap.size W w')=>A0f h c0
      have d1:=fun w' (h:Below W.heap.size W w')=>A0f h c1
      have d2:=fun w' (h:Below W.heap.size W w')=>A0f h c2
      have d3:=fun w' (h:Below W.heap.size W w')=>A0f h c3
      have d4:=fun w' (h:Below W.heap.size W w')=>A0f h c4
      clear c0 c1 c2 c3 c4
      refine A0g (Below W.heap.size W) (.stir [(0,true),(1,true),(2,false),(3,true),(4,true),(5,true),(6,true),(7,false),(8,true),(9,true)]) (by kernel_rfl) (by kernel_rfl) (fun c a d v w h=>by cases d<;>exact h) ?_
      refine A0m (Below W.heap.size W) (fun _ h=>h) (Below.refl _ _).drew ?_
      cases r1
      ·have HR:=Lib.hid (HPB.out (by rw[HPO.out];rfl));clear HPB HPO
       iterate 2
        refine A0i fun K hK=>tkX ?_
        go_simp
        try go_bits
        refine hK _ ?_;clear hK K
       refine A0i (fun K hK=> ?_);simp only[A2r,List.getElem?_toArray,List.getElem?_cons_succ,List.getElem?_cons_zero];rw[if_pos (by rfl)];apply Exists.intro
       refine⟨fun w' hS'=> ?_,?_⟩
       ·go_simp;exact A4y.call (Calls.mono ((HCB.out w')) fun e w'' h=>⟨h.1,(fun hb''=>hS'.trans (hb''.mono hS'.size)) h.2⟩)
       go_simp;refine hK _ ?_;clear hK K;refine A0i (fun K hK=> ?_);simp only[A2r,List.getElem?_toArray,List.getElem?_cons_succ,List.getElem?_cons_zero];rw[if_pos (by rfl)]
       refine⟨Value.bool (!false),fun w' hS'=> ?_,?_⟩
       ·exact B3c (by rfl) (HEQ.out w' _ _)
       go_simp;refine hK _ ?_;clear hK K
       iterate 1
        refine A0i fun K hK=>tkX ?_
        go_simp
        try go_bits
        refine hK _ ?_;clear hK K
       iterate 4
        refine A0i fun K hK=>skX ?_
        go_simp;refine hK _ ?_;clear hK K
       iterate 1
        refine A0i fun K hK=>tkX ?_
        go_simp
        try go_bits
        refine hK _ ?_;clear hK K
       refine A0p (fun y hy=> ?_);have HY:=Lib.hid (HB1.out.trans (hy.mono HB1.out.size));clear hy d0 d1 d2 d3 d4 HCB HCL HEQ
       go_wp2_with fail
       go_ret;exact⟨by rw[HR.out];rfl,HY.out⟩
      ·iterate 2
        refine A0i fun K hK=>tkX ?_
        go_simp
        try go_bits
        refine hK _ ?_;clear hK K
       refine A0i (fun K hK=> ?_);simp only[A2r,List.getElem?_toArray,List.getElem?_cons_succ,List.getElem?_cons_zero];rw[if_pos (by rfl)];apply Exists.intro
       refine⟨fun w' hS'=> ?_,?_⟩
       ·go_simp;exact A4y.call (Calls.mono ((HCB.out w')) fun e w'' h=>⟨h.1,(fun hb''=>hS'.trans (hb''.mono hS'.size)) h.2⟩)
       go_simp;refine hK _ ?_;clear hK K;refine A0i (fun K hK=> ?_);simp only[A2r,List.getElem?_toArray,List.getElem?_cons_succ,List.getElem?_cons_zero];rw[if_pos (by rfl)]
       refine⟨Value.bool (!true),fun w' hS'=> ?_,?_⟩
       ·exact B3c (by rfl) (HEQ.out w' _ _)
       go_simp;refine hK _ ?_;clear hK K
       iterate 3
        refine A0i fun K hK=>tkX ?_
        go_simp
        try go_bits
        refine hK _ ?_;clear hK K
       refine A0i (fun K hK=> ?_);simp only[A2r,List.getElem?_toArray,List.getElem?_cons_succ,List.getElem?_cons_zero];rw[if_pos (by rfl)];apply Exists.intro
       refine⟨fun w' hS'=> ?_,?_⟩
       ·go_simp;exact A4y.call (Calls.mono ((HCL.out w' (HB1.out.trans (hS'.mono HB1.out.size)))) fun e w'' h=>⟨h.1,(fun hb''=>hS'.trans (hb''.mono hS'.size)) h.2⟩)
       go_simp;refine hK _ ?_;clear hK K
       cases r2
       ·have HR:=Lib.hid (HPB.out (by rw[HPO.out];rfl));clear HPB HPO
        iterate 2
         refine A0i fun K hK=>tkX ?_
         go_simp
         try go_bits
         refine hK _ ?_;clear hK K
        refine A0p (fun y hy=> ?_);have HY:=Lib.hid (HB1.out.trans (hy.mono HB1.out.size));clear hy d0 d1 d2 d3 d4 HCB HCL HEQ
        go_wp2_with fail
        go_ret;exact⟨by rw[HR.out];rfl,HY.out⟩
       ·have HQ:=Lib.hid (show ∀k,k<j+1→A1h L k=true from fun k hk=>by
         rcases Nat.lt_or_ge k j with h|h
         ·exact HP.out k h
         ·obtain rfl:k=j:=by omega
          rw[HPO.out];rfl)
        clear HPB HPO
        iterate 2
         refine A0i fun K hK=>tkX ?_
         go_simp
         try go_bits
         refine hK _ ?_;clear hK K
        refine A0p (fun y hy=> ?_);have HY:=Lib.hid (HB1.out.trans (hy.mono HB1.out.size));clear hy d0 d1 d2 d3 d4 HCB HCL HEQ
        go_wp2_with fail
        go_roundg (n-(j+1))
        case measure=>omega
        case rel=>exact⟨j+1,by omega,rfl,by go_num,HQ,HY⟩
     ·obtain rfl:j=n:=by omega
      have HR:=Lib.hid (B4w (L:=L) (by rw[HLn.out];omega) (by rw[HLn.out];omega) HT.out (by rw[HLn.out];exact HP.out))
      go_wp2_with fail
      go_ret;exact⟨by rw[HR.out];rfl,HB.out⟩
   ·have HR:=Lib.hid (B6e (L:=L) ht);generalize(kAt L 0).tag=t at*;have e3:(t !=0)=true:=by simp[ht]
    clear hk ht hs hl;go_enter Tryz.func43,Tryz.ntmps43
    go_wp2_with fail
    go_ret;exact⟨by rw[HR.out];rfl,Below.refl _ _⟩
end
section
open Go.RowKit
theorem A8q(L:List KV)(k:Nat)(h:k<L.length):kAt L (k:Int)=L[k]:=by
 unfold kAt;simp[List.getD,h]
end
section
open Go.ChangeShapes Go.WideShapes Go.ChangeAt Go.RowKit
def A3a(e:TypeId)(w w':World):Prop:=w.heap.size≤w'.heap.size∧∀(g:Nat) (cs:Array Value) (t:TypeId) (fr:Nat×Nat),w.heap[g]? =some (.cells cs t fr)→t≠e→w'.heap[g]? =some (.cells cs t fr)
theorem A0z{w w':World}{B:Nat}{e e':TypeId}{size:Nat}{v:Value}{n:Nat}{xs:List Value}(h:w.ownsRow B e size v n xs)(hk:A3a e' w w')(hne:e≠e'):w'.ownsRow B e size v n xs:=by
 refine⟨h.1,?_⟩
 rcases h.2 with⟨h1,h2⟩|⟨g,cap,cur,hv,hb,hg,r⟩
 ·exact .inl ⟨h1,h2⟩
 ·exact .inr ⟨g,cap,cur,hv,hb,hk.2 _ _ _ _ hg hne,r⟩
theorem C6u{w w':World}{B:Nat}{e t:TypeId}{size:Nat}{v:Value}{n g:Nat}{xs:List Value}{o:Obj}{cs:Array Value}{fr:Nat×Nat}(ho:w.ownsRow B e size v n xs)(hg:(w.alloc o).grownBy w' v.ownBlock)(hx:w.heap[g]? =some (.cells cs t fr))(hne:e≠t):w'.heap[g]? =some (.cells cs t fr):=by
 have hlt:=(Array.getElem?_eq_some_iff.1 hx).1;rw[hg.block g (by simp;omega) ?_,Below.heap_alloc _ _ _ hlt]
 ·exact hx
 ·intro he
  rcases ho.2 with⟨rfl,_⟩|⟨g2,cap,cur,rfl,_,hg2,_⟩
  ·simp[Value.ownBlock]at he
  ·simp[Value.ownBlock]at he;subst he;rw[hg2]at hx;simp at hx;exact hne hx.2.1
theorem A3a.app{w w':World}{B:Nat}{e:TypeId}{size:Nat}{v:Value}{n:Nat}{xs:List Value}{o:Obj}(ho:w.ownsRow B e size v n xs)(hg:(w.alloc o).grownBy w' v.ownBlock):A3a e w w':=by
 refine⟨?_,fun g cs t fr hx hne=>C6u ho hg hx (Ne.symm hne)⟩;have h:=hg.size;simp at h;omega
theorem A3a.refl{e:TypeId}(w:World):A3a e w w:=⟨Nat.le_refl _,fun _ _ _ _ h _=>h⟩
structure E0u(w w1:World)(g:Nat)(x y z:Value):Prop where
 c0:w1.cell? ⟨g,0,none⟩=some x
 c1:w1.cell? ⟨g,1,none⟩=some y
 c2:w1.cell? ⟨g,2,none⟩=some z
 f0:w1.frozen? ⟨g,0,none⟩=false
 f1:w1.frozen? ⟨g,1,none⟩=false
 f2:w1.frozen? ⟨g,2,none⟩=false
 lt:g<w1.heap.size
theorem E0u.of{w w1:World}{g:Nat}{x y z:Value}{t:TypeId}(h:w.heap[g]? =some (.cells #[x,y,z] t))(hb:Below w.heap.size w w1):E0u w w1 g x y z:=by
 have hlt:g<w.heap.size:=(Array.getElem?_eq_some_iff.1 h).1;have hg:w1.heap[g]? =some (.cells #[x,y,z] t):=by rw[hb.block _ hlt];exact h
 refine⟨?_,?_,?_,?_,?_,?_,(Array.getElem?_eq_some_iff.1 hg).1⟩
 ·rw[cell_of_row w1 _ 0 _ _ _ hg];rfl
 ·rw[cell_of_row w1 _ 1 _ _ _ hg];rfl
 ·rw[cell_of_row w1 _ 2 _ _ _ hg];rfl
 all_goals (unfold World.frozen?;rw[hg];rfl)
theorem A1d{w:World}{g:Nat}{cs:Array Value}{t:TypeId}{fr:Nat×Nat}(h:w.heap[g]? =some (.cells cs t fr))(o:Nat)(v:Value):(w.setCell ⟨g,o,none⟩ v).heap[g]? =some (.cells (cs.setIfInBounds o v) t fr):=by
 unfold World.setCell;simp[Array.getElem?_modify,h]
def C7w(w:World)(g:Nat)(x y z:Value)(t:TypeId):Prop:=w.heap[g]? =some (.cells #[x,y,z] t)
theorem C7w.below{w w1:World}{g:Nat}{x y z:Value}{t:TypeId}(h:C7w w g x y z t)(hb:Below w.heap.size w w1):C7w w1 g x y z t:=by
 unfold C7w;rw[hb.block _ (Array.getElem?_eq_some_iff.1 h).1];exact h
theorem C7w.box{w:World}{g:Nat}{x y z:Value}{t:TypeId}(h:C7w w g x y z t):E0u w w g x y z:=E0u.of h (Below.refl _ _)
structure E1m(w:World)(g:Nat)(x y:Value):Prop where
 c0:w.cell? ⟨g,0,none⟩=some x
 c1:w.cell? ⟨g,1,none⟩=some y
 f0:w.frozen? ⟨g,0,none⟩=false
 f1:w.frozen? ⟨g,1,none⟩=false
 lt:g<w.heap.size
def B2b(w:World)(g:Nat)(x y:Value)(t:TypeId):Prop:=w.heap[g]? =some (.cells #[x,y] t)
theorem B2b.box{w:World}{g:Nat}{x y:Value}{t:TypeId}(h:B2b w g x y t):E1m w g x y:=by
 unfold B2b at h;refine⟨?_,?_,?_,?_,(Array.getElem?_eq_some_iff.1 h).1⟩
 ·rw[cell_of_row w _ 0 _ _ _ h];rfl
 ·rw[cell_of_row w _ 1 _ _ _ h];rfl
 all_goals (unfold World.frozen?;rw[h];rfl)
theorem B2b.belowB{w w1:World}{B g:Nat}{x y:Value}{t:TypeId}(h:B2b w g x y t)(hb:Below B w w1)(hlt:g<B):B2b w1 g x y t:=by
 unfold B2b;rw[hb.block _ hlt];exact h
theorem B2b.below{w w1:World}{g:Nat}{x y:Value}{t:TypeId}(h:B2b w g x y t)(hb:Below w.heap.size w w1):B2b w1 g x y t:=h.belowB hb (Array.getElem?_eq_some_iff.1 h).1
theorem B2b.set0{w:World}{g:Nat}{x y v:Value}{t:TypeId}(h:B2b w g x y t):B2b (w.setCell ⟨g,0,none⟩ v) g v y t:=A1d h 0 v
theorem B2b.set1{w:World}{g:Nat}{x y v:Value}{t:TypeId}(h:B2b w g x y t):B2b (w.setCell ⟨g,1,none⟩ v) g x v t:=A1d h 1 v
structure A3k(g:Nat)(w w':World):Prop where
 os:w'.os=w.os
 tape:w'.tape=w.tape
 output:w'.output=w.output
 size:w.heap.size≤w'.heap.size
 block:∀k,k<w.heap.size→k≠g→w'.heap[k]? =w.heap[k]?
theorem A3k.refl(g:Nat)(w:World):A3k g w w:=⟨rfl,rfl,rfl,Nat.le_refl _,fun _ _ _=>rfl⟩
theorem A3k.trans{g:Nat}{w w1 w2:World}(h:A3k g w w1)(k:A3k g w1 w2):A3k g w w2:=
 ⟨k.os.trans h.os,k.tape.trans h.tape,k.output.trans h.output,Nat.le_trans h.size k.size,fun i hi hg=>by rw[k.block i (Nat.lt_of_lt_of_le hi h.size) hg,h.block i hi hg]⟩
theorem A3k.of{g:Nat}{w w1:World}(h:Below w.heap.size w w1):A3k g w w1:=⟨h.os,h.tape,h.output,h.size,fun k hk _=>h.block k hk⟩
theorem A3k.set{g:Nat}{w w1:World}(h:A3k g w w1)(o:Nat)(v:Value):A3k g w (w1.setCell ⟨g,o,none⟩ v):=
 ⟨h.os,h.tape,h.output,by have:=h.size;unfold World.setCell;simpa using this,fun k hk hg=>by
  rw[←h.block k hk hg];unfold World.setCell;have hne':¬g=k:=fun e=>hg e.symm
  simp[Array.getElem?_modify,hne']⟩
theorem A3k.below{g B:Nat}{w0 w w':World}(h:A3k g w w')(hb:Below B w0 w)(hB:B≤w0.heap.size)(hg:B≤g):Below B w0 w':=
 ⟨h.os.trans hb.os,h.tape.trans hb.tape,h.output.trans hb.output,Nat.le_trans hb.size h.size,fun k hk=>by
  rw[h.block k (Nat.lt_of_lt_of_le (Nat.lt_of_lt_of_le hk hB) hb.size) (by omega)];exact hb.block k hk⟩
def B1e(x:Option Addr)(n g:Nat):Prop:=0<n→∀b off,x=some ⟨b,off,none⟩→b≠g
theorem B1e.new{x off n g:Nat}(h:g≠x):B1e (some ⟨x,off,none⟩) n g:=fun _ b o e=>by cases e;exact Ne.symm h
theorem Sl.keep1{α:Type}{enc:α→Value}{g:Nat}{w w':World}{x:Option Addr}{n:Nat}{xs:List α}(hs:Sl enc w x n xs)(h:A3k g w w')(h1:B1e x n g):Sl enc w' x n xs:=by
 refine⟨hs.1,fun hn=> ?_⟩;obtain⟨b,off,ha,hlt,hc⟩:=hs.2 hn;refine⟨b,off,ha,Nat.lt_of_lt_of_le hlt h.size,fun i hi=> ?_⟩;rw[←hc i hi];unfold World.cell?;rw[h.block b hlt (h1 hn b off ha)]
theorem A0a{w:World}{g:Nat}{C:Array Value}{t:TypeId}{fr:Nat×Nat}(h:w.heap[g]? =some (.cells C t fr))(k:Nat){v:Value}(hk:C[k]? =some v):w.cell? ⟨g,k,none⟩=some v:=by
 rw[cell_of_row w g k _ _ _ h];exact hk
theorem A1a{w:World}{g:Nat}{C:Array Value}{t:TypeId}(h:w.heap[g]? =some (.cells C t))(k:Nat):w.frozen? ⟨g,k,none⟩=false:=by
 unfold World.frozen?;rw[h];simp
theorem A0u{w:World}{g:Nat}{C:Array Value}{t:TypeId}{fr:Nat×Nat}(h:w.heap[g]? =some (.cells C t fr)):g<w.heap.size:=(Array.getElem?_eq_some_iff.1 h).1
theorem A0c{w w':World}{g:Nat}{o:Obj}(h:w.heap[g]? =some o)(hb:Below w.heap.size w w'):w'.heap[g]? =some o:=by rw[hb.block g (Array.getElem?_eq_some_iff.1 h).1];exact h
theorem A3v{w:World}{c:Nat}{cs:Array Value}{t:TypeId}{fr:Nat×Nat}(h:w.heap[c]? =some (.cells cs t fr))(o:Nat)(v:Value):A3a t w (w.setCell ⟨c,o,none⟩ v):=by
 refine⟨by unfold World.setCell;simp,fun i cs' t' fr' hi hne=> ?_⟩
 have hic:i≠c:=by
  rintro rfl;rw[h]at hi;simp at hi;exact hne hi.2.1.symm
 unfold World.setCell;have hne':¬c=i:=fun e=>hic e.symm
 simp[Array.getElem?_modify,hne',hi]
theorem A1c{w:World}{g h:Nat}{ob:Obj}(hg:w.heap[g]? =some ob)(hne:g≠h)(o:Nat)(v:Value):(w.setCell ⟨h,o,none⟩ v).heap[g]? =some ob:=by
 unfold World.setCell;have hne':¬h=g:=fun e=>hne e.symm
 simp[Array.getElem?_modify,hne',hg]
structure KS where
 tag:Int
 a:Int
def KS.cells(s:KS):List Value:=[.int .i64 s.tag,.int .i64 s.a]
theorem KS.cells_length(s:KS):s.cells.length=2:=rfl
structure KT where
 fr:Int
 tt:Int
 pl:Int
 cl:Int
def KT.cells(t:KT):List Value:=[.int .i64 t.fr,.int .i64 t.tt,.int .i64 t.pl,.int .i64 t.cl]
theorem KT.cells_length(t:KT):t.cells.length=4:=rfl
structure KD where
 fl:Int
 nm:Int
 ds:Int
def KD.cells(d:KD):List Value:=[.int .i64 d.fl,.int .i64 d.nm,.int .i64 d.ds]
theorem KD.cells_length(d:KD):d.cells.length=3:=rfl
structure KP where
 pl:Int
 la:Option Addr
 ln:Nat
 lc:Nat
 loc:List KS
 sa:Option Addr
 sn:Nat
 sc:Nat
 stk:List KS
def KP.cells(p:KP):List Value:=[.int .i64 p.pl,.slice p.la p.ln p.lc,.slice p.sa p.sn p.sc]
theorem KP.cells_length(p:KP):p.cells.length=3:=rfl
structure KP.Rd(p:KP)(w:World):Prop where
 loc:Ss 2 KS.cells w p.la p.ln p.loc
 stk:Ss 2 KS.cells w p.sa p.sn p.stk
theorem KP.Rd.below{p:KP}{w w':World}(h:p.Rd w)(hb:Below w.heap.size w w'):p.Rd w':=⟨h.loc.below hb,h.stk.below hb⟩
structure KM where
 fl:Int
 nm:Int
 ds:Int
 st:Int
 lo:Int
 ca:Option Addr
 cn:Nat
 cc:Nat
 code:List UInt8
 ta:Option Addr
 tn:Nat
 tc:Nat
 traps:List KT
 ma:Option Addr
 mn:Nat
 mc:Nat
 maps:List KP
def KM.cells(m:KM):List Value:=[.int .i64 m.fl,.int .i64 m.nm,.int .i64 m.ds,.int .i64 m.st,.int .i64 m.lo,.slice m.ca m.cn m.cc,.slice m.ta m.tn m.tc,.slice m.ma m.mn m.mc]
theorem KM.cells_length(m:KM):m.cells.length=8:=rfl
structure KM.Rd(m:KM)(w:World):Prop where
 code:Sl A5f w m.ca m.cn m.code
 cle:m.cn≤m.cc
 traps:Ss 4 KT.cells w m.ta m.tn m.traps
 maps:Ss 3 KP.cells w m.ma m.mn m.maps
 each:∀p∈m.maps,p.Rd w
theorem KM.Rd.below{m:KM}{w w':World}(h:m.Rd w)(hb:Below w.heap.size w w'):m.Rd w':=⟨h.code.below hb,h.cle,h.traps.below hb,h.maps.below hb,fun p hp=>(h.each p hp).below hb⟩
structure KF where
 pa:Option Addr
 pn:Nat
 pc:Nat
 pool:List KV
 th:Int
 su:Int
 fa:Option Addr
 fn:Nat
 fc:Nat
 fields:List KD
 ma:Option Addr
 mn:Nat
 mc:Nat
 methods:List KM
def KF.cells(f:KF):List Value:=[.slice f.pa f.pn f.pc,.int .i64 f.th,.int .i64 f.su,.slice f.fa f.fn f.fc,.slice f.ma f.mn f.mc]
structure KF.Rd(f:KF)(w:World):Prop where
 pool:Ks w f.pa f.pn f.pool
 fields:Ss 3 KD.cells w f.fa f.fn f.fields
 methods:Ss 8 KM.cells w f.ma f.mn f.methods
 each:∀m∈f.methods,m.Rd w
theorem KF.Rd.below{f:KF}{w w':World}(h:f.Rd w)(hb:Below w.heap.size w w'):f.Rd w':=⟨h.pool.below hb,h.fields.below hb,h.methods.below hb,fun m hm=>(h.each m hm).below hb⟩
def B3z(s:List UInt8)(c:KV):Bool:=decide (c.tag=1∧c.s=s)
def A6a(L:List KV)(s:List UInt8):Nat:=(L.findIdx? (B3z s)).getD 0
theorem D4n{L:List KV}{s:List UInt8}(h:∀k,k<L.length→B3z s (kAt L k)=false):A6a L s=0:=by
 unfold A6a
 rw[List.findIdx?_eq_none_iff.2 (fun x hx=>by
  obtain⟨i,hi,rfl⟩:=List.getElem_of_mem hx;rw[←A8q L i hi];exact h i hi)]
 rfl
theorem D4r{L:List KV}{s:List UInt8}(j:Nat)(hj:j<L.length)(h:∀k,k<j→B3z s (kAt L k)=false)(ht:B3z s (kAt L j)=true):A6a L s=j:=by
 unfold A6a;rw[List.findIdx?_eq_some_iff_getElem.2 ⟨hj,by rw[←A8q L j hj];exact ht,fun k hk=>by rw[←A8q L k (by omega),h k hk];decide⟩];rfl
def clsOk(L:List KV)(i:Int):Bool:=(A0s L i).2
def A4k(L:List KV)(s:KS):Bool:=if s.tag=7 then clsOk L s.a else decide (s.tag=0∨s.tag=1∨s.tag=4∨s.tag=5)&&decide (s.a=0)
def A4s(L:List KV)(most:Int)(l:List KS):Bool:=decide ((l.length:Int)≤most)&&l.all (A4k L)
def A3d(L:List KV)(fl nm ds:Int):Bool:=decide (fl=0∨fl=8)&&isT L nm 1&&isT L ds 1
def A3t(n:Int):Bool:=decide (0≤n∧n≤65535)
def A5j(L:List KV)(t:KT):Bool:=[t.fr,t.tt,t.pl].all A3t&&(decide (t.cl=0)||clsOk L t.cl)
def A6f(L:List KV)(p:KP):Bool:=A3t p.pl&&A4s L 64 p.loc&&A4s L 64 p.stk
def A7u:List UInt8:=[67,111,100,101]
def B6c:List UInt8:=[83,116,97,99,107,77,97,112]
def B0t(m:KM):Bool:=decide (0≤m.st∧m.st≤64∧0≤m.lo∧m.lo≤64)
def A8z(m:KM):Bool:=decide (0<m.code.length∧m.code.length≤4096∧m.traps.length≤255∧m.maps.length≤255)
def A7s(L:List KV)(m:KM):Bool:=decide (0<A6a L A7u∧(m.maps.length=0∨0<A6a L B6c))
def A2y(L:List KV)(m:KM):Bool:=A3d L m.fl m.nm m.ds&&B0t m&&A8z m&&m.traps.all (A5j L)&&m.maps.all (A6f L)&&A7s L m
def A2i(f:KF):Bool:=A5a f.pool&&clsOk f.pool f.th&&(decide (f.su=0)||clsOk f.pool f.su)&&decide (f.fields.length≤64∧f.methods.length≤64)&&
 f.fields.all (fun d=>A3d f.pool d.fl d.nm d.ds)&&f.methods.all (A2y f.pool)
theorem A5g{α:Type}(p:α→Bool)(l:List α)(j:Nat)(x:α)(h:l[j]? =some x):(l.take (j+1)).all p=((l.take j).all p&&p x):=by
 obtain⟨hj,he⟩:=List.getElem?_eq_some_iff.1 h;rw[List.take_succ_eq_append_getElem hj,List.all_append,he];simp
theorem Ss.getC{α:Type}{z:Nat}{enc:α→List Value}{w:World}{a:Option Addr}{n:Nat}{xs:List α}(h:Ss z enc w a n xs)(j:Nat)(hj:j<n):∃b off x,a=some ⟨b,off,none⟩∧b<w.heap.size∧xs[j]? =some x∧∀i,i<z→w.cell? ⟨b,off+j*z+i,none⟩=(enc x)[i]? :=by
 obtain⟨b,off,ha,hlt,hc⟩:=h.2 (by omega);have hl:j<xs.length:=by rw[h.1];exact hj
 exact⟨b,off,xs[j],ha,hlt,List.getElem?_eq_getElem hl,hc j hl⟩
theorem D2v{s:List UInt8}{c:KV}(h:c.tag=1):B3z s c=decide (c.s=s):=by unfold B3z;simp[h]
theorem D3e{s:List UInt8}{c:KV}(h:c.tag≠1):B3z s c=false:=by unfold B3z;simp[h]
theorem D0p(w:World)(c:KV)(s:List UInt8)(g:Nat)(hg:w.heap[g]? =some (.cells #[.string ⟨s.toArray⟩] 9)):
  Calls Tryz.prog 138 #[kV c,.pointer (some ⟨g,0,none⟩)] w (A0k (B3z s c) w):=by
 obtain⟨ct,ca,cb,cn,cs⟩:=c;have lt:=A0u hg;have q0:=A0a hg 0 rfl;have hne:w.heap.size≠g:=by omega
 have q0':(w.alloc (.cells #[.int .i64 ct,.int .i64 ca,.int .i64 cb,.int .i64 cn,.string ⟨cs.toArray⟩] 61)).cell? ⟨g,0,none⟩=some (.string ⟨s.toArray⟩):=A0f (A0e _ _) q0;by_cases h:ct=1
 ·subst h;rw[D2v rfl];unfold kV;clear hg;go_enter Tryz.func138,Tryz.ntmps138
  go_wp2_with fail
  go_ret;exact⟨by show _=Ending.returned (.bool (decide (cs=s)));congr 2;by_cases h:cs=s<;>simp[h],A0e _ _⟩
 ·rw[D3e h];unfold kV;have e1:(ct==1)=false:=by simp[h]
  clear hg h;go_enter Tryz.func138,Tryz.ntmps138
  go_wp2_with fail
  go_ret;exact⟨rfl,A0e _ _⟩
def D5n(L:List KV)(s:List UInt8):Int:=match L.findIdx? (B3z s)with|some j=>(j:Int)|none=> -1
theorem C8y(L:List KV)(s:List UInt8):(A6a L s:Int)=max (D5n L s) 0:=by
 unfold A6a D5n
 cases L.findIdx? (B3z s)<;>simp<;>omega
theorem D7p{L:List KV}{s:List UInt8}(h:∀k,k<L.length→B3z s (kAt L k)=false):D5n L s= -1:=by
 unfold D5n
 rw[List.findIdx?_eq_none_iff.2 (fun x hx=>by
  obtain⟨i,hi,rfl⟩:=List.getElem_of_mem hx;rw[←A8q L i hi];exact h i hi)]
theorem D6p{L:List KV}{s:List UInt8}(j:Nat)(hj:j<L.length)(h:∀k,k<j→B3z s (kAt L k)=false)(ht:B3z s (kAt L j)=true):D5n L s=j:=by
 unfold D5n;rw[List.findIdx?_eq_some_iff_getElem.2 ⟨hj,by rw[←A8q L j hj];exact ht,fun k hk=>by rw[←A8q L k (by omega),h k hk];decide⟩]
theorem D0c(w:World)(a:Option Addr)(n cap:Nat)(L:List KV)(s:List UInt8)(g:Nat)(hs:Ks w a n L)(hn:n≤65536)(hg:w.heap[g]? =some (.cells #[.string ⟨s.toArray⟩] 9)):
  Calls Tryz.prog 137 #[.slice a n cap,.func (.func 138) #[] #[.pointer (some ⟨g,0,none⟩)]] w fun e w'=>e= .returned (.int .i64 (D5n L s))∧Below w.heap.size w w':=by
 have HS:=Lib.hid hs;have HLn:=Lib.hid hs.1;have HG:=Lib.hid hg;clear hs hg;go_enter Tryz.func137,Tryz.ntmps137
 go_wp2_with fail
 go_loopg [8] n (fun gn i wr=>∃j:Nat,j≤n∧gn=n-j∧i= .int .i64 j∧Hid (∀k,k<j→B3z s (kAt L k)=false)∧Hid (Below w.heap.size w wr))
 case atStart=>exact⟨0,by omega,by omega,by go_num,Lib.hid (fun k h=>by omega),Lib.hid (Below.refl _ _)⟩
 case round=>
  obtain⟨j,hj,rfl,rfl,HP,HB⟩:=hrel;by_cases hlt:j<n
  ·obtain⟨b,off,rfl,_,hk⟩:=(HS.out.below HB.out).at j hlt;obtain⟨q0,q1,q2,q3,q4⟩:=hk;have HC:=Lib.hid (D0p wr (kAt L j) s g (A0c HG.out HB.out))
   have HPJ:=Lib.hid (D6p (L:=L) (s:=s) j (by rw[HLn.out];exact hlt) HP.out)
   have HPN:=Lib.hid (show B3z s (kAt L j)=false→∀k,k<j+1→B3z s (kAt L k)=false from fun h k hk=>by
    rcases Nat.lt_or_ge k j with hkj|hkj
    ·exact HP.out k hkj
    ·have:k=j:=by omega
     subst this;exact h)
   generalize B3z s (kAt L j)=tx at*;unfold kV at HC;generalize(kAt L j).tag=ct at*;generalize(kAt L j).a=ca at*;generalize(kAt L j).b=cb at*;generalize(kAt L j).n=cn at*
   generalize(kAt L j).s=cs at*;have hj1:(j:Int)<n:=by omega
   go_wp2_with fail
   refine HC.out.mono ?_;rintro e w1 ⟨rfl,hb⟩;have HB1:=Lib.hid (HB.out.trans (hb.mono HB.out.size));clear hb q0 q1 q2 q3 q4 HC
   cases tx
   ·go_wp2_with fail
    go_roundg (n-(j+1))
    case measure=>omega
    case rel=>exact⟨j+1,by omega,rfl,by go_num,Lib.hid (HPN.out (by simp)),HB1⟩
   ·go_wp2_with fail
    go_ret;exact⟨by rw[HPJ.out (by simp)];rfl,HB1.out⟩
  ·obtain rfl:j=n:=by omega
   have HN:=Lib.hid (D7p (L:=L) (s:=s) (by rw[HLn.out];exact HP.out))
   go_wp2_with fail
   go_ret;exact⟨by rw[HN.out];rfl,HB.out⟩
theorem C4m(w:World)(a:Option Addr)(n cap:Nat)(L:List KV)(s:List UInt8)(hs:Ks w a n L)(hn:n≤65536):
  Calls Tryz.prog 92 #[.slice a n cap,.string ⟨s.toArray⟩] w fun e w'=>e= .returned (.int .i64 (A6a L s))∧Below w.heap.size w w':=by
 have hb1:Below w.heap.size w (w.alloc (.cells #[.string ⟨s.toArray⟩] 9)):=A0e _ _
 have HC:=Lib.hid (D0c (w.alloc (.cells #[.string ⟨s.toArray⟩] 9)) a n cap L s w.heap.size (hs.below hb1) hn (heap_alloc_last w _));have HM:=Lib.hid (C8y L s);have HB:=Lib.hid hb1;clear hs hb1
 go_enter Tryz.func92,Tryz.ntmps92
 go_wp2_with fail
 refine HC.out.mono ?_;rintro e w1 ⟨rfl,hb⟩;have HB1:=Lib.hid (HB.out.trans (hb.mono HB.out.size));clear hb HC;generalize D5n L s=r at*;by_cases hr:r<0
 ·have HR:=Lib.hid (show(A6a L s:Int)=0 by have:=HM.out;omega)
  go_wp2_with fail
  go_ret
  exact⟨by first|(rw[HR.out];rfl)|(rw[HM.out];rfl),HB1.out⟩
 ·have HR:=Lib.hid (show(A6a L s:Int)=r by have:=HM.out;omega)
  go_wp2_with fail
  go_ret
  exact⟨by first|(rw[HR.out];rfl)|(rw[HM.out];rfl),HB1.out⟩
def D9z(v:Int):Value:= .int .i64 v
theorem Ss.keep1{α:Type}{z:Nat}{enc:α→List Value}{g:Nat}{w w':World}{x:Option Addr}{n:Nat}{xs:List α}(hs:Ss z enc w x n xs)(h:A3k g w w')(h1:B1e x n g):Ss z enc w' x n xs:=by
 refine⟨hs.1,fun hn=> ?_⟩;obtain⟨b,off,ha,hlt,hc⟩:=hs.2 hn;refine⟨b,off,ha,Nat.lt_of_lt_of_le hlt h.size,fun i hi j hj=> ?_⟩;rw[←hc i hi j hj];unfold World.cell?
 rw[h.block b hlt (h1 hn b off ha)]
theorem B1e.oldS{α:Type}{z:Nat}{enc:α→List Value}{w:World}{x:Option Addr}{n g:Nat}{xs:List α}(h:Ss z enc w x n xs)(hg:w.heap.size≤g):B1e x n g:=by
 intro hn b off hx;obtain⟨b',off',hx',hlt,_⟩:=h.2 hn;rw[hx]at hx';simp only[Option.some.injEq,Addr.mk.injEq]at hx';omega
structure LkS(w:World)(g:Nat)(a:Option Addr)(n cap:Nat)(L:List KV)(odd:Bool):Prop where
 k:B2b w g (.slice a n cap) (.bool odd) 106
 ks:Ks w a n L
 sm:n≤65536
 off:B1e a n g
theorem LkS.below{w w':World}{g:Nat}{a:Option Addr}{n cap:Nat}{L:List KV}{odd:Bool}(h:LkS w g a n cap L odd)(hb:Below w.heap.size w w'):LkS w' g a n cap L odd:=⟨h.k.below hb,h.ks.below hb,h.sm,h.off⟩
theorem LkS.lt{w:World}{g:Nat}{a:Option Addr}{n cap:Nat}{L:List KV}{odd:Bool}(h:LkS w g a n cap L odd):g<w.heap.size:=h.k.box.lt
def C1p(g:Nat)(a:Option Addr)(n cap:Nat)(L:List KV)(odd:Bool)(w:World)(e:Ending)(w':World):Prop:=e= .returned (.tuple #[])∧LkS w' g a n cap L odd∧A3k g w w'
theorem A2c(w:World)(g:Nat)(a:Option Addr)(n cap:Nat)(L:List KV)(odd ok:Bool)(h:LkS w g a n cap L odd):
  Calls Tryz.prog 45 #[.pointer (some ⟨g,0,none⟩),.bool ok] w (C1p g a n cap L (odd|| !ok) w):=by
 have H:=Lib.hid h;obtain⟨c0,c1,f0,f1,lt⟩:=h.k.box;clear h
 cases odd
 ·go_enter Tryz.func45,Tryz.ntmps45
  go_wp2_with fail
  go_end0;exact⟨rfl,⟨H.out.k.set1,Ss.keep1 H.out.ks ((A3k.refl g w).set 1 _) H.out.off,H.out.sm,H.out.off⟩,(A3k.refl g w).set 1 _⟩
 ·go_enter Tryz.func45,Tryz.ntmps45
  go_wp2_with fail
  go_end0;exact⟨rfl,⟨H.out.k.set1,Ss.keep1 H.out.ks ((A3k.refl g w).set 1 _) H.out.off,H.out.sm,H.out.off⟩,(A3k.refl g w).set 1 _⟩
theorem B0g(w:World)(g:Nat)(a:Option Addr)(n cap:Nat)(L:List KV)(odd:Bool)(i:Int)(h:LkS w g a n cap L odd):
  Calls Tryz.prog 44 #[.pointer (some ⟨g,0,none⟩),.int .i64 i] w (C1p g a n cap L (odd|| !clsOk L i) w):=by
 have HC:=Lib.hid (B4y w a n cap L i h.ks h.sm);have HN:=Lib.hid (A2c w g a n cap L odd (clsOk L i) h);unfold A4f at HC;unfold clsOk at HN⊢;generalize(A0s L i).1=s1 at*
 generalize(A0s L i).2=b1 at*;obtain⟨c0,c1,f0,f1,lt⟩:=h.k.box;clear h;go_enter Tryz.func44,Tryz.ntmps44
 go_wp2_with fail
 refine HC.out.mono ?_;rintro e w' ⟨rfl,rfl⟩
 go_wp2_with fail
 refine HN.out.mono ?_;rintro e w' ⟨rfl,h1,h2⟩
 go_wp2_with fail
 go_end0;exact⟨rfl,h1,h2⟩
theorem C0n(w:World)(g:Nat)(a:Option Addr)(n cap:Nat)(L:List KV)(odd:Bool)(i:Int)(h:LkS w g a n cap L odd):
  Calls Tryz.prog 89 #[.pointer (some ⟨g,0,none⟩),.int .i64 i] w (C1p g a n cap L (odd|| !isT L i 1) w):=by
 have HC:=Lib.hid (B1t w a n cap L i h.ks h.sm);have HN:=Lib.hid (A2c w g a n cap L odd (isT L i 1) h);unfold A5i at HC;generalize A1p L i=s1 at*;generalize isT L i 1=b1 at*
 obtain⟨c0,c1,f0,f1,lt⟩:=h.k.box;clear h;go_enter Tryz.func89,Tryz.ntmps89
 go_wp2_with fail
 refine HC.out.mono ?_;rintro e w' ⟨rfl,rfl⟩
 go_wp2_with fail
 refine HN.out.mono ?_;rintro e w' ⟨rfl,h1,h2⟩
 go_wp2_with fail
 go_end0;exact⟨rfl,h1,h2⟩
def C2x(s:Nat×Nat×Nat):List Value:=[.int .u8 (s.1:Nat),.int .u8 (s.2.1:Nat),.int .i64 (s.2.2:Nat)]
theorem B5x(s:Nat×Nat×Nat):(C2x s).length=3:=rfl
def B1m:List (Nat×Nat×Nat):=[(0,10,1),(16,16,3),(17,17,4),(18,18,5),(20,20,6),(21,22,2),(25,25,2),(46,46,1),(50,51,1),(54,55,2),(58,58,2),(79,79,1),(83,84,1),(87,87,1),(89,89,1),(95,97,1),(100,101,1),(104,105,1),(108,109,1),(112,113,1),(116,117,1),(120,131,1),(132,132,8),(133,133,1),(136,136,1),(145,145,1),(148,148,1),(153,167,7),(172,173,1),(176,177,1),(178,182,6),(184,184,6),(187,187,6),(188,188,9),(189,189,6),(190,191,1),(192,193,6),(198,199,7)]
theorem C0e:∀s∈B1m,(s:Nat×Nat×Nat).1≤s.2.1∧s.2.1≤255∧s.2.2≤9:=by decide
def C2p(f:Nat→Nat)(s:Nat×Nat×Nat):Nat→Nat:=fun i=>if s.1≤i∧i≤s.2.1 then s.2.2 else f i
def B8a(k:Nat):Nat→Nat:=(B1m.take k).foldl C2p (fun _=>0)
def A0q(op:Nat):Nat:=B8a 38 op
theorem C5r(k:Nat)(h:k<B1m.length):B8a (k+1)=C2p (B8a k) B1m[k]:=by
 unfold B8a;rw[List.take_succ_eq_append_getElem h,List.foldl_append];rfl
theorem D4f(f:Nat→Nat)(s:Nat×Nat×Nat)(h:s.2.2≤9)(hf:∀i,f i≤9)(i:Nat):C2p f s i≤9:=by
 unfold C2p;split
 ·exact h
 ·exact hf i
theorem D7z(l:List (Nat×Nat×Nat))(hl:∀s∈l,(s:Nat×Nat×Nat).2.2≤9)(f:Nat→Nat)(hf:∀i,f i≤9)(i:Nat):l.foldl C2p f i≤9:=by
 induction l generalizing f with
 |nil=>exact hf i
 |cons s l ih=>exact ih (fun x hx=>hl x (List.mem_cons_of_mem _ hx)) _ (fun j=>D4f f s (hl s List.mem_cons_self) hf j)
theorem A4j(op:Nat):A0q op≤9:=by
 unfold A0q B8a;exact D7z _ (fun s hs=>(C0e s (List.mem_of_mem_take hs)).2.2) _ (fun _=>Nat.zero_le _) op
def A2m(f:Nat):Nat:=[0,1,2,2,3,2,3,3,3,2].getD f 0
def A8g(f:Nat→Nat):Array Value:=((List.range 256).map fun i=>Value.int .u8 (f i:Nat)).toArray
theorem A3s(f:Nat→Nat):(A8g f).size=256:=by simp[A8g]
theorem B0u(f:Nat→Nat)(j:Nat)(h:j<256):(A8g f)[j]? =some (.int .u8 (f j:Nat)):=by simp[A8g,h]
def D8d(f:Nat→Nat)(j x:Nat):Nat→Nat:=fun i=>if i=j then x else f i
theorem D3j(f:Nat→Nat)(j x:Nat):(A8g f).setIfInBounds j (.int .u8 (x:Nat))=A8g (D8d f j x):=by
 apply Array.ext_getElem?;intro i;rw[Array.getElem?_setIfInBounds];by_cases hi:i<256
 ·rw[B0u _ _ hi,B0u _ _ hi];unfold D8d;by_cases hk:j=i
  ·subst hk;simp[A3s,hi]
  ·simp only[hk,if_false];rw[if_neg (Ne.symm hk)]
 ·have h1:(A8g f)[i]? =none:=by simp[A3s];omega
  have h2:(A8g (D8d f j x))[i]? =none:=by simp[A3s];omega
  rw[h1,h2];split
  ·simp[A3s];omega
  ·rfl
theorem B7m(f:Nat→Nat):(A8g f).all (·.oneCell')=true:=by
 simp[A8g,Array.all_eq_true];intro i hi;rfl
def B9b(f:Nat→Nat)(a j x:Nat):Nat→Nat:=fun i=>if a≤i∧i<j then x else f i
theorem C3p(f:Nat→Nat)(a x:Nat):B9b f a a x=f:=by
 funext i;unfold B9b;rw[if_neg (by omega)]
theorem C7s(f:Nat→Nat)(a j x:Nat)(h:a≤j):D8d (B9b f a j x) j x=B9b f a (j+1) x:=by
 funext i;unfold D8d B9b;by_cases h1:i=j
 ·rw[if_pos h1,if_pos (by omega)]
 ·rw[if_neg h1];by_cases h2:a≤i∧i<j
  ·rw[if_pos h2,if_pos (by omega)]
  ·rw[if_neg h2,if_neg (by omega)]
theorem C8i(f:Nat→Nat)(a b x:Nat):B9b f a (b+1) x=C2p f (a,b,x):=by
 funext i;unfold B9b C2p;by_cases h:a≤i∧i≤b
 ·rw[if_pos (by omega),if_pos h]
 ·rw[if_neg (by omega),if_neg h]
theorem Ss.lit{α:Type}{z:Nat}{enc:α→List Value}(hz:∀x,(enc x).length=z){w:World}{g n:Nat}{xs:List α}{C:Array Value}{e:TypeId}{fr:Nat×Nat}(hg:w.heap[g]? =some (.cells C e fr))(hC:C=(xs.flatMap enc).toArray)(hn:xs.length=n):Ss z enc w (some ⟨g,0,none⟩) n xs:=by
 subst hC;refine⟨hn,fun _=>⟨g,0,rfl,(Array.getElem?_eq_some_iff.1 hg).1,fun i hi j hj=> ?_⟩⟩;rw[cell_of_row w g (0+i*z+j) _ e fr hg,Nat.zero_add];simp only[List.getElem?_toArray]
 exact B5f hz xs i hi j hj
def D2f(w:World)(e:Ending)(w':World):Prop:=e= .returned (.slice (some ⟨w.heap.size,0,none⟩) 38 38)∧Ss 3 C2x w' (some ⟨w.heap.size,0,none⟩) 38 B1m∧Below w.heap.size w w'∧w'.heap.size=w.heap.size+1
theorem C9r(w:World):Calls Tryz.prog 146 #[] w (D2f w):=by
 go_enter Tryz.func146,Tryz.ntmps146
 go_wp2_with fail
 go_ret;exact⟨rfl,Ss.lit B5x (heap_alloc_last w _) rfl rfl,(Below.refl _ _).alloc (Nat.le_refl _) _,by simp⟩
theorem B5d{w:World}{g:Nat}{cs:Array Value}{t:TypeId}{fr:Nat×Nat}(h:w.heap[g]? =some (.cells cs t fr))(o:Nat)(v:Value):(w.setCell ⟨g,o,none⟩ v).heap[g]? =some (.cells (cs.setIfInBounds o v) t fr):=by
 unfold World.setCell;simp[Array.getElem?_modify,h]
theorem B1v{w:World}{g h:Nat}(hne:h≠g)(o:Nat)(v:Value):(w.setCell ⟨g,o,none⟩ v).heap[h]? =w.heap[h]? :=by
 unfold World.setCell;simp[Array.getElem?_modify,Ne.symm hne]
theorem B8n{w:World}{g:Nat}(o:Nat)(v:Value):(w.setCell ⟨g,o,none⟩ v).heap.size=w.heap.size:=by
 unfold World.setCell;simp
def zs8:Array Value:=Array.replicate 256 (.int .u8 0)
theorem D6q(w:World):(zeroValue 164).run Tryz.prog w= .ok (.agg zs8) w:=by kernel_rfl
theorem B1a:(Tryz.prog.info? 164).map (·.size)=some 256:=by kernel_rfl
theorem C8z:A8g (fun _=>0)=zs8:=by
 unfold A8g zs8;apply Array.ext';simp[List.map_const']
structure FW(w wr:World)(f:Nat→Nat):Prop where
 z:wr.heap[w.heap.size]? =some (.cells zs8 164)
 t:wr.heap[w.heap.size+1]? =some (.cells (A8g f) 164)
 sp:Ss 3 C2x wr (some ⟨w.heap.size+2,0,none⟩) 38 B1m
 b:Below w.heap.size w wr
theorem FW.below{w wr w':World}{f:Nat→Nat}(h:FW w wr f)(hb:Below wr.heap.size wr w'):FW w w' f:=
 ⟨by rw[hb.block _ (Array.getElem?_eq_some_iff.1 h.z).1];exact h.z,by rw[hb.block _ (Array.getElem?_eq_some_iff.1 h.t).1];exact h.t,h.sp.below hb,h.b.trans (hb.mono h.b.size)⟩
theorem FW.set{w wr:World}{f:Nat→Nat}(h:FW w wr f)(j x:Nat):FW w (wr.setCell ⟨w.heap.size+1,j,none⟩ (.int .u8 (x:Nat))) (D8d f j x):=by
 refine⟨by rw[B1v (by omega)];exact h.z,by rw[←D3j];exact B5d h.t j _,⟨h.sp.1,fun hn=> ?_⟩,h.b.setCell (by show w.heap.size≤w.heap.size+1;omega) _⟩
 obtain⟨b,off,ha,hlt,hc⟩:=h.sp.2 hn;refine⟨b,off,ha,by rw[B8n];exact hlt,fun i hi k hk=> ?_⟩;rw[←hc i hi k hk];simp only[Option.some.injEq,Addr.mk.injEq,and_true]at ha;unfold World.cell?
 rw[B1v (by show b≠_;omega)]
theorem FW.cell{w wr:World}{f:Nat→Nat}(h:FW w wr f)(j:Nat)(hj:j<256):wr.cell? ⟨w.heap.size+1,j,none⟩=some (.int .u8 (f j:Nat))∧wr.frozen? ⟨w.heap.size+1,j,none⟩=false:=by
 refine⟨by rw[cell_of_row wr _ j _ _ _ h.t];exact B0u f j hj,?_⟩;unfold World.frozen?;rw[h.t];simp
structure D5v(w:World)(g:Nat)(x y z:Nat):Prop where
 c0:w.cell? ⟨g,0,none⟩=some (.int .u8 (x:Nat))
 c1:w.cell? ⟨g,1,none⟩=some (.int .u8 (y:Nat))
 c2:w.cell? ⟨g,2,none⟩=some (.int .i64 (z:Nat))
theorem D5v.new(w:World)(x y z:Nat)(t:TypeId):D5v (w.alloc (.cells #[.int .u8 (x:Nat),.int .u8 (y:Nat),.int .i64 (z:Nat)] t)) w.heap.size x y z:=
 ⟨by rw[cell_of_row _ _ 0 _ _ _ (heap_alloc_last w _)];rfl,by rw[cell_of_row _ _ 1 _ _ _ (heap_alloc_last w _)];rfl,by rw[cell_of_row _ _ 2 _ _ _ (heap_alloc_last w _)];rfl⟩
theorem D5v.set{w:World}{g h:Nat}{x y z:Nat}(k:D5v w g x y z)(hne:g≠h)(o:Nat)(v:Value):D5v (w.setCell ⟨h,o,none⟩ v) g x y z:=by
 have key:∀i,(w.setCell ⟨h,o,none⟩ v).cell? ⟨g,i,none⟩=w.cell? ⟨g,i,none⟩:=fun i=>by unfold World.cell?;rw[B1v hne]
 exact⟨by rw[key];exact k.c0,by rw[key];exact k.c1,by rw[key];exact k.c2⟩
def D3m(w:World)(e:Ending)(w':World):Prop:=e= .returned (.agg (A8g A0q))∧Below w.heap.size w w'
theorem B4x(w:World):Calls Tryz.prog 98 #[] w (D3m w):=by
 have hz:=D6q;go_enter Tryz.func98,Tryz.ntmps98
 go_wp2_with fail
 clear hz;refine(C9r _).mono ?_;rintro e w1 ⟨rfl,hsp,hb1,hz1⟩;have hsz:((w.alloc (.cells zs8 164)).alloc (.cells zs8 164)).heap.size=w.heap.size+2:=by simp
 rw[hsz]at hsp
 have HF:=Lib.hid (show FW w w1 (B8a 0)from⟨by
   rw[hb1.block _ (by simp;omega),Below.heap_alloc _ _ _ (by simp)];exact heap_alloc_last w _,by
   rw[hb1.block _ (by simp)];have:=heap_alloc_last (w.alloc (.cells zs8 164)) (.cells zs8 164);rw[show(w.alloc (.cells zs8 164)).heap.size=w.heap.size+1 by simp]at this
   rw[show B8a 0=(fun _=>0)from rfl,C8z];exact this,hsp,(((Below.refl _ _).alloc (Nat.le_refl _) _).alloc (by simp) _).trans (hb1.mono (by simp;omega))⟩)
 clear hsp hb1 hz1 hsz
 go_wp2_with fail
 go_loopg [7] 38 (fun gn i wr=>∃k:Nat,k≤38∧gn=38-k∧i= .int .i64 k∧Hid (FW w wr (B8a k)))
 case atStart=>exact⟨0,by omega,rfl,by go_num,HF⟩
 case round=>
  obtain⟨k,hk,rfl,rfl,HF⟩:=hrel;by_cases hlt:k<38
  ·obtain⟨b,off,ha,_,hc⟩:=HF.out.sp.2 (by decide);simp only[Option.some.injEq,Addr.mk.injEq,and_true]at ha;obtain⟨rfl,rfl⟩:=ha;have hkl:k<B1m.length:=hlt
   have q0:=hc k hkl 0 (by decide);have q1:=hc k hkl 1 (by decide);have q2:=hc k hkl 2 (by decide);have hok:=C0e B1m[k] (List.getElem_mem hkl);have HN:=Lib.hid (C5r k hkl);clear hc
   generalize hs:B1m[k]=s at*;obtain⟨x,y,z⟩:=s;simp only at hok
   have r0:wr.cell? ⟨w.heap.size+1+1,k*3,none⟩=some (.int .u8 (x:Nat)):=by rw[Nat.zero_add,Nat.add_zero]at q0;exact q0
   have r1:wr.cell? ⟨w.heap.size+1+1,k*3+1,none⟩=some (.int .u8 (y:Nat)):=by rw[Nat.zero_add]at q1;exact q1
   have r2:wr.cell? ⟨w.heap.size+1+1,k*3+2,none⟩=some (.int .i64 (z:Nat)):=by rw[Nat.zero_add]at q2;exact q2
   clear q0 q1 q2;clear hs;have k1:(k:Int)<38:=by omega
   go_upto_region 5 with fail
   have HS:=Lib.hid (D5v.new wr x y z 208);have HFa:=Lib.hid (HF.out.below ((Below.refl _ _).alloc (Nat.le_refl _) (.cells #[.int .u8 (x:Nat),.int .u8 (y:Nat),.int .i64 (z:Nat)] 208)))
   have hg:w.heap.size+1<wr.heap.size:=by have:=(Array.getElem?_eq_some_iff.1 HF.out.t).1;omega
   clear r0 r1 r2;generalize hW:wr.alloc (.cells #[.int .u8 (x:Nat),.int .u8 (y:Nat),.int .i64 (z:Nat)] 208)=W at*;clear hW;obtain⟨p0,p1,p2⟩:=HS.out
   go_wp2_with fail
   clear p0 p1 p2;generalize wr.heap.size=g at*
   go_loopg [4] (y+1-x) (fun gn i wx=>∃j:Nat,x≤j∧j≤y+1∧gn=y+1-j∧i= .int .i64 j∧Hid (FW w wx (B9b (B8a k) x j z))∧Hid (D5v wx g x y z))
   case atStart=>exact⟨x,by omega,by omega,rfl,by go_num,Lib.hid (by rw[C3p];exact HFa.out),HS⟩
   case round=>
    obtain⟨j,hj1,hj2,rfl,rfl,HW,HX⟩:=hrel;obtain⟨p0,p1,p2⟩:=HX.out;by_cases hjt:j<y+1
    ·have e1:decide ((j:Int)≤y)=true:=by simp;omega
     obtain⟨c0,f0⟩:=HW.out.cell j (by omega);have j1:(j:Int)<256:=by omega
     have z1:(z:Int)<256:=by omega
     go_wp2_with fail
     go_roundg (y+1-(j+1))
     case measure=>omega
     case rel=>exact⟨j+1,by omega,by omega,rfl,by go_num,Lib.hid (by rw[←C7s _ _ _ _ hj1];exact HW.out.set j z),Lib.hid (HX.out.set (by omega) j _)⟩
    ·have e1:decide ((j:Int)≤y)=false:=by simp;omega
     obtain rfl:j=y+1:=by omega
     go_wp2_with fail
     go_roundg (38-(k+1))
     case measure=>omega
     case rel=>exact⟨k+1,by omega,rfl,by go_num,Lib.hid (by rw[HN.out,←C8i];exact HW.out)⟩
  ·obtain rfl:k=38:=by omega
   have H:=Lib.hid HF.out.t;have H0:=Lib.hid HF.out.z
   go_wp2_with (first
    |(refine wpList_load_row rfl _ _ rfl _ rfl _ _ _ _ H.out Tryz.underlying164 rfl (by rw[A3s];exact B1a) ?_)
    |(refine wpList_store_row rfl _ _ _ rfl _ _ rfl rfl _ _ H0.out (by rw[A3s];exact B1a) (by simp[A3s,zs8]) (B7m _) ?_))
   refine bodyPost_ret (v:= .agg (A8g A0q)) (results_cell_row rfl _ _ w.heap.size _ _ _ _ rfl (setRow_heap _ _ _ _ _ _ H0.out) Tryz.underlying164 rfl (by rw[A3s];exact B1a)) rfl ⟨rfl,below_setRow HF.out.b (Nat.le_refl _) _⟩
end
end Go.Proofs.YtclpkipaehpkdaaGreatDoor
