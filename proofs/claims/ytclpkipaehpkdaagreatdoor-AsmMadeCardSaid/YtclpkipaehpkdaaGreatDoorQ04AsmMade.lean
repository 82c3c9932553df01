/- asm -/
import Derived.Test.YtclpkipaehpkdaaGreatDoorQ00AsmMade
import Derived.StillTail
import Derived.Test.YtclpkipaehpkdaaGreatDoorQ01AsmMade
import Derived.Lib.Split
import Derived.Lib.CutLaws
import Derived.Lib.ConvBytes
set_option linter.unusedVariables false
set_option linter.unusedSimpArgs false
set_option maxRecDepth 100000
set_option maxHeartbeats 64000000
namespace Go.Proofs.YtclpkipaehpkdaaGreatDoor
section
open Go.RowKit
section
variable {P:Program} {ops:Array Oper} {Q:Exit->Act->World->Prop} {md:Region.Mode} {S:World->Prop}
def B8a(P:Program)(md:Region.Mode)(ops:Array Oper)(Q:Exit->Act->World->Prop)(S:World->Prop)(n:Nat):Nat->Array Bool->Act->World->Prop
 |0,listed,a,w=>Region.ready md ops listed=[]/\Q .normal a w
 |fuel+1,listed,a,w=>(Region.ready md ops listed=[]->Q .normal a w)/\
  ∀i∈Region.ready md ops listed,wpOp P ops Q i (fun a' w'=>(i≠n->S w')/\B8a P md ops Q S n fuel (listed.setIfInBounds i true) a' w') a w
theorem B6f{n:Nat}:∀(fuel:Nat) (listed:Array Bool) (a:Act) (w:World),B8a P md ops Q S n fuel listed a w->wpAny P md ops Q fuel listed a w
 |0,_,_,_,h=>h
 |fuel+1,_,_,_,h=>⟨h.1,fun i hi=>wpOp_mono (fun a' w' h'=>B6f fuel _ a' w' h'.2) (h.2 i hi)⟩
theorem B2q{n i:Nat}{oi:Oper}{v:Value}(hsk:Region.sinkB md ops n=true)(hch:Region.chainB md ops n=true)(hn:ops.size=n+1)(hin:i<n)
  (hi:ops[i]? =some oi) (hsel:∀(j:Nat) (o:Oper) cs b,ops[j]? =some o->o.op≠ .select cs b)
  (hQ:∀c a w,Q (.panic c) (a.put oi.dst v) w->Q (.panic c) a w):
  ∀(fuel:Nat) (listed:Array Bool) (a:Act) (w:World),HeadInv md ops n listed->
   (∀j oj,ops[j]? =some oj->j≠i->listed.getD j true=false->(∀e∈oj.after,Region.binds md e=true->e.on≠i)->oi.apart ops oj=true)->
   i∈Region.ready md ops listed->YieldsIf P ops S oi v a->S w->
   B8a P md ops Q S n fuel (listed.setIfInBounds i true) (a.put oi.dst v) w->B8a P md ops Q S n (fuel+1) listed a w:=by
 intro fuel
 induction fuel with
 |zero=>
  intro listed a w _ _ hr hy hS H
  refine⟨fun h=>(by rw[h]at hr;cases hr),fun j hj=> ?_⟩
  by_cases hji:j=i
  ·subst hji;exact hy.wpOp hi hS ⟨fun _=>hS,H⟩
  have:=ready_mono hj hji;rw[H.1]at this
  cases this
 |succ fuel ih=>
  intro listed a w inv hfree hr hy hS H
  refine⟨fun h=>(by rw[h]at hr;cases hr),fun j hj=> ?_⟩
  by_cases hji:j=i
  ·subst hji;exact hy.wpOp hi hS ⟨fun _=>hS,H⟩
  have h1:=H.2 j (ready_mono hj hji);obtain⟨hjun,oj,hoj,hall⟩:=mem_ready.1 hj
  have hnot:∀e∈oj.after,Region.binds md e=true->e.on≠i:=fun e he hb heq=>by
   have h1:=hall e he hb;have h0:=(mem_ready.1 hr).1;rw[heq,getD_both h0]at h1
   cases h1
  have hjs:j<ops.size:=(Array.getElem?_eq_some_iff.1 hoj).1;have hjn:j≠n:=fun e=>tail_waits hsk hch (by omega) inv (n-i) i rfl hin (mem_ready.1 hr).1 j (by omega) hj
  have h2:=wpOp_putIf hoj (hfree j oj hoj hji hjun hnot) (fun cs b=>hsel i oi cs b hi) (fun cs b=>hsel j oj cs b hoj) hQ hy h1
  have hfree':∀k ok,ops[k]? =some ok->k≠i->(listed.setIfInBounds j true).getD k true=false->
    (∀e∈ok.after,Region.binds md e=true->e.on≠i)->oi.apart ops ok=true:=fun k ok hk hki hun hno=>by
   refine hfree k ok hk hki ?_ hno;by_cases hjk:j=k
   ·subst hjk;exact hjun
   ·rw[getD_set_ne true hjk]at hun;exact hun
  refine wpOp_mono (fun a' w' h3=>⟨fun _=>h3.2.1 hjn,ih (listed.setIfInBounds j true) a' w' (inv.set hj (by omega)) hfree' (ready_mono hr (Ne.symm hji)) h3.1 (h3.2.1 hjn) ?_⟩) h2
  rw[Array.setIfInBounds_comm _ _ hji];exact h3.2.2
def B5v(P:Program)(ops:Array Oper)(Q:Exit->Act->World->Prop)(n:Nat)(a:Act)(w:World):Prop:=
 match ops[n]? with
 |none=>False
 |some o=>if Region.wanted o (yielded ops a.tmps)=true then o.wp P a w (fun a' w'=>Q .normal a' w') Q else Q .normal (a.put o.dst undef) w
def B4k(P:Program)(ops:Array Oper)(Q:Exit->Act->World->Prop)(S:World->Prop)(n:Nat):List (Nat×Bool)->Act->World->Prop
 |[],a,w=>B5v P ops Q n a w
 |(i,b)::l,a,w=>A4n P ops Q S i b (B4k P ops Q S n l) a w
def A9j(ops:Array Oper)(n:Nat):Array Bool->List (Nat×Bool)->Bool
 |listed,[]=>Region.ready .any ops listed==[n]&&(Region.ready .any ops (listed.setIfInBounds n true)).isEmpty
 |listed,(i,b)::l=>decide (i<n)&&(if b then Region.free .any ops listed i&&(Region.ready .any ops listed).contains i else Region.ready .any ops listed==[i])&&A9j ops n (listed.setIfInBounds i true) l
theorem C4y{n:Nat}(hs:Region.noSelect ops=true)(hQ:∀c a d v w,Q (.panic c) (a.put d v) w->Q (.panic c) a w)(hsk:Region.sinkB .any ops n=true)(hch:Region.chainB .any ops n=true)(hn:ops.size=n+1):
  ∀(l:List (Nat×Bool)) (listed:Array Bool) (a:Act) (w:World),HeadInv .any ops n listed->A9j ops n listed l=true->B4k P ops Q S n l a w->B8a P .any ops Q S n (l.length+1) listed a w:=by
 intro l
 induction l with
 |nil=>
  intro listed a w inv hc h;simp only[A9j,Bool.and_eq_true,beq_iff_eq]at hc
  refine⟨fun h0=>(by rw[hc.1]at h0;cases h0),fun j hj=> ?_⟩
  rw[hc.1]at hj;obtain rfl:j=n:=by simpa using hj
  change B5v P ops Q j a w at h;unfold B5v at h;unfold wpOp
  cases ho:ops[j]? with
  |none=>rw[ho]at h;exact h.elim
  |some o=>
  rw[ho]at h;simp only at h⊢;by_cases hw:Region.wanted o (yielded ops a.tmps)=true
  ·rw[if_pos hw]at h;simp only[hw,if_true];exact .inl (Oper.wp_mono (fun a' w' h'=>⟨fun hne=>absurd rfl hne,by simpa using hc.2,h'⟩) h)
  rw[if_neg hw]at h;simp only[hw];exact⟨fun hne=>absurd rfl hne,by simpa using hc.2,h⟩
 |cons p l ih=>
  obtain⟨i,b⟩:=p;intro listed a w inv hc h;simp only[A9j,Bool.and_eq_true,decide_eq_true_eq]at hc;obtain⟨⟨hin,hc1⟩,hc2⟩:=hc;change A4n P ops Q S i b (B4k P ops Q S n l) a w at h
  unfold A4n at h
  cases ho:ops[i]? with
  |none=>rw[ho]at h;exact h.elim
  |some o=>
  rw[ho]at h;simp only at h
  cases b with
  |true=>
   simp only[if_true,Bool.and_eq_true]at hc1;obtain⟨hf,hr⟩:=hc1;have hr':i∈Region.ready .any ops listed:=by simpa using hr
   by_cases hw:Region.wanted o (yielded ops a.tmps)=true
   ·rw[if_pos hw]at h;obtain⟨v,h1,h2,h3⟩:=h
    exact B2q hsk hch hn hin ho (Region.noSelect_spec hs) (fun c a w=>hQ c a _ _ w) _ listed a w inv (Region.free_spec ho hf) hr' (.inl ⟨hw,h1⟩) h2 (ih _ _ _ (inv.set hr' hin) hc2 h3)
   rw[if_neg hw]at h
   exact B2q hsk hch hn hin ho (Region.noSelect_spec hs) (fun c a w=>hQ c a _ _ w) _ listed a w inv (Region.free_spec ho hf) hr' (.inr ⟨by simpa using hw,rfl⟩) h.1 (ih _ _ _ (inv.set hr' hin) hc2 h.2)
  |false=>
  simp only[Bool.false_eq_true,if_false,beq_iff_eq]at hc1
  refine⟨fun h0=>(by rw[hc1]at h0;cases h0),fun j hj=> ?_⟩
  have hj0:=hj;rw[hc1]at hj;obtain rfl:j=i:=by simpa using hj
  unfold wpOp;rw[ho];simp only;by_cases hw:Region.wanted o (yielded ops a.tmps)=true
  ·rw[if_pos hw]at h;simp only[hw,if_true];exact .inl (Oper.wp_mono (fun a' w' h'=>⟨fun _=>h'.1,ih _ _ _ (inv.set hj0 hin) hc2 h'.2⟩) h)
  rw[if_neg hw]at h;simp only[hw];exact⟨fun _=>h.1,ih _ _ _ (inv.set hj0 hin) hc2 h.2⟩
theorem A0t{id:Nat}{a:Act}{w:World}(S:World->Prop)(n:Nat)(l:List (Nat×Bool))(hm:P.follows .mixedOrders=true)
  (hc:(Region.noSelect ops&&(ops.size==n+1)&&(l.length==n)&&Region.sinkB .any ops n&&Region.chainB .any ops n&&A9j ops n (Array.replicate ops.size false) l)=true) (hQ:∀c a d v w,Q (.panic c) (a.put d v) w->Q (.panic c) a w)
  (h:B4k P ops Q S n l a w.drew):(Code.region id ops true).wp P Q a w:=by
 simp only[Bool.and_eq_true,beq_iff_eq]at hc;obtain⟨⟨⟨⟨⟨hs,hl⟩,hl2⟩,hsk⟩,hch⟩,hk⟩:=hc
 have inv0:HeadInv .any ops n (Array.replicate ops.size false):=
  ⟨by simp,fun j oj _ hl=>(by rw[getD_replicate_false]at hl;cases hl),fun t _ ht=>getD_in (by simpa using ht) (getD_replicate_false _ _)⟩
 have:=C4y (P:=P) (Q:=Q) (S:=S) hs hQ hsk hch hl l _ a _ inv0 hk h;rw[hl2,<-hl]at this;exact wp_region_any hm (B6f _ _ _ _ this)
theorem A0d{n i:Nat}{b:Bool}{l:List (Nat×Bool)}{a:Act}{w:World}
  (h:∀K:Act->World->Prop,(∀a w,B4k P ops Q S n l a w->K a w)->A4n P ops Q S i b K a w):B4k P ops Q S n ((i,b)::l) a w:=h _ (fun _ _ h=>h)
theorem A1u{n:Nat}{a:Act}{w:World}(h:B5v P ops Q n a w):B4k P ops Q S n [] a w:=h
end
end
section
open Go.ChangeShapes Go.WideShapes Go.ChangeAt Go.RowKit
structure VW(w:World):Prop where
 m:∃m,w.cell? ⟨0,0,none⟩=some (.int .i64 m)
theorem B5s{w w':World}{a:Addr}{v:Value}(h:w.cell? a=some v)(hb:Below w.heap.size w w'):w'.cell? a=some v:=by
 have hlt:a.block<w.heap.size:=by
  rcases Nat.lt_or_ge a.block w.heap.size with h1|h1
  ·exact h1
  exfalso;have:w.heap[a.block]? =none:=Array.getElem?_eq_none (by omega);simp[World.cell?,this]at h
 rw[<-h];unfold World.cell?;rw[hb.block _ hlt]
theorem VW.below{w w':World}(h:VW w)(hb:Below w.heap.size w w'):VW w':=by
 obtain⟨m,hm⟩:=h;exact⟨m,B5s hm hb⟩
theorem A5b(w:World):∀n,Below w.heap.size w (w.drewN n)
 |0=>brz
 |n+1=>(A5b w n).drew
theorem C7c(w:World):∀n,(w.drewN n).heap=w.heap
 |0=>rfl
 |n+1=>C7c w n
theorem B8e(s:ByteArray):(⟨s.data.toList.toArray⟩:ByteArray)=s:=by cases s;simp
def sp(c:UInt8):List UInt8->List (List UInt8)
 |[]=>[[]]
 |b::l=>if b=c then []::sp c l else match sp c l with|[]=>[[b]]|x::xs=>(b::x)::xs
theorem A6i(c:UInt8):Lib.index [] [c]= -1:=by unfold Lib.index;simp
theorem A7j(b c:UInt8)(l:List UInt8):Lib.index (b::l) [c]=if b=c then 0 else if Lib.index l [c]= -1 then-1 else Lib.index l [c]+1:=by
 rw[Lib.index];by_cases h:b=c
 ·subst h;simp
 have:¬c=b:=fun e=>h e.symm
 simp[h,this]
theorem C8z(c:UInt8):∀s,Lib.index s [c]= -1->sp c s=[s]
 |[],_=>rfl
 |b::l,h=>by
  rw[A7j]at h;split at h
  ·cases h
  next hb=>
  have hg:=Lib.index_ge l [c];split at h
  ·next h1=>simp[sp,hb,C8z c l h1]
  omega
theorem D5a(c:UInt8):∀s (i:Nat),Lib.index s [c]=i->sp c s=s.take i::sp c (s.drop (i+1))
 |[],i,h=>by rw[A6i]at h;omega
 |b::l,i,h=>by
  rw[A7j]at h;split at h
  ·next hb=>
         have:i=0:=by omega
         subst this;simp[sp,hb]
  next hb=>
  have hg:=Lib.index_ge l [c];split at h
  ·omega
  obtain⟨k,rfl⟩:∃k,i=k+1:=⟨i-1,by omega⟩;simp[sp,hb,D5a c l k (by omega)]
theorem D4c(c:UInt8):∀(n:Nat) (s:List UInt8),s.length<=n->Lib.splitK [c] 0 (Lib.count s [c]) s=sp c s/\(sp c s).length=Lib.count s [c]+1:=by
 intro n
 induction n with
 |zero=>
  intro s h;have:s=[]:=List.eq_nil_of_length_eq_zero (by omega);subst this;rw[Lib.count_miss (A6i c)];exact⟨rfl,rfl⟩
 |succ n ih=>
  intro s h;by_cases h1:Lib.index s [c]= -1
  ·rw[Lib.count_miss h1,C8z c s h1];exact⟨rfl,rfl⟩
  have hg:=Lib.index_ge s [c];obtain⟨i,hi⟩:∃i:Nat,Lib.index s [c]=i:=⟨(Lib.index s [c]).toNat,by omega⟩
  have hne:0<s.length:=by
   rcases Nat.eq_zero_or_pos s.length with h0|h0
   ·have:s=[]:=List.eq_nil_of_length_eq_zero h0;subst this;exact absurd (A6i c) h1
   exact h0
  obtain⟨e1,e2⟩:=ih (s.drop (i+1)) (by rw[List.length_drop];omega);rw[Lib.count_hit (by simp) hi,D5a c s i hi];constructor
  ·rw[Nat.add_comm,Lib.splitK,if_neg (by simp[hi]),hi];simp only[Int.toNat_natCast,Nat.add_zero,List.length_singleton];rw[e1]
  simp only[List.length_cons,List.length_nil,Nat.zero_add];rw[e2];omega
theorem C9z(w:World)(s:List UInt8)(c:UInt8)(hs:s.length<=4294967000)(hv:VW w):
  Calls Tryz.prog 84 #[.string ⟨s.toArray⟩,.string ⟨#[c]⟩] w fun e w'=>
   e= .returned (.slice (some ⟨w.heap.size,0,none⟩) (sp c s).length (sp c s).length)/\w'=w.alloc (.cells ((sp c s).map fun x=>Value.string ⟨x.toArray⟩).toArray 9):=by
 obtain⟨m,hm⟩:=hv.m;refine(Tryz.strings_Split ⟨s.toArray⟩ ⟨#[c]⟩ m w (by simp[ByteArray.size];omega) hm (Nat.le_refl 1)).mono ?_;rintro e w' ⟨rfl,rfl⟩;obtain⟨e1,e2⟩:=D4c c s.length s nlz
 have e3:=Lib.splitB_data ⟨#[c]⟩ 0 (Lib.countB ⟨s.toArray⟩ ⟨#[c]⟩) ⟨s.toArray⟩
 have e4:(Lib.splitB ⟨#[c]⟩ 0 (Lib.countB ⟨s.toArray⟩ ⟨#[c]⟩) ⟨s.toArray⟩).map Value.string=(sp c s).map fun x=>Value.string ⟨x.toArray⟩:=by
  rw[<-e1];rw[show Lib.splitK [c] 0 (Lib.count s [c]) s=_ from e3.symm,List.map_map];refine List.map_congr_left fun x _=> ?_
  simp[B8e]
 rw[e2];exact⟨rfl,by rw[e4]⟩
theorem C4k(c:UInt8)(s:List UInt8)(h:Lib.index s [c]= -1):Lib.cut s [c]=(s,[],false):=by unfold Lib.cut;rw[if_neg (by omega)]
theorem C8t(c:UInt8)(s:List UInt8)(i:Nat)(h:Lib.index s [c]=i):Lib.cut s [c]=(s.take i,s.drop (i+1),true):=by unfold Lib.cut;rw[if_pos (by omega),h];simp
theorem D7b(w:World)(s:List UInt8)(c:UInt8)(hs:s.length<=4294967000)(hv:VW w):
  Calls Tryz.prog 96 #[.string ⟨s.toArray⟩,.string ⟨#[c]⟩] w fun e w'=>
   e= .returned (.tuple #[.string ⟨(Lib.cut s [c]).1.toArray⟩,.string ⟨(Lib.cut s [c]).2.1.toArray⟩,.bool (Lib.cut s [c]).2.2])/\Below w.heap.size w w'/\w'.heap=w.heap:=by
 obtain⟨m,hm⟩:=hv.m;refine(Tryz.strings_Cut ⟨s.toArray⟩ ⟨#[c]⟩ m w (by simp[ByteArray.size];omega) hm).mono ?_;rintro e w' ⟨rfl,n,rfl⟩;exact⟨rfl,A5b w n,C7c w n⟩
theorem C9v(xs ys:List UInt8):((⟨xs.toArray⟩:ByteArray)++(⟨ys.toArray⟩:ByteArray))=⟨(xs++ys).toArray⟩:=by
 apply ByteArray.ext;simp
theorem B5h(w:World)(bs:List UInt8):∃c w1,(convert 9 43 (.string ⟨bs.toArray⟩)).run Tryz.prog w= .ok (.slice (some ⟨w.heap.size,0,none⟩) bs.length c) w1/\
  Sl A5f w1 (some ⟨w.heap.size,0,none⟩) bs.length bs/\bs.length<=c/\Below w.heap.size w w1/\w1.heap.size=w.heap.size+1:=by
 have hr:=Lib.run_convert_string_bytes (P:=Tryz.prog) w 9 43 5 ⟨bs.toArray⟩ Tryz.underlying9 Tryz.underlying43 Tryz.underlying5;have hsz:(⟨bs.toArray⟩:ByteArray).size=bs.length:=by simp[ByteArray.size]
 rw[hsz]at hr
 refine⟨_,_,hr,⟨rfl,fun _=>⟨w.heap.size,0,rfl,by rw[Lib.bytesWorld_size];omega,fun i hi=> ?_⟩⟩,grownCap_ge _ _ _ _,⟨?_,?_,?_,by rw[Lib.bytesWorld_size];omega,fun k hk=>Lib.bytesWorld_at_old _ _ _ _ hk⟩,Lib.bytesWorld_size _ _ _⟩
 ·rw[Nat.zero_add,Lib.bytesWorld_cell _ _ _ i (by rw[hsz];exact hi)];simp[List.getD,hi,A5f]
 ·simp[Lib.bytesWorld,World.freeze,World.alloc,World.drew,-World.alloc_eq,-World.drew_eq]
 ·simp[Lib.bytesWorld,World.freeze,World.alloc,World.drew,-World.alloc_eq,-World.drew_eq]
 simp[Lib.bytesWorld,World.freeze,World.alloc,World.drew,-World.alloc_eq,-World.drew_eq]
structure E1j(w w1:World)(g:Nat)(x y z:Value):Prop where
 c0:w1.cell? ⟨g,0,none⟩=some x
 c1:w1.cell? ⟨g,1,none⟩=some y
 c2:w1.cell? ⟨g,2,none⟩=some z
 f0:w1.frozen? ⟨g,0,none⟩=false
 f1:w1.frozen? ⟨g,1,none⟩=false
 f2:w1.frozen? ⟨g,2,none⟩=false
 lt:g<w1.heap.size
theorem E1j.of{w w1:World}{g:Nat}{x y z:Value}{t:TypeId}(h:w.heap[g]? =some (.cells #[x,y,z] t))(hb:Below w.heap.size w w1):E1j w w1 g x y z:=by
 have hlt:g<w.heap.size:=(Array.getElem?_eq_some_iff.1 h).1;have hg:w1.heap[g]? =some (.cells #[x,y,z] t):=by rw[hb.block _ hlt];exact h
 refine⟨?_,?_,?_,?_,?_,?_,(Array.getElem?_eq_some_iff.1 hg).1⟩
 ·rw[cell_of_row w1 _ 0 _ _ _ hg];rfl
 ·rw[cell_of_row w1 _ 1 _ _ _ hg];rfl
 ·rw[cell_of_row w1 _ 2 _ _ _ hg];rfl
 all_goals (unfold World.frozen?;rw[hg];rfl)
theorem A1k{w:World}{g:Nat}{cs:Array Value}{t:TypeId}{fr:Nat×Nat}(h:w.heap[g]? =some (.cells cs t fr))(o:Nat)(v:Value):(w.setCell ⟨g,o,none⟩ v).heap[g]? =some (.cells (cs.setIfInBounds o v) t fr):=by
 unfold World.setCell;simp[Array.getElem?_modify,h]
def C6z(w:World)(g:Nat)(x y z:Value)(t:TypeId):Prop:=w.heap[g]? =some (.cells #[x,y,z] t)
theorem C6z.below{w w1:World}{g:Nat}{x y z:Value}{t:TypeId}(h:C6z w g x y z t)(hb:Below w.heap.size w w1):C6z w1 g x y z t:=by
 unfold C6z;rw[hb.block _ (Array.getElem?_eq_some_iff.1 h).1];exact h
theorem C6z.box{w:World}{g:Nat}{x y z:Value}{t:TypeId}(h:C6z w g x y z t):E1j w w g x y z:=E1j.of h brz
structure E2g(w:World)(g:Nat)(x y:Value):Prop where
 c0:w.cell? ⟨g,0,none⟩=some x
 c1:w.cell? ⟨g,1,none⟩=some y
 f0:w.frozen? ⟨g,0,none⟩=false
 f1:w.frozen? ⟨g,1,none⟩=false
 lt:g<w.heap.size
def A8w(w:World)(g:Nat)(x y:Value)(t:TypeId):Prop:=w.heap[g]? =some (.cells #[x,y] t)
theorem A8w.box{w:World}{g:Nat}{x y:Value}{t:TypeId}(h:A8w w g x y t):E2g w g x y:=by
 unfold A8w at h;refine⟨?_,?_,?_,?_,(Array.getElem?_eq_some_iff.1 h).1⟩
 ·rw[cell_of_row w _ 0 _ _ _ h];rfl
 ·rw[cell_of_row w _ 1 _ _ _ h];rfl
 all_goals (unfold World.frozen?;rw[h];rfl)
theorem A8w.belowB{w w1:World}{B g:Nat}{x y:Value}{t:TypeId}(h:A8w w g x y t)(hb:Below B w w1)(hlt:g<B):A8w w1 g x y t:=by
 unfold A8w;rw[hb.block _ hlt];exact h
theorem A8w.below{w w1:World}{g:Nat}{x y:Value}{t:TypeId}(h:A8w w g x y t)(hb:Below w.heap.size w w1):A8w w1 g x y t:=h.belowB hb (Array.getElem?_eq_some_iff.1 h).1
theorem A8w.other{w:World}{g h o:Nat}{x y v:Value}{t:TypeId}(k:A8w w g x y t)(hne:g≠h):A8w (w.setCell ⟨h,o,none⟩ v) g x y t:=by
 unfold A8w World.setCell;have hne':¬h=g:=fun e=>hne e.symm
 simp[Array.getElem?_modify,hne'];exact k
theorem A8w.set0{w:World}{g:Nat}{x y v:Value}{t:TypeId}(h:A8w w g x y t):A8w (w.setCell ⟨g,0,none⟩ v) g v y t:=A1k h 0 v
theorem A8w.set1{w:World}{g:Nat}{x y v:Value}{t:TypeId}(h:A8w w g x y t):A8w (w.setCell ⟨g,1,none⟩ v) g x v t:=A1k h 1 v
structure A1e(g:Nat)(w w':World):Prop where
 os:w'.os=w.os
 tape:w'.tape=w.tape
 output:w'.output=w.output
 size:w.heap.size<=w'.heap.size
 block:∀k,k<w.heap.size->k≠g->w'.heap[k]? =w.heap[k]?
theorem A1e.refl(g:Nat)(w:World):A1e g w w:=⟨rfl,rfl,rfl,Nat.le_refl _,fun _ _ _=>rfl⟩
theorem A1e.trans{g:Nat}{w w1 w2:World}(h:A1e g w w1)(k:A1e g w1 w2):A1e g w w2:=
 ⟨k.os.trans h.os,k.tape.trans h.tape,k.output.trans h.output,Nat.le_trans h.size k.size,fun i hi hg=>by rw[k.block i (Nat.lt_of_lt_of_le hi h.size) hg,h.block i hi hg]⟩
theorem A1e.of{g:Nat}{w w1:World}(h:Below w.heap.size w w1):A1e g w w1:=⟨h.os,h.tape,h.output,h.size,fun k hk _=>h.block k hk⟩
theorem A1e.drewN{g:Nat}{w w1:World}(h:A1e g w w1)(n:Nat):A1e g w (w1.drewN n):=⟨h.os,h.tape,h.output,h.size,h.block⟩
theorem A1e.set{g:Nat}{w w1:World}(h:A1e g w w1)(o:Nat)(v:Value):A1e g w (w1.setCell ⟨g,o,none⟩ v):=
 ⟨h.os,h.tape,h.output,by have:=h.size;unfold World.setCell;simpa using this,fun k hk hg=>by
  rw[<-h.block k hk hg];unfold World.setCell;have hne':¬g=k:=fun e=>hg e.symm
  simp[Array.getElem?_modify,hne']⟩
theorem A1e.below{g B:Nat}{w0 w w':World}(h:A1e g w w')(hb:Below B w0 w)(hB:B<=w0.heap.size)(hg:B<=g):Below B w0 w':=
 ⟨h.os.trans hb.os,h.tape.trans hb.tape,h.output.trans hb.output,Nat.le_trans hb.size h.size,fun k hk=>by
  rw[h.block k (Nat.lt_of_lt_of_le (Nat.lt_of_lt_of_le hk hB) hb.size) (by omega)];exact hb.block k hk⟩
def B1t(x:Option Addr)(n g:Nat):Prop:=0<n->∀b off,x=some ⟨b,off,none⟩->b≠g
theorem B1t.new{x off n g:Nat}(h:g≠x):B1t (some ⟨x,off,none⟩) n g:=fun _ b o e=>by cases e;exact Ne.symm h
theorem Sl.keep1{α:Type}{enc:α->Value}{g:Nat}{w w':World}{x:Option Addr}{n:Nat}{xs:List α}(hs:Sl enc w x n xs)(h:A1e g w w')(h1:B1t x n g):Sl enc w' x n xs:=by
 refine⟨hs.1,fun hn=> ?_⟩;obtain⟨b,off,ha,hlt,hc⟩:=hs.2 hn;refine⟨b,off,ha,Nat.lt_of_lt_of_le hlt h.size,fun i hi=> ?_⟩;rw[<-hc i hi];unfold World.cell?;rw[h.block b hlt (h1 hn b off ha)]
theorem A3f{g:Nat}{w w':World}{B:Nat}{e:TypeId}{size:Nat}{v:Value}{n:Nat}{xs:List Value}(h:w.ownsRow B e size v n xs)(k:A1e g w w')(hg:g<B):w'.ownsRow B e size v n xs:=by
 refine⟨h.1,?_⟩
 rcases h.2 with⟨h1,h2⟩|⟨b,cap,cur,hv,hb,hc,r⟩
 ·exact .inl ⟨h1,h2⟩
 exact .inr ⟨b,cap,cur,hv,hb,by rw[k.block b (Array.getElem?_eq_some_iff.1 hc).1 (by omega)];exact hc,r⟩
def A2p(e:TypeId)(w w':World):Prop:=w.heap.size<=w'.heap.size/\∀(g:Nat) (cs:Array Value) (t:TypeId) (fr:Nat×Nat),w.heap[g]? =some (.cells cs t fr)->t≠e->w'.heap[g]? =some (.cells cs t fr)
theorem A0k{w w':World}{B:Nat}{e e':TypeId}{size:Nat}{v:Value}{n:Nat}{xs:List Value}(h:w.ownsRow B e size v n xs)(hk:A2p e' w w')(hne:e≠e'):w'.ownsRow B e size v n xs:=by
 refine⟨h.1,?_⟩
 rcases h.2 with⟨h1,h2⟩|⟨g,cap,cur,hv,hb,hg,r⟩
 ·exact .inl ⟨h1,h2⟩
 exact .inr ⟨g,cap,cur,hv,hb,hk.2 _ _ _ _ hg hne,r⟩
theorem C6g{w w':World}{B:Nat}{e t:TypeId}{size:Nat}{v:Value}{n g:Nat}{xs:List Value}{o:Obj}{cs:Array Value}{fr:Nat×Nat}(ho:w.ownsRow B e size v n xs)(hg:(w.alloc o).grownBy w' v.ownBlock)(hx:w.heap[g]? =some (.cells cs t fr))(hne:e≠t):w'.heap[g]? =some (.cells cs t fr):=by
 have hlt:=(Array.getElem?_eq_some_iff.1 hx).1;rw[hg.block g (by simp;omega) ?_,Below.heap_alloc _ _ _ hlt]
 ·exact hx
 intro he
 rcases ho.2 with⟨rfl,_⟩|⟨g2,cap,cur,rfl,_,hg2,_⟩
 ·simp[Value.ownBlock]at he
 simp[Value.ownBlock]at he;subst he;rw[hg2]at hx;simp at hx;exact hne hx.2.1
theorem A2p.app{w w':World}{B:Nat}{e:TypeId}{size:Nat}{v:Value}{n:Nat}{xs:List Value}{o:Obj}(ho:w.ownsRow B e size v n xs)(hg:(w.alloc o).grownBy w' v.ownBlock):A2p e w w':=by
 refine⟨?_,fun g cs t fr hx hne=>C6g ho hg hx (Ne.symm hne)⟩;have h:=hg.size;simp at h;omega
theorem A2p.refl{e:TypeId}(w:World):A2p e w w:=⟨Nat.le_refl _,fun _ _ _ _ h _=>h⟩
theorem A0a{w:World}{g:Nat}{C:Array Value}{t:TypeId}{fr:Nat×Nat}(h:w.heap[g]? =some (.cells C t fr))(k:Nat){v:Value}(hk:C[k]? =some v):w.cell? ⟨g,k,none⟩=some v:=by
 rw[cell_of_row w g k _ _ _ h];exact hk
theorem A0n{w:World}{g:Nat}{C:Array Value}{t:TypeId}(h:w.heap[g]? =some (.cells C t))(k:Nat):w.frozen? ⟨g,k,none⟩=false:=by
 unfold World.frozen?;rw[h];simp
theorem A0r{w:World}{g:Nat}{C:Array Value}{t:TypeId}{fr:Nat×Nat}(h:w.heap[g]? =some (.cells C t fr)):g<w.heap.size:=(Array.getElem?_eq_some_iff.1 h).1
theorem A0e{w w':World}{g:Nat}{o:Obj}(h:w.heap[g]? =some o)(hb:Below w.heap.size w w'):w'.heap[g]? =some o:=by rw[hb.block g (Array.getElem?_eq_some_iff.1 h).1];exact h
theorem A1p{w:World}{c:Nat}{cs:Array Value}{t:TypeId}{fr:Nat×Nat}(h:w.heap[c]? =some (.cells cs t fr))(o:Nat)(v:Value):A2p t w (w.setCell ⟨c,o,none⟩ v):=by
 refine⟨by unfold World.setCell;simp,fun i cs' t' fr' hi hne=> ?_⟩
 have hic:i≠c:=by
  rintro rfl;rw[h]at hi;simp at hi;exact hne hi.2.1.symm
 unfold World.setCell;have hne':¬c=i:=fun e=>hic e.symm
 simp[Array.getElem?_modify,hne',hi]
theorem A1r{w:World}{g h:Nat}{ob:Obj}(hg:w.heap[g]? =some ob)(hne:g≠h)(o:Nat)(v:Value):(w.setCell ⟨h,o,none⟩ v).heap[g]? =some ob:=by
 unfold World.setCell;have hne':¬h=g:=fun e=>hne e.symm
 simp[Array.getElem?_modify,hne',hg]
end
end Go.Proofs.YtclpkipaehpkdaaGreatDoor
