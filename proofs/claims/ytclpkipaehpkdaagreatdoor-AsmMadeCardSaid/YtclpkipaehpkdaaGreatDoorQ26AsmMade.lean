/- asm -/
import Derived.Test.YtclpkipaehpkdaaGreatDoorQ25AsmMade
import Derived.Test.YtclpkipaehpkdaaGreatDoorQ21AsmMade
set_option linter.unusedVariables false
set_option linter.unusedSimpArgs false
set_option maxRecDepth 100000
set_option maxHeartbeats 64000000
namespace Go.Proofs.YtclpkipaehpkdaaGreatDoor
section
open Go.ChangeShapes Go.WideShapes Go.ChangeAt Go.RowKit
structure B2v(u:UU):Prop where
 nm:A1b u.nm=true/\clM.contains u.nm=true
 su:A1b u.su=true/\clM.contains u.su=true
 fd:∀f∈u.fields,A5e f.nm=true/\typeB f.ds=true/\txM.contains f.nm=true/\txM.contains f.ds=true
 fn:u.fields.length<=64
 mt:∀m∈u.methods,B3r m/\A5e m.nm=true/\txM.contains m.nm=true
 mn:u.methods.length<=64
abbrev hiX:IN:=⟨18,0,0,[],[],[83],[104,105]⟩
abbrev D5t:LW:=⟨[kz],0⟩
abbrev C7u:LW:=⟨[kz,⟨1,0,0,0,[104,105]⟩,⟨8,1,0,0,[]⟩],0⟩
theorem D6m:(D5t.con hiX).1=C7u:=rfl
theorem D5x:(C7u.con hiX).1=C7u:=rfl
theorem B6h:∀(l:List IN),(∀x∈l,x.op=18->x=hiX)->C7u.consts1 l=C7u/\(D5t.consts1 l=C7u\/(D5t.consts1 l=D5t/\∀x∈l,x.op≠18))
 |[],_=>⟨rfl,.inr ⟨rfl,fun x hx=>by cases hx⟩⟩
 |x::l,h=>by
  obtain⟨a,b⟩:=B6h l (fun y hy=>h y (List.mem_cons_of_mem _ hy));rw[LW.consts1,LW.consts1];by_cases h18:x.op=18
  ·rw[if_pos h18,if_pos h18,h x List.mem_cons_self h18,D6m,D5x];exact⟨a,.inl a⟩
  rw[if_neg h18,if_neg h18];refine⟨a,?_⟩
  rcases b with b|⟨b,c⟩
  ·exact .inl b
  refine .inr ⟨b,fun y hy=> ?_⟩
  rcases List.mem_cons.1 hy with rfl|hy
  ·exact h18
  exact c y hy
theorem B8v:∀(l:List UM),(∀m∈l,∀x∈m.code,x.op=18->x=hiX)->C7u.consts l=C7u/\(D5t.consts l=C7u\/(D5t.consts l=D5t/\∀m∈l,∀x∈m.code,x.op≠18))
 |[],_=>⟨rfl,.inr ⟨rfl,fun x hx=>by cases hx⟩⟩
 |m::l,h=>by
  obtain⟨a,b⟩:=B8v l (fun y hy=>h y (List.mem_cons_of_mem _ hy));obtain⟨c,d⟩:=B6h m.code (h m List.mem_cons_self);rw[LW.consts,LW.consts,c];refine⟨a,?_⟩
  rcases d with d|⟨d,e⟩
  ·rw[d];exact .inl a
  rw[d]
  rcases b with b|⟨b,f⟩
  ·exact .inl b
  refine .inr ⟨b,fun y hy=> ?_⟩
  rcases List.mem_cons.1 hy with rfl|hy
  ·exact e
  exact f y hy
theorem D2d(t:LW)(h:C7u.l<+:t.l):(t.con hiX).2<=255:=by
 obtain⟨r,hr⟩:=h
 have h1:B2g t.l ⟨1,0,0,0,[104,105]⟩=some 1:=by
  rw[<-hr];unfold B2g;rw[List.findIdx?_append];rfl
 have h2:B2g t.l ⟨8,1,0,0,[]⟩=some 2:=by
  rw[<-hr];unfold B2g;rw[List.findIdx?_append];rfl
 have e1:t.text [104,105]=(t,1):=by
  unfold LW.text LW.put;rw[h1]
 unfold LW.con;rw[if_neg (fun h=>absurd h.1 (by decide)),if_pos ⟨rfl,rfl,rfl⟩];show(((t.text [104,105]).1).put ⟨8,((t.text [104,105]).2:Nat),0,0,[]⟩).2<=255;rw[e1]
 show(t.put ⟨8,1,0,0,[]⟩).2<=255;unfold LW.put;rw[h2];show 2<=255;omega
theorem B3r.meth{m:UM}(h:B3r m){s0:LW}(hs:(∃x∈m.code,x.op=18)->s0=C7u)(hn:A5e m.nm=true)(ht:txM.contains m.nm=true):B6j SM s0 m:=by
 have hp:=h.pos
 refine⟨hn,by rw[h.ds];decide,B0i ht,by rw[h.ds];exact B0i (by decide),B0i (by decide),fun _=>B0i (by decide),h.sz,⟨fun x hx=>(h.ins x hx).op,fun x hx=>(h.ins x hx).raw,fun x hx h18 t _ hpre=> ?_,fun x hx h7=> ?_,?_,?_⟩,fun t ht=> ?_,fun p hp'=> ?_,h.n1,h.n2⟩
 ·rw[(h.ins x hx).near h18];rw[hs ⟨x,hx,h18⟩]at hpre;exact D2d t hpre
 ·obtain⟨a,b⟩:=(h.ins x hx).go h7;unfold inB;exact decide_eq_true (by omega)
 ·rw[D1a];exact h.wt
 ·rw[D1a]
  cases hc:m.code with
  |nil=>rw[hc]at hp;exact absurd hp (by simp)
  |cons x l=>
  have:=(A4a (h.ins x (by rw[hc];exact List.mem_cons_self))).1;unfold wtX;rw[List.map_cons,List.sum_cons];omega
 ·have q:=h.tr t ht;have q1:=q.fr;have q2:=q.tt;have q3:=q.pl;refine⟨by omega,by omega,by omega,?_⟩
  rcases q.c with c|⟨c,d⟩
  ·exact .inl c
  exact .inr ⟨c,B4n d⟩
 have q:=h.mp p hp';have q1:=q.pl;exact⟨by omega,fun t ht=>D9v (q.loc t ht),fun t ht=>D9v (q.stk t ht),q.n1,q.n2⟩
theorem B2v.unit{u:UU}(h:B2v u):B8g SM u:=by
 refine⟨D9p,⟨h.nm.1,B4n h.nm.2⟩,.inr ⟨h.su.1,B4n h.su.2⟩,fun f hf=> ?_,h.fn,fun m hm=> ?_,h.mn⟩
 ·obtain⟨a,b,c,d⟩:=h.fd f hf;exact⟨a,b,B0i c,B0i d⟩
 obtain⟨a,b,c⟩:=h.mt m hm;refine a.meth (fun⟨x,hx,h18⟩=> ?_) b c;obtain⟨_,hd⟩:=B8v u.methods (fun m hm x hx h18=>((h.mt m hm).1.ins x hx).near h18)
 rcases hd with hd|⟨_,hd⟩
 ·exact hd
 exact absurd h18 (hd m hm x hx)
theorem D6d{x:IN}(h:B5a SM x):x.cl.length<=65536/\x.nm.length<=65536/\x.ds.length<=65536/\x.tx.length<=65536:=by
 cases h with
 |con h1 h2 h3=>
  obtain⟨a,b,c⟩:=h2;rw[a,b]
  cases h3 with
  |int h1 h2 h3 h4 h5=>rw[h1,h3];decide
  |str h1 h2 h3 h4 h5=>
   have:=h4.ok.2;rw[h1];exact⟨by decide,by decide,by decide,by omega⟩
  |long h1 h2 h3 h5=>rw[h1,h3];decide
 |wide h1 h2 h3=>
  cases h3 with
  |mem h1 h2 h3 h4 h5=>
   have a:=h5.c.ok.2;have b:=h5.n.ok.2;have c:=h5.d.ok.2;unfold A3d at h2;have d:=(of_decide_eq_true h2).2.2;rw[d];exact⟨by omega,by omega,by omega,by decide⟩
  |inv h0 h1 h2 h3 h4 h5=>
   have a:=h5.c.ok.2;have b:=h5.n.ok.2;have c:=h5.d.ok.2;unfold A3d at h2;have d:=(of_decide_eq_true h2).2.2;rw[d];exact⟨by omega,by omega,by omega,by decide⟩
  |cls h0 h1 h2 h3 h5=>
  have a:=h5.ok.2;unfold B0x at h2;obtain⟨_,_,b,c,d⟩:=of_decide_eq_true h2;rw[b,c,d];exact⟨by omega,by decide,by decide,by decide⟩
 |plain h1 h2 h3 h4 h5=>
 unfold A8v at h3;obtain⟨_,a,b,c,d⟩:=of_decide_eq_true h3;rw[a,b,c,d];decide
theorem C7t:slM.all (fun t=>decide (t.length<=65536))=true:=by decide
theorem B3r.fit{m:UM}(h:B3r m)(ht:txM.contains m.nm=true):m.Fit:=by
 have hl:m.code.length<=wtX m.code:=by
  have:∀l:List IN,(∀x∈l,MX (m.code.length-1) x)->l.length<=wtX l:=by
   intro l
   induction l with
   |nil=>intro _;exact Nat.le_refl _
   |cons x l ih=>
    intro hx;have h1:=A4a (hx x List.mem_cons_self);have h2:=ih (fun y hy=>hx y (List.mem_cons_of_mem _ hy));unfold wtX at h2⊢;rw[List.map_cons,List.sum_cons,List.length_cons];omega
  exact this _ h.ins
 have hw:=h.wt;have n1:=h.n1;have n2:=h.n2;refine⟨by have:=(B0i ht).ok.2;omega,by rw[h.ds];decide,by omega,fun x hx=> ?_,by omega,fun t ht=> ?_,by omega,fun p hp=> ?_⟩
 ·have q:=h.ins x hx;obtain⟨a,b,c,d⟩:=D6d q.raw;have e:=q.num;have f:=q.mb;exact⟨q.op,A1j (by omega),A1j (by omega),a,b,c,d⟩
 ·rcases(h.tr t ht).c with c|⟨c,d⟩
  ·rw[c];decide
  have:=(B4n d).ok.2;omega
 have q:=h.mp p hp;have q1:=q.n1;have q2:=q.n2
 exact⟨by omega,by omega,fun t ht=>of_decide_eq_true (List.all_eq_true.1 C7t t (List.contains_iff_mem.1 (q.loc t ht))),fun t ht=>of_decide_eq_true (List.all_eq_true.1 C7t t (List.contains_iff_mem.1 (q.stk t ht)))⟩
theorem B2v.fit{u:UU}(h:B2v u):u.Fit:=by
 have a:=h.fn;have b:=h.mn;refine⟨by have:=(B4n h.nm.2).ok.2;omega,by have:=(B4n h.su.2).ok.2;omega,by omega,fun f hf=> ?_,by omega,fun m hm=>(h.mt m hm).1.fit (h.mt m hm).2.2⟩
 obtain⟨_,_,c,d⟩:=h.fd f hf;have:=(B0i c).ok.2;have:=(B0i d).ok.2;exact⟨by omega,by omega⟩
end
section
open Go.ChangeShapes Go.WideShapes Go.ChangeAt Go.RowKit Go.Maps
abbrev B4v:=52
structure UnB(w:World)(B g:Nat)(u:UU):Prop where
 k:w.heap[g]? =some (.cells u.cells.toArray UnT (0,0))
 o:u.Own w B
theorem UM.Own.keep1{m:UM}{q:Nat}{w w':World}{B:Nat}(h:m.Own w B)(k:A1e q w w')(hq:q<B):m.Own w' B:=⟨A3f h.code k hq,A3f h.traps k hq,A3f h.maps k hq,fun p hp=>⟨A3f (h.each p hp).loc k hq,A3f (h.each p hp).stk k hq⟩⟩
theorem UM.Own.belowM{m:UM}{w w':World}{B:Nat}(h:m.Own w B)(hb:Below w.heap.size w w'):m.Own w' B:=⟨A0x h.code hb,A0x h.traps hb,A0x h.maps hb,fun p hp=>⟨A0x (h.each p hp).loc hb,A0x (h.each p hp).stk hb⟩⟩
theorem UnB.keep1{w w':World}{B g q:Nat}{u:UU}(h:UnB w B g u)(k:A1e q w w')(hq:q<B)(hg:B<=g):UnB w' B g u:=
 ⟨by rw[k.block g (A0r h.k) (by omega)];exact h.k,⟨A3f h.o.fields k hq,A3f h.o.methods k hq,fun m hm=>(h.o.each m hm).keep1 k hq⟩⟩
theorem UnB.below{w w':World}{B g:Nat}{u:UU}(h:UnB w B g u)(hb:Below w.heap.size w w'):UnB w' B g u:=
 ⟨A0e h.k hb,⟨A0x h.o.fields hb,A0x h.o.methods hb,fun m hm=>(h.o.each m hm).belowM hb⟩⟩
theorem UM.Own.keptU{m:UM}{w w':World}{B:Nat}(h:m.Own w B)(k:A2p UnT w w'):m.Own w' B:=h.keptT k (by decide) (by decide) (by decide) (by decide)
theorem UnB.keptU{w w':World}{B g g':Nat}{u:UU}(h:UnB w B g u)(k:A2p UnT w w')(hk:∀j,j≠g'->w'.heap[j]? =w.heap[j]?)(hne:g≠g'):UnB w' B g u:=
 ⟨by rw[hk g hne];exact h.k,⟨A0k h.o.fields k (by decide),A0k h.o.methods k (by decide),fun m hm=>(h.o.each m hm).keptU k⟩⟩
theorem A6q{w:World}{g:Nat}{cs:Array Value}(j:Nat)(h:j≠g):(w.setRow g cs).heap[j]? =w.heap[j]? :=by
 have hne:¬g=j:=fun e=>h e.symm
 unfold World.setRow;simp[Array.getElem?_modify,hne]
theorem B0r{w:World}{g o:Nat}{v:Value}(j:Nat)(h:j≠g):(w.setCell ⟨g,o,none⟩ v).heap[j]? =w.heap[j]? :=by
 have hne:¬g=j:=fun e=>h e.symm
 unfold World.setCell;simp[Array.getElem?_modify,hne]
theorem UnB.new{w:World}{B g:Nat}{cs:Array Value}{u:UU}(hg:w.heap[g]? =some (.cells cs UnT (0,0)))(ho:u.Own w B):UnB (w.setRow g u.cells.toArray) B g u:=
 ⟨setRow_heap _ _ _ _ _ _ hg,⟨A0k ho.fields (A1q hg) (by decide),A0k ho.methods (A1q hg) (by decide),fun m hm=>(ho.each m hm).keptU (A1q hg)⟩⟩
theorem UnB.meth{w:World}{B g:Nat}{u:UU}{a:Option Addr}{n c:Nat}{l:List UM}(h:UnB w B g u)(hm:w.ownsRow B MdT 8 (.slice a n c) n (l.flatMap UM.cells))(he:∀m∈l,m.Own w B):UnB (w.setCell ⟨g,3,none⟩ (.slice a n c)) B g {u with ma:=a,mn:=n,mc:=c,methods:=l}:=
 ⟨A1k h.k 3 _,⟨A0k h.o.fields (A1p h.k 3 _) (by decide),A0k hm (A1p h.k 3 _) (by decide),fun m hm=>(he m hm).keptU (A1p h.k 3 _)⟩⟩
theorem A1e.setN{q g:Nat}{w w':World}(h:A1e q w w')(hg:w.heap.size<=g)(o:Nat)(v:Value):A1e q w (w'.setCell ⟨g,o,none⟩ v):=
 ⟨h.os,h.tape,h.output,by have:=h.size;unfold World.setCell;simpa using this,fun k hk hq=>by rw[B0r k (by omega)];exact h.block k hk hq⟩
theorem A1e.setR{q g:Nat}{w w':World}(h:A1e q w w')(hg:w.heap.size<=g)(cs:Array Value):A1e q w (w'.setRow g cs):=
 ⟨h.os,h.tape,h.output,by have:=h.size;unfold World.setRow;simpa using this,fun k hk hq=>by rw[A6q k (by omega)];exact h.block k hk hq⟩
theorem A6b.setR{w:World}{q g:Nat}(h:A6b w q)(hg:q<g)(cs:Array Value):A6b (w.setRow g cs) q:=by
 obtain⟨ba,bn,bc,bs,k,h1,h2,h3,h4,h5⟩:=h;refine⟨ba,bn,bc,bs,k,?_,⟨h2.1,fun hn=> ?_⟩,h3,h4,h5⟩
 ·unfold A8w at h1⊢;rw[A6q q (by omega)];exact h1
 obtain⟨b,off,hx,hlt,hc⟩:=h2.2 hn;have hbq:=h5 hn b off hx;refine⟨b,off,hx,by unfold World.setRow;simpa using hlt,fun i hi=> ?_⟩;rw[<-hc i hi];unfold World.cell?
 rw[A6q b (by show b≠g;omega)]
theorem D1g{b1 o2:Nat}(h1:∀c,MX c ⟨b1,0,0,[],[],[],[]⟩/\A7w ⟨b1,0,0,[],[],[],[]⟩<=3)(h2:(∀c,MX c ⟨o2,0,0,[],[],[],[]⟩)/\A7w ⟨o2,0,0,[],[],[],[]⟩<=1)(nm:List UInt8)(ca:Option Addr)(cn cc:Nat):
  B3r ⟨true,nm,[40,73,41,73],4,1,ca,cn,cc,[⟨21,0,0,[],[],[],[]⟩,⟨b1,0,0,[],[],[],[]⟩,⟨o2,0,0,[],[],[],[]⟩,⟨172,0,0,[],[],[],[]⟩],none,0,0,[],none,0,0,[]⟩:=by
 refine⟨rfl,(by decide:(0:Int)<=4/\(4:Int)<=64/\(0:Int)<=1/\(1:Int)<=64),by simp,?_,?_,fun t ht=>(by cases ht),fun t ht=>(by cases ht),Nat.zero_le _,Nat.zero_le _⟩
 ·intro x hx;simp only[List.mem_cons,List.not_mem_nil,or_false]at hx
  rcases hx with rfl|rfl|rfl|rfl
  ·exact A1v (by decide) (by omega) _
  ·exact(h1 _).1
  ·exact h2.1 _
  exact A4g (by decide) _
 have a:=(h1 0).2;have b:=h2.2;have c:A7w (⟨21,0,0,[],[],[],[]⟩:IN)=2:=by decide
 have d:A7w (⟨172,0,0,[],[],[],[]⟩:IN)=1:=by decide
 unfold wtX;simp only[List.map_cons,List.map_nil,List.sum_cons,List.sum_nil];omega
structure Un3(w:World)(q g1 g2 g3:Nat)(wx:World):Prop where
 u:∃u1 u2 u3,UnB wx w.heap.size g1 u1/\UnB wx w.heap.size g2 u2/\UnB wx w.heap.size g3 u3/\B2v u1/\B2v u2/\B2v u3
 k:A1e q w wx
 t:A6b wx q
def D3n(q:Nat)(w:World)(e:Ending)(w':World):Prop:=∃(us:List UU) (g:Nat),e= .returned (.slice (some ⟨g,0,none⟩) 4 4)/\us.length=4/\Ss 4 UU.cells w' (some ⟨g,0,none⟩) 4 us/\(∀u∈us,B2v u/\u.Rd w')/\A1e q w w'
theorem C7s(w:World)(q:Nat)(ht:A6b w q):
  Calls Tryz.prog 16 #[.pointer (some ⟨q,0,none⟩)] w (D3n q w):=by
 have HT:=hzz ht;have HQ:=hzz ht.lt;clear ht
 --Main
 have hal1:=A0f w (.cells #[.bool true,.string ⟨#[115]⟩,.string ⟨#[73]⟩,.bool true,.string ⟨#[111]⟩,.string ⟨#[76,65,59]⟩] B4v)
 have hal2:=A0f (w.alloc (.cells #[.bool true,.string ⟨#[115]⟩,.string ⟨#[73]⟩,.bool true,.string ⟨#[111]⟩,.string ⟨#[76,65,59]⟩] B4v)) (.cells #[.string ⟨#[]⟩,.string ⟨#[]⟩,.slice none 0 0,.slice none 0 0] UnT)
 have HF1:=hzz (A0x (A5u w w.heap.size #[.bool true,.string ⟨#[115]⟩,.string ⟨#[73]⟩,.bool true,.string ⟨#[111]⟩,.string ⟨#[76,65,59]⟩] B4v 2 3 nlz rfl (by unfold maxLen;omega)) hal2)
 have HZ1:=hzz (show((w.alloc (.cells #[.bool true,.string ⟨#[115]⟩,.string ⟨#[73]⟩,.bool true,.string ⟨#[111]⟩,.string ⟨#[76,65,59]⟩] B4v)).alloc (.cells #[.string ⟨#[]⟩,.string ⟨#[]⟩,.slice none 0 0,.slice none 0 0] UnT)).heap[w.heap.size+1]? =some (.cells #[.string ⟨#[]⟩,.string ⟨#[]⟩,.slice none 0 0,.slice none 0 0] UnT (0,0))from by
  have h:=heap_alloc_last (w.alloc (.cells #[.bool true,.string ⟨#[115]⟩,.string ⟨#[73]⟩,.bool true,.string ⟨#[111]⟩,.string ⟨#[76,65,59]⟩] B4v)) (.cells #[.string ⟨#[]⟩,.string ⟨#[]⟩,.slice none 0 0,.slice none 0 0] UnT)
  rwa [show(w.alloc (.cells #[.bool true,.string ⟨#[115]⟩,.string ⟨#[73]⟩,.bool true,.string ⟨#[111]⟩,.string ⟨#[76,65,59]⟩] B4v)).heap.size=w.heap.size+1 by simp]at h)
 have HB1:=hzz (hal1.trans (hal2.mono (by simp)));clear hal1 hal2;go_enter Tryz.func16,Tryz.ntmps16
 go_upto_region 2 with(refine wpList_store_row rfl _ _ _ rfl _ (UU.cells ⟨[77,97,105,110],[79,98,106,101,99,116],some ⟨w.heap.size,0,none⟩,2,2,[⟨true,[115],[73]⟩,⟨true,[111],[76,65,59]⟩],none,0,0,[]⟩).toArray rfl rfl _ _ HZ1.out A5s rfl (C6q _) ?_)
 have HU1:=hzz (UnB.new (B:=w.heap.size) (u:=⟨[77,97,105,110],[79,98,106,101,99,116],some ⟨w.heap.size,0,none⟩,2,2,[⟨true,[115],[73]⟩,⟨true,[111],[76,65,59]⟩],none,0,0,[]⟩) HZ1.out ⟨HF1.out,World.ownsRow_nil _ _ _ _,(fun m hm=>by cases hm)⟩)
 have HK1:=hzz (show A1e q w (((w.alloc (.cells #[.bool true,.string ⟨#[115]⟩,.string ⟨#[73]⟩,.bool true,.string ⟨#[111]⟩,.string ⟨#[76,65,59]⟩] B4v)).alloc (.cells #[.string ⟨#[]⟩,.string ⟨#[]⟩,.slice none 0 0,.slice none 0 0] UnT)).setRow (w.heap.size+1) (UU.cells ⟨[77,97,105,110],[79,98,106,101,99,116],some ⟨w.heap.size,0,none⟩,2,2,[⟨true,[115],[73]⟩,⟨true,[111],[76,65,59]⟩],none,0,0,[]⟩).toArray)from by
  have h:=HB1.out.trans ((below_setRow (B:=w.heap.size) (w:=(w.alloc (.cells #[.bool true,.string ⟨#[115]⟩,.string ⟨#[73]⟩,.bool true,.string ⟨#[111]⟩,.string ⟨#[76,65,59]⟩] B4v)).alloc (.cells #[.string ⟨#[]⟩,.string ⟨#[]⟩,.slice none 0 0,.slice none 0 0] UnT)) (show w.heap.size<=w.heap.size+1 by omega) (UU.cells ⟨[77,97,105,110],[79,98,106,101,99,116],some ⟨w.heap.size,0,none⟩,2,2,[⟨true,[115],[73]⟩,⟨true,[111],[76,65,59]⟩],none,0,0,[]⟩).toArray))
  exact A1e.of h)
 have HTT1:=hzz (show A6b (((w.alloc (.cells #[.bool true,.string ⟨#[115]⟩,.string ⟨#[73]⟩,.bool true,.string ⟨#[111]⟩,.string ⟨#[76,65,59]⟩] B4v)).alloc (.cells #[.string ⟨#[]⟩,.string ⟨#[]⟩,.slice none 0 0,.slice none 0 0] UnT)).setRow (w.heap.size+1) (UU.cells ⟨[77,97,105,110],[79,98,106,101,99,116],some ⟨w.heap.size,0,none⟩,2,2,[⟨true,[115],[73]⟩,⟨true,[111],[76,65,59]⟩],none,0,0,[]⟩).toArray) q from
  HT.out.below (HB1.out.trans ((below_setRow (B:=w.heap.size) (w:=(w.alloc (.cells #[.bool true,.string ⟨#[115]⟩,.string ⟨#[73]⟩,.bool true,.string ⟨#[111]⟩,.string ⟨#[76,65,59]⟩] B4v)).alloc (.cells #[.string ⟨#[]⟩,.string ⟨#[]⟩,.slice none 0 0,.slice none 0 0] UnT)) (show w.heap.size<=w.heap.size+1 by omega) (UU.cells ⟨[77,97,105,110],[79,98,106,101,99,116],some ⟨w.heap.size,0,none⟩,2,2,[⟨true,[115],[73]⟩,⟨true,[111],[76,65,59]⟩],none,0,0,[]⟩).toArray))))
 clear HF1 HZ1 HB1;obtain⟨gU1,hgU1⟩:∃g,g=w.heap.size+1:=⟨_,rfl⟩;have HG1:=hzz (show w.heap.size<=gU1 from by omega);rw[<-hgU1]at HU1 HK1 HTT1⊢;clear hgU1
 generalize((w.alloc (.cells #[.bool true,.string ⟨#[115]⟩,.string ⟨#[73]⟩,.bool true,.string ⟨#[111]⟩,.string ⟨#[76,65,59]⟩] B4v)).alloc (.cells #[.string ⟨#[]⟩,.string ⟨#[]⟩,.slice none 0 0,.slice none 0 0] UnT)).setRow gU1 (UU.cells ⟨[77,97,105,110],[79,98,106,101,99,116],some ⟨w.heap.size,0,none⟩,2,2,[⟨true,[115],[73]⟩,⟨true,[111],[76,65,59]⟩],none,0,0,[]⟩).toArray=w1 at*
 have HC:=hzz (D0p w1 q [109,97,105,110] 6 ⟨by omega,by omega⟩ HTT1.out)
 go_wp2_with fail
 refine HC.out.mono ?_;rintro e w2 ⟨m1,rfl,hnm,hmm,how,ht2,hk2⟩;have HM1:=hzz (And.intro hmm hnm);have HO2:=hzz (how.mono HK1.out.size);have HU2:=hzz (HU1.out.keep1 hk2 HQ.out HG1.out)
 have HK2:=hzz (HK1.out.trans hk2);have HT2:=hzz ht2;clear HC hnm hmm how ht2 hk2 HU1 HK1 HTT1;have HC:=hzz (A2w w2 q 7 HT2.out (by omega) (by omega))
 go_wp2_with fail
 refine HC.out.mono ?_;rintro e w3 ⟨r1,rfl,hr1,ht3,hk3⟩;have HO3:=hzz (HO2.out.keep1 hk3 HQ.out);have HU3:=hzz (HU2.out.keep1 hk3 HQ.out HG1.out);have HK3:=hzz (HK2.out.trans hk3);have HT3:=hzz ht3
 clear HC ht3 hk3 HO2 HU2 HK2 HT2;obtain⟨b1,hb1⟩:∃b1:Nat,b1=r1+2:=⟨_,rfl⟩
 have hw1:IntKind.u8.wrap (2+(r1:Nat))=(b1:Nat):=by
  rw[hb1];have:r1=0\/r1=1\/r1=2\/r1=3\/r1=4\/r1=5\/r1=6:=by omega
  rcases this with rfl|rfl|rfl|rfl|rfl|rfl|rfl<;>decide
 have HX1:=hzz (show ∀c,MX c ⟨b1,0,0,[],[],[],[]⟩/\A7w ⟨b1,0,0,[],[],[],[]⟩<=3 from fun c=>by
  have:b1=2\/b1=3\/b1=4\/b1=5\/b1=6\/b1=7\/b1=8:=by omega
  have h:MX c ⟨b1,0,0,[],[],[],[]⟩:=by
   rcases this with rfl|rfl|rfl|rfl|rfl|rfl|rfl<;>exact A4g (by decide) c
  exact⟨h,(A4a h).2⟩)
 clear hb1;have hat:=A0f w3 (.cells #[.int .u8 100,.int .u8 108,.int .u8 112] 5)
 have HC:=hzz (A2w (w3.alloc (.cells #[.int .u8 100,.int .u8 108,.int .u8 112] 5)) q 3 (HT3.out.below hat) (by omega) (by omega))
 go_wp2_with fail
 refine HC.out.mono ?_;rintro e w4 ⟨r2,rfl,hr2,ht4,hk4⟩;obtain⟨o2,ho2,hL2⟩:=A5v w3 w4 q [100,108,112] hk4 (by have:=HT3.out.lt;omega) r2 (by show r2<3;omega)
 have HX2:=hzz (A7z [100,108,112] (by decide) o2 hL2);have HO4:=hzz ((HO3.out.belowM hat).keep1 hk4 HQ.out);have HU4:=hzz ((HU3.out.below hat).keep1 hk4 HQ.out HG1.out)
 have HK4:=hzz ((HK3.out.trans (A1e.of hat)).trans hk4);have HT4:=hzz ht4;clear HC ht4 hk4 hat hL2 HO3 HU3 HK3 HT3 hw1;obtain⟨s1,n1,d1,k1,l1,ca,cn,cc,cs,ta,tn,tc,ts,ma,mn,mc,ms⟩:=m1
 dsimp only[UM.cells];have c3:w4.cell? ⟨gU1,3,none⟩=some (.slice none 0 0):=A0a HU4.out.k 3 rfl;have f3:=A0n HU4.out.k 3;have lt3:=A0r HU4.out.k
 go_upto_region 3 with fail
 have hIa:=A0f w4 (.cells #[.int .u8 21,.int .i64 0,.int .i64 0,.string ⟨#[]⟩,.string ⟨#[]⟩,.string ⟨#[]⟩,.string ⟨#[]⟩,.int .u8 (b1:Nat),.int .i64 0,.int .i64 0,.string ⟨#[]⟩,.string ⟨#[]⟩,.string ⟨#[]⟩,.string ⟨#[]⟩,.int .u8 (o2:Nat),.int .i64 0,.int .i64 0,.string ⟨#[]⟩,.string ⟨#[]⟩,.string ⟨#[]⟩,.string ⟨#[]⟩,.int .u8 172,.int .i64 0,.int .i64 0,.string ⟨#[]⟩,.string ⟨#[]⟩,.string ⟨#[]⟩,.string ⟨#[]⟩] A2e)
 have hMa:=A0f (w4.alloc (.cells #[.int .u8 21,.int .i64 0,.int .i64 0,.string ⟨#[]⟩,.string ⟨#[]⟩,.string ⟨#[]⟩,.string ⟨#[]⟩,.int .u8 (b1:Nat),.int .i64 0,.int .i64 0,.string ⟨#[]⟩,.string ⟨#[]⟩,.string ⟨#[]⟩,.string ⟨#[]⟩,.int .u8 (o2:Nat),.int .i64 0,.int .i64 0,.string ⟨#[]⟩,.string ⟨#[]⟩,.string ⟨#[]⟩,.string ⟨#[]⟩,.int .u8 172,.int .i64 0,.int .i64 0,.string ⟨#[]⟩,.string ⟨#[]⟩,.string ⟨#[]⟩,.string ⟨#[]⟩] A2e)) (.cells #[.bool s1,.string ⟨n1.toArray⟩,.string ⟨d1.toArray⟩,.int .i64 k1,.int .i64 l1,.slice ca cn cc,.slice ta tn tc,.slice ma mn mc,.bool true,.string ⟨#[104,101,108,112]⟩,.string ⟨#[40,73,41,73]⟩,.int .i64 4,.int .i64 1,.slice (some ⟨w4.heap.size,0,none⟩) 4 4,.slice none 0 0,.slice none 0 0] MdT)
 have hsz:(w4.alloc (.cells #[.int .u8 21,.int .i64 0,.int .i64 0,.string ⟨#[]⟩,.string ⟨#[]⟩,.string ⟨#[]⟩,.string ⟨#[]⟩,.int .u8 (b1:Nat),.int .i64 0,.int .i64 0,.string ⟨#[]⟩,.string ⟨#[]⟩,.string ⟨#[]⟩,.string ⟨#[]⟩,.int .u8 (o2:Nat),.int .i64 0,.int .i64 0,.string ⟨#[]⟩,.string ⟨#[]⟩,.string ⟨#[]⟩,.string ⟨#[]⟩,.int .u8 172,.int .i64 0,.int .i64 0,.string ⟨#[]⟩,.string ⟨#[]⟩,.string ⟨#[]⟩,.string ⟨#[]⟩] A2e)).heap.size=w4.heap.size+1:=by simp
 have hB4:w.heap.size<=w4.heap.size:=HK4.out.size
 have hI:=A5u w4 w.heap.size #[.int .u8 21,.int .i64 0,.int .i64 0,.string ⟨#[]⟩,.string ⟨#[]⟩,.string ⟨#[]⟩,.string ⟨#[]⟩,.int .u8 (b1:Nat),.int .i64 0,.int .i64 0,.string ⟨#[]⟩,.string ⟨#[]⟩,.string ⟨#[]⟩,.string ⟨#[]⟩,.int .u8 (o2:Nat),.int .i64 0,.int .i64 0,.string ⟨#[]⟩,.string ⟨#[]⟩,.string ⟨#[]⟩,.string ⟨#[]⟩,.int .u8 172,.int .i64 0,.int .i64 0,.string ⟨#[]⟩,.string ⟨#[]⟩,.string ⟨#[]⟩,.string ⟨#[]⟩] A2e 4 7 hB4 rfl (by unfold maxLen;omega)
 have hM:=A5u (w4.alloc (.cells #[.int .u8 21,.int .i64 0,.int .i64 0,.string ⟨#[]⟩,.string ⟨#[]⟩,.string ⟨#[]⟩,.string ⟨#[]⟩,.int .u8 (b1:Nat),.int .i64 0,.int .i64 0,.string ⟨#[]⟩,.string ⟨#[]⟩,.string ⟨#[]⟩,.string ⟨#[]⟩,.int .u8 (o2:Nat),.int .i64 0,.int .i64 0,.string ⟨#[]⟩,.string ⟨#[]⟩,.string ⟨#[]⟩,.string ⟨#[]⟩,.int .u8 172,.int .i64 0,.int .i64 0,.string ⟨#[]⟩,.string ⟨#[]⟩,.string ⟨#[]⟩,.string ⟨#[]⟩] A2e)) w.heap.size #[.bool s1,.string ⟨n1.toArray⟩,.string ⟨d1.toArray⟩,.int .i64 k1,.int .i64 l1,.slice ca cn cc,.slice ta tn tc,.slice ma mn mc,.bool true,.string ⟨#[104,101,108,112]⟩,.string ⟨#[40,73,41,73]⟩,.int .i64 4,.int .i64 1,.slice (some ⟨w4.heap.size,0,none⟩) 4 4,.slice none 0 0,.slice none 0 0] MdT 2 8 (by rw[hsz];omega) rfl (by unfold maxLen;omega)
 rw[hsz]at hM
 have HU5:=hzz (((HU4.out.below hIa).below hMa).meth (l:=[⟨s1,n1,d1,k1,l1,ca,cn,cc,cs,ta,tn,tc,ts,ma,mn,mc,ms⟩,⟨true,[104,101,108,112],[40,73,41,73],4,1,some ⟨w4.heap.size,0,none⟩,4,4,[⟨21,0,0,[],[],[],[]⟩,⟨b1,0,0,[],[],[],[]⟩,⟨o2,0,0,[],[],[],[]⟩,⟨172,0,0,[],[],[],[]⟩],none,0,0,[],none,0,0,[]⟩]) hM (fun m hm=>by
  rcases List.mem_cons.1 hm with rfl|hm
  ·exact(HO4.out.belowM hIa).belowM hMa
  rw[List.mem_singleton.1 hm]
  exact⟨A0x hI hMa,World.ownsRow_nil _ _ _ _,World.ownsRow_nil _ _ _ _,fun p hp=>(by cases hp)⟩))
 have HMU1:=hzz (show B2v ⟨[77,97,105,110],[79,98,106,101,99,116],some ⟨w.heap.size,0,none⟩,2,2,[⟨true,[115],[73]⟩,⟨true,[111],[76,65,59]⟩],some ⟨w4.heap.size+1,0,none⟩,2,2,[⟨s1,n1,d1,k1,l1,ca,cn,cc,cs,ta,tn,tc,ts,ma,mn,mc,ms⟩,⟨true,[104,101,108,112],[40,73,41,73],4,1,some ⟨w4.heap.size,0,none⟩,4,4,[⟨21,0,0,[],[],[],[]⟩,⟨b1,0,0,[],[],[],[]⟩,⟨o2,0,0,[],[],[],[]⟩,⟨172,0,0,[],[],[],[]⟩],none,0,0,[],none,0,0,[]⟩]⟩from
  ⟨(by decide:A1b [77,97,105,110]=true/\clM.contains [77,97,105,110]=true),(by decide:A1b [79,98,106,101,99,116]=true/\clM.contains [79,98,106,101,99,116]=true),(by decide:∀f∈([⟨true,[115],[73]⟩,⟨true,[111],[76,65,59]⟩]:List UF),A5e f.nm=true/\typeB f.ds=true/\txM.contains f.nm=true/\txM.contains f.ds=true),(show(2:Nat)<=64 by omega),fun m hm=>by
   rcases List.mem_cons.1 hm with rfl|hm
   ·refine⟨HM1.out.1,?_⟩;rw[HM1.out.2];decide
   rw[List.mem_singleton.1 hm];exact⟨D1g HX1.out HX2.out _ _ _ _,(by decide:A5e [104,101,108,112]=true/\txM.contains [104,101,108,112]=true)⟩,(show(2:Nat)<=64 by omega)⟩)
 have HK5:=hzz ((HK4.out.trans (A1e.of (hIa.trans (hMa.mono (by simp))))).setN HG1.out 3 (.slice (some ⟨w4.heap.size+1,0,none⟩) 2 2))
 have HT5:=hzz (((HT4.out.below hIa).below hMa).set (show q<gU1 by have:=HQ.out;have:=HG1.out;omega) 3 (.slice (some ⟨w4.heap.size+1,0,none⟩) 2 2))
 have hlt2:gU1<(w4.alloc (.cells #[.int .u8 21,.int .i64 0,.int .i64 0,.string ⟨#[]⟩,.string ⟨#[]⟩,.string ⟨#[]⟩,.string ⟨#[]⟩,.int .u8 (b1:Nat),.int .i64 0,.int .i64 0,.string ⟨#[]⟩,.string ⟨#[]⟩,.string ⟨#[]⟩,.string ⟨#[]⟩,.int .u8 (o2:Nat),.int .i64 0,.int .i64 0,.string ⟨#[]⟩,.string ⟨#[]⟩,.string ⟨#[]⟩,.string ⟨#[]⟩,.int .u8 172,.int .i64 0,.int .i64 0,.string ⟨#[]⟩,.string ⟨#[]⟩,.string ⟨#[]⟩,.string ⟨#[]⟩] A2e)).heap.size:=by rw[hsz];omega
 rw[World.setCell_alloc_past _ _ _ _ hlt2,World.setCell_alloc_past _ _ _ _ lt3]at HU5 HK5 HT5;clear hIa hMa hsz hI hM c3 f3 HU4 HO4 HK4 HT4 HM1 HX1 HX2 hB4 hlt2 lt3
 generalize((w4.setCell ⟨gU1,3,none⟩ (.slice (some ⟨w4.heap.size+1,0,none⟩) 2 2)).alloc (.cells #[.int .u8 21,.int .i64 0,.int .i64 0,.string ⟨#[]⟩,.string ⟨#[]⟩,.string ⟨#[]⟩,.string ⟨#[]⟩,.int .u8 (b1:Nat),.int .i64 0,.int .i64 0,.string ⟨#[]⟩,.string ⟨#[]⟩,.string ⟨#[]⟩,.string ⟨#[]⟩,.int .u8 (o2:Nat),.int .i64 0,.int .i64 0,.string ⟨#[]⟩,.string ⟨#[]⟩,.string ⟨#[]⟩,.string ⟨#[]⟩,.int .u8 172,.int .i64 0,.int .i64 0,.string ⟨#[]⟩,.string ⟨#[]⟩,.string ⟨#[]⟩,.string ⟨#[]⟩] A2e)).alloc (.cells #[.bool s1,.string ⟨n1.toArray⟩,.string ⟨d1.toArray⟩,.int .i64 k1,.int .i64 l1,.slice ca cn cc,.slice ta tn tc,.slice ma mn mc,.bool true,.string ⟨#[104,101,108,112]⟩,.string ⟨#[40,73,41,73]⟩,.int .i64 4,.int .i64 1,.slice (some ⟨w4.heap.size,0,none⟩) 4 4,.slice none 0 0,.slice none 0 0] MdT)=w5 at*
 --A
 have hF:=A0f w5 (.cells #[.bool false,.string ⟨#[102]⟩,.string ⟨#[73]⟩,.bool false,.string ⟨#[108]⟩,.string ⟨#[74]⟩,.bool false,.string ⟨#[110,101,120,116]⟩,.string ⟨#[76,65,59]⟩] B4v)
 have HC:=hzz (C0c (w5.alloc (.cells #[.bool false,.string ⟨#[102]⟩,.string ⟨#[73]⟩,.bool false,.string ⟨#[108]⟩,.string ⟨#[74]⟩,.bool false,.string ⟨#[110,101,120,116]⟩,.string ⟨#[76,65,59]⟩] B4v)) q [118] 0 (HT5.out.below hF))
 go_wp2_with fail
 refine HC.out.mono ?_;rintro e w6 ⟨m3,rfl,hnm,hmm,how,ht6,hk6⟩;have HM3:=hzz (And.intro hmm hnm);have hB5:w.heap.size<=w5.heap.size:=HK5.out.size;have HO6:=hzz (how.mono (Nat.le_trans hB5 hF.size))
 have HF6:=hzz (A3f (A5u w5 w.heap.size #[.bool false,.string ⟨#[102]⟩,.string ⟨#[73]⟩,.bool false,.string ⟨#[108]⟩,.string ⟨#[74]⟩,.bool false,.string ⟨#[110,101,120,116]⟩,.string ⟨#[76,65,59]⟩] B4v 3 3 hB5 rfl (by unfold maxLen;omega)) hk6 HQ.out)
 have HU6:=hzz ((HU5.out.below hF).keep1 hk6 HQ.out HG1.out);have HK6:=hzz ((HK5.out.trans (A1e.of hF)).trans hk6);have HT6:=hzz ht6;obtain⟨gF2,hgF2⟩:∃g,g=w5.heap.size:=⟨_,rfl⟩
 rw[<-hgF2]at HF6⊢;clear HC hnm hmm how ht6 hk6 hF HU5 HK5 HT5 hgF2 hB5;obtain⟨s1,n1,d1,k1,l1,ca,cn,cc,cs,ta,tn,tc,ts,ma,mn,mc,ms⟩:=m3;dsimp only[UM.cells]
 have hMa:=A0f w6 (.cells #[.bool s1,.string ⟨n1.toArray⟩,.string ⟨d1.toArray⟩,.int .i64 k1,.int .i64 l1,.slice ca cn cc,.slice ta tn tc,.slice ma mn mc] MdT)
 have hZa:=A0f (w6.alloc (.cells #[.bool s1,.string ⟨n1.toArray⟩,.string ⟨d1.toArray⟩,.int .i64 k1,.int .i64 l1,.slice ca cn cc,.slice ta tn tc,.slice ma mn mc] MdT)) (.cells #[.string ⟨#[]⟩,.string ⟨#[]⟩,.slice none 0 0,.slice none 0 0] UnT)
 have hsz:(w6.alloc (.cells #[.bool s1,.string ⟨n1.toArray⟩,.string ⟨d1.toArray⟩,.int .i64 k1,.int .i64 l1,.slice ca cn cc,.slice ta tn tc,.slice ma mn mc] MdT)).heap.size=w6.heap.size+1:=by simp
 have hB6:w.heap.size<=w6.heap.size:=HK6.out.size
 have hM:=A5u w6 w.heap.size #[.bool s1,.string ⟨n1.toArray⟩,.string ⟨d1.toArray⟩,.int .i64 k1,.int .i64 l1,.slice ca cn cc,.slice ta tn tc,.slice ma mn mc] MdT 1 8 hB6 rfl (by unfold maxLen;omega)
 have HZ6:=hzz (show((w6.alloc (.cells #[.bool s1,.string ⟨n1.toArray⟩,.string ⟨d1.toArray⟩,.int .i64 k1,.int .i64 l1,.slice ca cn cc,.slice ta tn tc,.slice ma mn mc] MdT)).alloc (.cells #[.string ⟨#[]⟩,.string ⟨#[]⟩,.slice none 0 0,.slice none 0 0] UnT)).heap[w6.heap.size+1]? =some (.cells #[.string ⟨#[]⟩,.string ⟨#[]⟩,.slice none 0 0,.slice none 0 0] UnT (0,0))from by
  have h:=heap_alloc_last (w6.alloc (.cells #[.bool s1,.string ⟨n1.toArray⟩,.string ⟨d1.toArray⟩,.int .i64 k1,.int .i64 l1,.slice ca cn cc,.slice ta tn tc,.slice ma mn mc] MdT)) (.cells #[.string ⟨#[]⟩,.string ⟨#[]⟩,.slice none 0 0,.slice none 0 0] UnT)
  rwa [hsz]at h)
 have HW2:=hzz (show UU.Own ⟨[65],[79,98,106,101,99,116],some ⟨gF2,0,none⟩,3,3,[⟨false,[102],[73]⟩,⟨false,[108],[74]⟩,⟨false,[110,101,120,116],[76,65,59]⟩],some ⟨w6.heap.size,0,none⟩,1,1,[⟨s1,n1,d1,k1,l1,ca,cn,cc,cs,ta,tn,tc,ts,ma,mn,mc,ms⟩]⟩ ((w6.alloc (.cells #[.bool s1,.string ⟨n1.toArray⟩,.string ⟨d1.toArray⟩,.int .i64 k1,.int .i64 l1,.slice ca cn cc,.slice ta tn tc,.slice ma mn mc] MdT)).alloc (.cells #[.string ⟨#[]⟩,.string ⟨#[]⟩,.slice none 0 0,.slice none 0 0] UnT)) w.heap.size from
  ⟨A0x (A0x HF6.out hMa) hZa,A0x hM hZa,fun m hm=>by rw[List.mem_singleton.1 hm];exact(HO6.out.belowM hMa).belowM hZa⟩)
 have HU7:=hzz ((HU6.out.below hMa).below hZa);have HK7:=hzz (HK6.out.trans (A1e.of (hMa.trans (hZa.mono (by simp)))));have HT7:=hzz ((HT6.out.below hMa).below hZa)
 have hne:gU1≠w6.heap.size+1:=by have:=A0r HU6.out.k;omega
 clear hMa hZa hsz hM HF6 HO6 HU6 HK6 HT6
 go_upto_region 4 with(refine wpList_store_row rfl _ _ _ rfl _ (UU.cells ⟨[65],[79,98,106,101,99,116],some ⟨gF2,0,none⟩,3,3,[⟨false,[102],[73]⟩,⟨false,[108],[74]⟩,⟨false,[110,101,120,116],[76,65,59]⟩],some ⟨w6.heap.size,0,none⟩,1,1,[⟨s1,n1,d1,k1,l1,ca,cn,cc,cs,ta,tn,tc,ts,ma,mn,mc,ms⟩]⟩).toArray rfl rfl _ _ HZ6.out A5s rfl (C6q _) ?_)
 have HV8:=hzz (UnB.new HZ6.out HW2.out)
 have HU8:=hzz (HU7.out.keptU (A1q (cs':=(UU.cells ⟨[65],[79,98,106,101,99,116],some ⟨gF2,0,none⟩,3,3,[⟨false,[102],[73]⟩,⟨false,[108],[74]⟩,⟨false,[110,101,120,116],[76,65,59]⟩],some ⟨w6.heap.size,0,none⟩,1,1,[⟨s1,n1,d1,k1,l1,ca,cn,cc,cs,ta,tn,tc,ts,ma,mn,mc,ms⟩]⟩).toArray) HZ6.out) (fun j hj=>A6q j hj) hne)
 have HK8:=hzz (HK7.out.setR (show w.heap.size<=w6.heap.size+1 by omega) (UU.cells ⟨[65],[79,98,106,101,99,116],some ⟨gF2,0,none⟩,3,3,[⟨false,[102],[73]⟩,⟨false,[108],[74]⟩,⟨false,[110,101,120,116],[76,65,59]⟩],some ⟨w6.heap.size,0,none⟩,1,1,[⟨s1,n1,d1,k1,l1,ca,cn,cc,cs,ta,tn,tc,ts,ma,mn,mc,ms⟩]⟩).toArray)
 have hq1:q<w6.heap.size+1:=by have:=HQ.out;omega
 have HT8:=hzz (HT7.out.setR hq1 (UU.cells ⟨[65],[79,98,106,101,99,116],some ⟨gF2,0,none⟩,3,3,[⟨false,[102],[73]⟩,⟨false,[108],[74]⟩,⟨false,[110,101,120,116],[76,65,59]⟩],some ⟨w6.heap.size,0,none⟩,1,1,[⟨s1,n1,d1,k1,l1,ca,cn,cc,cs,ta,tn,tc,ts,ma,mn,mc,ms⟩]⟩).toArray)
 have HMU2:=hzz (show B2v ⟨[65],[79,98,106,101,99,116],some ⟨gF2,0,none⟩,3,3,[⟨false,[102],[73]⟩,⟨false,[108],[74]⟩,⟨false,[110,101,120,116],[76,65,59]⟩],some ⟨w6.heap.size,0,none⟩,1,1,[⟨s1,n1,d1,k1,l1,ca,cn,cc,cs,ta,tn,tc,ts,ma,mn,mc,ms⟩]⟩from
  ⟨(by decide:A1b [65]=true/\clM.contains [65]=true),(by decide:A1b [79,98,106,101,99,116]=true/\clM.contains [79,98,106,101,99,116]=true),(by decide:∀f∈([⟨false,[102],[73]⟩,⟨false,[108],[74]⟩,⟨false,[110,101,120,116],[76,65,59]⟩]:List UF),A5e f.nm=true/\typeB f.ds=true/\txM.contains f.nm=true/\txM.contains f.ds=true),(show(3:Nat)<=64 by omega),fun m hm=>by
   rw[List.mem_singleton.1 hm];refine⟨HM3.out.1,?_⟩;rw[HM3.out.2];decide,(show(1:Nat)<=64 by omega)⟩)
 obtain⟨gU2,hgU2⟩:∃g,g=w6.heap.size+1:=⟨_,rfl⟩;have HG2:=hzz (show w.heap.size<=gU2 from by omega);rw[<-hgU2]at HV8 HU8 HK8 HT8 hne⊢;clear hgU2 HM3 HZ6 HW2 HU7 HK7 HT7 hq1 hB6
 generalize((w6.alloc (.cells #[.bool s1,.string ⟨n1.toArray⟩,.string ⟨d1.toArray⟩,.int .i64 k1,.int .i64 l1,.slice ca cn cc,.slice ta tn tc,.slice ma mn mc] MdT)).alloc (.cells #[.string ⟨#[]⟩,.string ⟨#[]⟩,.slice none 0 0,.slice none 0 0] UnT)).setRow gU2 (UU.cells ⟨[65],[79,98,106,101,99,116],some ⟨gF2,0,none⟩,3,3,[⟨false,[102],[73]⟩,⟨false,[108],[74]⟩,⟨false,[110,101,120,116],[76,65,59]⟩],some ⟨w6.heap.size,0,none⟩,1,1,[⟨s1,n1,d1,k1,l1,ca,cn,cc,cs,ta,tn,tc,ts,ma,mn,mc,ms⟩]⟩).toArray=w8 at*
 --B
 have hFa:=A0f w8 (.cells #[.bool false,.string ⟨#[103]⟩,.string ⟨#[73]⟩] B4v)
 have hZa:=A0f (w8.alloc (.cells #[.bool false,.string ⟨#[103]⟩,.string ⟨#[73]⟩] B4v)) (.cells #[.string ⟨#[]⟩,.string ⟨#[]⟩,.slice none 0 0,.slice none 0 0] UnT)
 have hsz:(w8.alloc (.cells #[.bool false,.string ⟨#[103]⟩,.string ⟨#[73]⟩] B4v)).heap.size=w8.heap.size+1:=by simp
 have hB8:w.heap.size<=w8.heap.size:=HK8.out.size
 have HZ9:=hzz (show((w8.alloc (.cells #[.bool false,.string ⟨#[103]⟩,.string ⟨#[73]⟩] B4v)).alloc (.cells #[.string ⟨#[]⟩,.string ⟨#[]⟩,.slice none 0 0,.slice none 0 0] UnT)).heap[w8.heap.size+1]? =some (.cells #[.string ⟨#[]⟩,.string ⟨#[]⟩,.slice none 0 0,.slice none 0 0] UnT (0,0))from by
  have h:=heap_alloc_last (w8.alloc (.cells #[.bool false,.string ⟨#[103]⟩,.string ⟨#[73]⟩] B4v)) (.cells #[.string ⟨#[]⟩,.string ⟨#[]⟩,.slice none 0 0,.slice none 0 0] UnT)
  rwa [hsz]at h)
 have HW3:=hzz (show UU.Own ⟨[66],[65],some ⟨w8.heap.size,0,none⟩,1,1,[⟨false,[103],[73]⟩],none,0,0,[]⟩ ((w8.alloc (.cells #[.bool false,.string ⟨#[103]⟩,.string ⟨#[73]⟩] B4v)).alloc (.cells #[.string ⟨#[]⟩,.string ⟨#[]⟩,.slice none 0 0,.slice none 0 0] UnT)) w.heap.size from
  ⟨A0x (A5u w8 w.heap.size #[.bool false,.string ⟨#[103]⟩,.string ⟨#[73]⟩] B4v 1 3 hB8 rfl (by unfold maxLen;omega)) hZa,World.ownsRow_nil _ _ _ _,fun m hm=>(by cases hm)⟩)
 have HU9:=hzz ((HU8.out.below hFa).below hZa);have HV9:=hzz ((HV8.out.below hFa).below hZa);have HK9:=hzz (HK8.out.trans (A1e.of (hFa.trans (hZa.mono (by simp)))))
 have HT9:=hzz ((HT8.out.below hFa).below hZa);have hne1:gU1≠w8.heap.size+1:=by have:=A0r HU8.out.k;omega
 have hne2:gU2≠w8.heap.size+1:=by have:=A0r HV8.out.k;omega
 clear hFa hZa hsz HU8 HV8 HK8 HT8
 go_upto_region 5 with(refine wpList_store_row rfl _ _ _ rfl _ (UU.cells ⟨[66],[65],some ⟨w8.heap.size,0,none⟩,1,1,[⟨false,[103],[73]⟩],none,0,0,[]⟩).toArray rfl rfl _ _ HZ9.out A5s rfl (C6q _) ?_)
 have hkt:=A1q (cs':=(UU.cells ⟨[66],[65],some ⟨w8.heap.size,0,none⟩,1,1,[⟨false,[103],[73]⟩],none,0,0,[]⟩).toArray) HZ9.out;have HX10:=hzz (UnB.new HZ9.out HW3.out)
 have HU10:=hzz (HU9.out.keptU hkt (fun j hj=>A6q j hj) hne1);have HV10:=hzz (HV9.out.keptU hkt (fun j hj=>A6q j hj) hne2);have hq1:q<w8.heap.size+1:=by have:=HQ.out;omega
 have HK10:=hzz (HK9.out.setR (show w.heap.size<=w8.heap.size+1 by omega) (UU.cells ⟨[66],[65],some ⟨w8.heap.size,0,none⟩,1,1,[⟨false,[103],[73]⟩],none,0,0,[]⟩).toArray)
 have HT10:=hzz (HT9.out.setR hq1 (UU.cells ⟨[66],[65],some ⟨w8.heap.size,0,none⟩,1,1,[⟨false,[103],[73]⟩],none,0,0,[]⟩).toArray)
 have HMU3:=hzz (show B2v ⟨[66],[65],some ⟨w8.heap.size,0,none⟩,1,1,[⟨false,[103],[73]⟩],none,0,0,[]⟩from
  ⟨(by decide:A1b [66]=true/\clM.contains [66]=true),(by decide:A1b [65]=true/\clM.contains [65]=true),(by decide:∀f∈([⟨false,[103],[73]⟩]:List UF),A5e f.nm=true/\typeB f.ds=true/\txM.contains f.nm=true/\txM.contains f.ds=true),(show(1:Nat)<=64 by omega),fun m hm=>(by cases hm),(show(0:Nat)<=64 by omega)⟩)
 obtain⟨gU3,hgU3⟩:∃g,g=w8.heap.size+1:=⟨_,rfl⟩;have HG3:=hzz (show w.heap.size<=gU3 from by omega);rw[<-hgU3]at HX10 HU10 HV10 HK10 HT10 hne1 hne2⊢;clear hgU3 hkt HZ9 HW3 HU9 HV9 HK9 HT9 hq1 hB8
 generalize((w8.alloc (.cells #[.bool false,.string ⟨#[103]⟩,.string ⟨#[73]⟩] B4v)).alloc (.cells #[.string ⟨#[]⟩,.string ⟨#[]⟩,.slice none 0 0,.slice none 0 0] UnT)).setRow gU3 (UU.cells ⟨[66],[65],some ⟨w8.heap.size,0,none⟩,1,1,[⟨false,[103],[73]⟩],none,0,0,[]⟩).toArray=w10 at*
 have HC:=hzz (A2w w10 q 3 HT10.out (by omega) (by omega))
 go_wp2_with fail
 refine HC.out.mono ?_;rintro e w11 ⟨r3,rfl,hr3,ht11,hk11⟩;have HU11:=hzz (HU10.out.keep1 hk11 HQ.out HG1.out);have HV11:=hzz (HV10.out.keep1 hk11 HQ.out HG2.out)
 have HX11:=hzz (HX10.out.keep1 hk11 HQ.out HG3.out);have HK11:=hzz (HK10.out.trans hk11);have HT11:=hzz ht11;clear HC ht11 hk11 HU10 HV10 HX10 HK10 HT10
 obtain⟨bz,hbz⟩:∃bz,decide ((r3:Int)>0)=bz:=⟨_,rfl⟩;have hbz2:decide (0<r3)=bz:=by rw[<-hbz];exact decide_eq_decide.2 (by omega)
 go_upto_if 42 with fail
 go_cut [] (fun wx=>Un3 w q gU1 gU2 gU3 wx)
 case first=>
  cases bz
  ·have HG:=hzz (show Un3 w q gU1 gU2 gU3 w11 from⟨⟨_,_,_,HU11.out,HV11.out,HX11.out,HMU1.out,HMU2.out,HMU3.out⟩,HK11.out,HT11.out⟩);clear hbz hbz2
   go_wp2_with fail
   go_meet;exact HG.out
  clear hbz hbz2;have HC:=hzz (C0c w11 q [118] 0 HT11.out)
  go_wp2_with fail
  refine HC.out.mono ?_;rintro e w12 ⟨m4,rfl,hnm,hmm,how,ht12,hk12⟩;have HM4:=hzz (And.intro hmm hnm);have HO12:=hzz (how.mono HK11.out.size);have HU12:=hzz (HU11.out.keep1 hk12 HQ.out HG1.out)
  have HV12:=hzz (HV11.out.keep1 hk12 HQ.out HG2.out);have HX12:=hzz (HX11.out.keep1 hk12 HQ.out HG3.out);have HK12:=hzz (HK11.out.trans hk12);have HT12:=hzz ht12
  clear HC hnm hmm how ht12 hk12 HU11 HV11 HX11 HK11 HT11;obtain⟨s1,n1,d1,k1,l1,ca,cn,cc,cs,ta,tn,tc,ts,ma,mn,mc,ms⟩:=m4;dsimp only[UM.cells]
  have c3:w12.cell? ⟨gU3,3,none⟩=some (.slice none 0 0):=A0a HX12.out.k 3 rfl;have f3:=A0n HX12.out.k 3;have lt3:=A0r HX12.out.k
  have hMa:=A0f w12 (.cells #[.bool s1,.string ⟨n1.toArray⟩,.string ⟨d1.toArray⟩,.int .i64 k1,.int .i64 l1,.slice ca cn cc,.slice ta tn tc,.slice ma mn mc] MdT)
  have hB12:w.heap.size<=w12.heap.size:=HK12.out.size
  have hM:=A5u w12 w.heap.size #[.bool s1,.string ⟨n1.toArray⟩,.string ⟨d1.toArray⟩,.int .i64 k1,.int .i64 l1,.slice ca cn cc,.slice ta tn tc,.slice ma mn mc] MdT 1 8 hB12 rfl (by unfold maxLen;omega)
  have hX:=(HX12.out.below hMa).meth (l:=[⟨s1,n1,d1,k1,l1,ca,cn,cc,cs,ta,tn,tc,ts,ma,mn,mc,ms⟩]) hM (fun m hm=>by rw[List.mem_singleton.1 hm];exact HO12.out.belowM hMa)
  have hkt:=A1p (HX12.out.below hMa).k 3 (.slice (some ⟨w12.heap.size,0,none⟩) 1 1);have hU:=(HU12.out.below hMa).keptU hkt (fun j hj=>B0r j hj) hne1
  have hV:=(HV12.out.below hMa).keptU hkt (fun j hj=>B0r j hj) hne2;have hK:=(HK12.out.trans (A1e.of hMa)).setN HG3.out 3 (.slice (some ⟨w12.heap.size,0,none⟩) 1 1)
  have hT:=(HT12.out.below hMa).set (show q<gU3 by have:=HQ.out;have:=HG3.out;omega) 3 (.slice (some ⟨w12.heap.size,0,none⟩) 1 1);rw[World.setCell_alloc_past _ _ _ _ lt3]at hX hU hV hK hT
  have HG:=hzz (show Un3 w q gU1 gU2 gU3 _ from⟨⟨_,_,_,hU,hV,hX,HMU1.out,HMU2.out,⟨HMU3.out.nm,HMU3.out.su,HMU3.out.fd,HMU3.out.fn,fun m hm=>by
   rw[List.mem_singleton.1 hm];refine⟨HM4.out.1,?_⟩;rw[HM4.out.2];decide,(show(1:Nat)<=64 by omega)⟩⟩,hK,hT⟩)
  clear hMa hB12 hM hX hkt hU hV hK hT HU12 HV12 HX12 HK12 HT12 HO12 HM4
  go_wp2_with fail
  go_meet;exact HG.out
 obtain⟨u1,u2,u3,q1,q2,q3,z1,z2,z3⟩:=hcut.u;have HKC:=hzz hcut.k;have HTC:=hzz hcut.t;have Q1:=hzz q1;have Q2:=hzz q2;have Q3:=hzz q3;have HZZ:=hzz (And.intro z1 (And.intro z2 z3))
 obtain⟨a1,a2,a3,a4,a5,a6,a7,a8,a9,a10⟩:=u1;obtain⟨b1',b2,b3,b4,b5,b6,b7,b8,b9,b10⟩:=u2;obtain⟨d1',d2,d3,d4,d5,d6,d7,d8,d9,d10⟩:=u3;have x0:=A0a q1.k 0 rfl
 have x1:=A0a q1.k 1 rfl;have x2:=A0a q1.k 2 rfl;have x3:=A0a q1.k 3 rfl;have y0:=A0a q2.k 0 rfl;have y1:=A0a q2.k 1 rfl;have y2:=A0a q2.k 2 rfl
 have y3:=A0a q2.k 3 rfl;have v0:=A0a q3.k 0 rfl;have v1:=A0a q3.k 1 rfl;have v2:=A0a q3.k 2 rfl;have v3:=A0a q3.k 3 rfl
 dsimp only[UU.cells]at x0 x1 x2 x3 y0 y1 y2 y3 v0 v1 v2 v3;clear q1 q2 q3 z1 z2 z3 hcut hbz hbz2 HU11 HV11 HX11 HK11 HT11 HMU1 HMU2 HMU3
 go_wp2_with fail
 go_ret
 have hal:=A0f wc (.cells #[.string ⟨a1.toArray⟩,.string ⟨a2.toArray⟩,.slice a3 a4 a5,.slice a7 a8 a9,.string ⟨b1'.toArray⟩,.string ⟨b2.toArray⟩,.slice b3 b4 b5,.slice b7 b8 b9,.string ⟨d1'.toArray⟩,.string ⟨d2.toArray⟩,.slice d3 d4 d5,.slice d7 d8 d9,.string ⟨#[79,111,112,115]⟩,.string ⟨#[84,104,114,111,119,97,98,108,101]⟩,.slice none 0 0,.slice none 0 0] UnT)
 have how:=A5u wc w.heap.size #[.string ⟨a1.toArray⟩,.string ⟨a2.toArray⟩,.slice a3 a4 a5,.slice a7 a8 a9,.string ⟨b1'.toArray⟩,.string ⟨b2.toArray⟩,.slice b3 b4 b5,.slice b7 b8 b9,.string ⟨d1'.toArray⟩,.string ⟨d2.toArray⟩,.slice d3 d4 d5,.slice d7 d8 d9,.string ⟨#[79,111,112,115]⟩,.string ⟨#[84,104,114,111,119,97,98,108,101]⟩,.slice none 0 0,.slice none 0 0] UnT 4 4 HKC.out.size rfl (by unfold maxLen;omega)
 obtain⟨oa,oc,he,hss,-⟩:=Ss.ofOwn (enc:=UU.cells) (xs:=[⟨a1,a2,a3,a4,a5,a6,a7,a8,a9,a10⟩,⟨b1',b2,b3,b4,b5,b6,b7,b8,b9,b10⟩,⟨d1',d2,d3,d4,d5,d6,d7,d8,d9,d10⟩,⟨[79,111,112,115],[84,104,114,111,119,97,98,108,101],none,0,0,[],none,0,0,[]⟩]) (fun _=>rfl) (by decide) how
 cases he
 obtain⟨z1,z2,z3⟩:=HZZ.out;refine⟨_,wc.heap.size,rfl,rfl,hss,fun u hu=> ?_,HKC.out.trans (A1e.of hal)⟩;simp only[List.mem_cons,List.not_mem_nil,or_false]at hu
 rcases hu with rfl|rfl|rfl|rfl
 ·exact⟨z1,(Q1.out.below hal).o.rd⟩
 ·exact⟨z2,(Q2.out.below hal).o.rd⟩
 ·exact⟨z3,(Q3.out.below hal).o.rd⟩
 exact⟨⟨(by decide:A1b [79,111,112,115]=true/\clM.contains [79,111,112,115]=true),(by decide:A1b [84,104,114,111,119,97,98,108,101]=true/\clM.contains [84,104,114,111,119,97,98,108,101]=true),fun f hf=>(by cases hf),(show(0:Nat)<=64 by omega),fun m hm=>(by cases hm),(show(0:Nat)<=64 by omega)⟩,⟨Ss.nil _ _,Ss.nil _ _,fun m hm=>(by cases hm)⟩⟩
end
section
open Go.ChangeShapes Go.WideShapes Go.ChangeAt Go.RowKit
theorem walk_AsmMade(a:Option Addr)(len cap:Nat)(z:List Int)(w:World)(hv:VW w)(h0:D3a .u8 w a len cap z):
  Calls Tryz.prog 6 #[.slice a len cap] w fun e w'=>e= .returned (.bool true)/\Below w.heap.size w w':=by
 obtain⟨bs,hs,hlm⟩:=Bs.ofRow h0;have HS:=hzz hs.sl;have HV:=hzz hv;have HFX:=hzz (D0s w hv);clear h0 hs hv;by_cases h3:len<=300
 ·have e1:decide ((300:Int)<(len:Nat))=false:=by rw[decide_eq_false_iff_not];omega
  have e2:decide (300<len)=false:=by rw[decide_eq_false_iff_not];omega
  go_enter Tryz.func6,Tryz.ntmps6
  go_wp2_with fail
  refine HFX.out.mono ?_;rintro e w1 ⟨rfl,hb1⟩;have HB1:=hzz hb1;have hal:=A0f w1 (.cells #[.slice a len cap,.int .i64 0] D3m)
  have HT2:=hzz (show A6b (w1.alloc (.cells #[.slice a len cap,.int .i64 0] D3m)) w1.heap.size from
   ⟨a,len,cap,bs,0,heap_alloc_last w1 _,(HS.out.below hb1).below hal,by omega,by omega,fun hn b off e=>by
    obtain⟨b',off',e',hlt,_⟩:=HS.out.2 hn;rw[e]at e'
    cases e'
    exact Nat.lt_of_lt_of_le hlt hb1.size⟩)
  have HC:=hzz (C7s _ _ HT2.out);clear hb1 HFX
  go_wp2_with fail
  refine HC.out.mono ?_;rintro e w3 ⟨us,gs,rfl,hul,hss,hmd,hk3⟩;have HB3:=hzz (show Below w.heap.size w w3 from hk3.below (HB1.out.trans (hal.mono HB1.out.size)) nlz HB1.out.size);have HSS:=hzz hss
  have HMD:=hzz hmd;have HUL:=hzz hul;clear HC hal HT2 hk3 hss hmd hul HB1 HS e1 e2 h3 hlm
  go_wp2_with fail
  go_loopg [19] 4 (fun gn i wr=>∃k:Nat,k<=4/\gn=4-k/\i= .int .i64 (k:Nat)/\Hid (Below w3.heap.size w3 wr))
  case atStart=>exact⟨0,by omega,by omega,by go_num,hzz brz⟩
  obtain⟨k,hk,rfl,rfl,HB⟩:=hrel;by_cases hlt:k<4
  ·have hku:k<us.length:=by rw[HUL.out];exact hlt
   obtain⟨U,hU⟩:=exz (us[k]);obtain⟨b,off,hb,hbl,hbc⟩:=(HSS.out.below HB.out).2 (by omega)
   cases hb
   have hbk:=hbc k hku;rw[<-hU]at hbk
   have HMU:=hzz (show B2v U/\U.Rd wr from by
    have h:=HMD.out us[k] (List.getElem_mem hku);rw[<-hU]at h;exact⟨h.1,h.2.below HB.out⟩)
   have hs0:=HMU.out.2.fields.1;clear hs0 hU hku hbl hbc;obtain⟨unm,usu,ufa,ufn,ufc,ufs,uma,umn,umc,ums⟩:=U
   have q0:wr.cell? ⟨gs,0+k*4+0,none⟩=some (.string ⟨unm.toArray⟩):=hbk 0 (by decide);have q1:wr.cell? ⟨gs,0+k*4+1,none⟩=some (.string ⟨usu.toArray⟩):=hbk 1 (by decide)
   have q2:wr.cell? ⟨gs,0+k*4+2,none⟩=some (.slice ufa ufn ufc):=hbk 2 (by decide);have q3:wr.cell? ⟨gs,0+k*4+3,none⟩=some (.slice uma umn umc):=hbk 3 (by decide)
   rw[Nat.zero_add]at q0 q1 q2 q3;rw[Nat.add_zero]at q0;have hk4:(k:Int)<4:=by omega
   clear hbk
   go_upto_region 8 with fail
   have hal:=A0f wr (.cells #[.string ⟨unm.toArray⟩,.string ⟨usu.toArray⟩,.slice ufa ufn ufc,.slice uma umn umc] UnT);have HB4:=btz HB hal;have HX4:=hzz (And.intro HMU.out.1 (HMU.out.2.below hal))
   have HG4:=hzz (heap_alloc_last wr (.cells #[.string ⟨unm.toArray⟩,.string ⟨usu.toArray⟩,.slice ufa ufn ufc,.slice uma umn umc] UnT));clear hal HMU q0 q1 q2 q3;generalize wr.alloc _=w4 at*
   generalize wr.heap.size=gu at*;have k0:=A0a HG4.out 0 rfl;have k1:=A0a HG4.out 1 rfl;have k2:=A0a HG4.out 2 rfl;have k3:=A0a HG4.out 3 rfl
   have HLO:=hzz (B1z w4 ⟨unm,usu,ufa,ufn,ufc,ufs,uma,umn,umc,ums⟩ HX4.out.2 HX4.out.1.fit ((HV.out.below HB3.out).below (HB4.out.mono (by omega))));dsimp only[UU.cells]at HLO
   go_wp2_with fail
   refine HLO.out.mono ?_;rintro e w5 ⟨x,rfl,q1,-,hb5⟩;have hk0:=HX4.out.1.unit.low;obtain⟨hx1,hx2,hx3⟩:=q1 hk0;have HB5:=btz HB4 hb5;have HX5:=hzz (HX4.out.2.below hb5)
   have HG5:=hzz (A0e HG4.out hb5);have HXF:=hzz hx3;have HXR:=hzz hx2
   have HLL:=hzz (D2u ⟨unm,usu,ufa,ufn,ufc,ufs,uma,umn,umc,ums⟩ (fun m hm y hy=>((HX4.out.1.fit.mt m hm).ins y hy).op) hk0 x hx1 (fun m hm=>(hx2.each m hm).code.1.symm))
   have HMU:=hzz HX4.out.1;rw[hk0];clear hb5 q1 hk0 hx1 hx2 hx3 HLO HB4 HX4 HG4 k0 k1 k2 k3;dsimp only[KF.cells]
   go_upto_region 9 with fail
   have hal:=A0f w5 (.cells #[.slice x.pa x.pn x.pc,.int .i64 x.th,.int .i64 x.su,.slice x.fa x.fn x.fc,.slice x.ma x.mn x.mc] A3s);have HB6:=btz HB5 hal;have HX6:=hzz (HX5.out.below hal)
   have HG6:=hzz (A0e HG5.out hal);have HR6:=hzz (HXR.out.below hal)
   have HF6:=hzz (show(w5.alloc (.cells #[.slice x.pa x.pn x.pc,.int .i64 x.th,.int .i64 x.su,.slice x.fa x.fn x.fc,.slice x.ma x.mn x.mc] A3s)).heap[w5.heap.size]? =some (.cells x.cells.toArray A3s (0,0))from heap_alloc_last w5 _)
   clear hal HB5 HX5 HG5 HXR;generalize w5.alloc _=w6 at*;generalize w5.heap.size=gf at*;have k0:=A0a HF6.out 0 rfl;have k1:=A0a HF6.out 1 rfl;have k2:=A0a HF6.out 2 rfl
   have k3:=A0a HF6.out 3 rfl;have k4:=A0a HF6.out 4 rfl;dsimp only[KF.cells]at k0 k1 k2 k3 k4
   have HLF:=hzz (B3n w6 x HR6.out HXF.out ((HV.out.below HB3.out).below (HB6.out.mono (by omega))) (B4p HR6.out HXF.out))
   go_wp2_with fail
   refine HLF.out.mono ?_;rintro e w7 ⟨y,er,rfl,q1,q2,-,-,q5,hb7⟩;obtain rfl:er=0:=q1.2 HLL.out.1;have HB7:=btz HB6 hb7;have HX7:=hzz (HX6.out.below hb7)
   have HG7:=hzz (A0e HG6.out hb7);have HZ7:=hzz q5.rd;have HZP:=hzz ((q2 rfl).trans HLL.out.2);clear hb7 q1 q2 q5 HLF HB6 HX6 HG6 HR6 HF6 k0 k1 k2 k3 k4
   obtain⟨znm,zsu,zfa,zfn,zfc,zfs,zma,zmn,zmc,zms⟩:=y;dsimp only[UU.cells]
   go_upto_region 10 with fail
   have hal:=A0f w7 (.cells #[.string ⟨znm.toArray⟩,.string ⟨zsu.toArray⟩,.slice zfa zfn zfc,.slice zma zmn zmc] UnT);have HB8:=btz HB7 hal;have HX8:=hzz (HX7.out.below hal)
   have HG8:=hzz (A0e HG7.out hal);have HZ8:=hzz (HZ7.out.below hal)
   have HGZ:=hzz (heap_alloc_last w7 (.cells #[.string ⟨znm.toArray⟩,.string ⟨zsu.toArray⟩,.slice zfa zfn zfc,.slice zma zmn zmc] UnT));clear hal HB7 HX7 HG7 HZ7;generalize w7.alloc _=w8 at*
   generalize w7.heap.size=gz at*;have k0:=A0a HG8.out 0 rfl;have k1:=A0a HG8.out 1 rfl;have k2:=A0a HG8.out 2 rfl;have k3:=A0a HG8.out 3 rfl;have y0:=A0a HGZ.out 0 rfl
   have y1:=A0a HGZ.out 1 rfl;have y2:=A0a HGZ.out 2 rfl;have y3:=A0a HGZ.out 3 rfl
   have HS1:=hzz (B8y w8 ⟨unm,usu,ufa,ufn,ufc,ufs,uma,umn,umc,ums⟩ ⟨znm,zsu,zfa,zfn,zfc,zfs,zma,zmn,zmc,zms⟩ HX8.out HZ8.out HZP.out.symm HMU.out.fit);dsimp only[UU.cells]at HS1
   go_wp2_with fail
   refine HS1.out.mono ?_;rintro e w9 ⟨rfl,hb9⟩;have HB9:=btz HB8 hb9;clear hb9 HS1 HB8 HX8 HG8 HZ8 HGZ HZP HMU HXF HLL k0 k1 k2 k3 y0 y1 y2 y3
   go_wp2_with fail
   go_roundg (4-(k+1))
   case measure=>omega
   exact⟨k+1,by omega,rfl,by go_num,HB9⟩
  have hke:k=4:=by omega
  subst hke;clear hk hlt
  go_wp2_with fail
  go_ret;exact⟨rfl,HB3.out.trans (HB.out.mono HB3.out.size)⟩
 have e1:decide ((300:Int)<(len:Nat))=true:=by rw[decide_eq_true_eq];omega
 have e2:decide (300<len)=true:=by rw[decide_eq_true_eq];omega
 go_enter Tryz.func6,Tryz.ntmps6
 go_wp2_with fail
 refine HFX.out.mono ?_;rintro e w1 ⟨rfl,hb1⟩
 go_wp2_with fail
 go_ret;exact⟨rfl,hb1⟩
end
end Go.Proofs.YtclpkipaehpkdaaGreatDoor
