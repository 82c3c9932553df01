/- asm -/
import Derived.Test.YtclpkipaehpkdaaGreatDoorQ20AsmMade
set_option linter.unusedVariables false
set_option linter.unusedSimpArgs false
set_option maxRecDepth 100000
set_option maxHeartbeats 64000000
namespace Go.Proofs.YtclpkipaehpkdaaGreatDoor
section
open Go.ChangeShapes Go.WideShapes Go.ChangeAt Go.RowKit
theorem D8y{S:List Mn}{s:LW}{x:IN}(hx:C7n S x):(s.con x).2<(s.con x).1.l.length:=by
 unfold LW.con
 cases hx with
 |int h1 h2 h3 h4 h5=>
  rw[if_pos ⟨h1,h2,h3⟩];exact A5x _ _
 |str h1 h2 h3 h4 h5=>
  rw[if_neg (fun h=>by rw[h1]at h;exact absurd h.1 (by decide)),if_pos ⟨h1,h2,h3⟩];exact A5x _ _
 |long h1 h2 h3 h5=>
 rw[if_neg (fun h=>by rw[h1]at h;exact absurd h.1 (by decide)),if_neg (fun h=>by rw[h1]at h;exact absurd h.1 (by decide)),if_pos ⟨h1,h2,h3⟩];exact A5x _ _
theorem D7s(s:LW)(x:IN):(s.wide x).2<(s.wide x).1.l.length:=by
 unfold LW.wide;split
 ·exact A5x _ _
 split
 ·exact A5x _ _
 exact A5x _ _
theorem C7m{p:Int}{op:Nat}{a:Int}(h:0<=a/\a<=1024):A1h ⟨p,op,a,0⟩ 6=true:=by
 unfold A1h;simp;omega
theorem D2y{p:Int}{op:Nat}{a:Int}(h:0<=a/\a<=255):A1h ⟨p,op,a,0⟩ 5=true:=by
 unfold A1h;simp;omega
theorem D2g{S:List Mn}{s:LW}(h:Good S s)(hS:A8x S<=1023){x:IN}{p:Nat}(hx:B5a S x){s0:LW}(hn:D9f S s0 x)(hs:s0.l<+:s.l):A1h (s.raw p x).2 (A0g x.op)=true:=by
 unfold LW.raw
 cases hx with
 |con h1 h2 h3=>
  rw[if_pos h1];have g1:=h.need (decide_eq_true h2) 8;have g2:=g1.con hS h3;have hl:=D8y (s:=s.need (decide (x.cl=[]/\x.nm=[]/\x.m=0)) 8) h3;have:=g2.len;dsimp only
  rcases h1 with h1|h1
  ·have h255:=hn h1 _ g1 hs;rw[h1,show A0g 18=5 by decide];exact D2y (by omega)
  rw[h1,show A0g 20=6 by decide];exact C7m (by omega)
 |wide h1 h2 h3=>
  rw[if_neg (by omega),if_pos h2,h2];have:=(h.wide hS h3).len;have:=D7s s x;exact C7m (by omega)
 |plain h1 h2 h3 h4 h5=>
 rw[if_neg (by omega),if_neg h2.1,if_neg h2.2];dsimp only;rw[B9n h4];by_cases h7:A0g x.op=7
 ·have hm:x.m=0:=by
   unfold A8v at h3;have:=(of_decide_eq_true h3).1;omega
  rw[hm,h7];unfold A1h;simp
 exact h5 h7
theorem B9y{S:List Mn}(hS:A8x S<=1023){s0:LW}:∀(l:List IN) {s:LW} (_:Good S s) (p:Nat) (_:∀x∈l,B5a S x) (_:∀x∈l,D9f S s0 x) (_:s0.l<+:s.l) (k:Nat) (x:IN) (_:l[k]? =some x),∃r,(s.raws p l).2[k]? =some r/\A1h r (A0g x.op)=true
 |[],_,_,_,_,_,_,k,x,hk=>by simp at hk
 |y::l,s,h,p,hx,hn,hs,k,x,hk=>by
  rw[LW.raws]
  cases k with
  |zero=>
   rw[List.getElem?_cons_zero]at hk⊢
   cases hk
   exact⟨_,rfl,D2g h hS (hx y List.mem_cons_self) (hn y List.mem_cons_self) hs⟩
  |succ k=>
  rw[List.getElem?_cons_succ]at hk⊢
  exact B9y hS l (h.raw hS (hx y List.mem_cons_self) (hn y List.mem_cons_self) hs) _ (fun z hz=>hx z (List.mem_cons_of_mem _ hz)) (fun z hz=>hn z (List.mem_cons_of_mem _ hz)) (hs.trans ((LSt.refl s).raw p y).pre) k x hk
structure C7z(l:List IN)(L:List RW):Prop where
 n:L.length=l.length
 at_:∀(k:Nat) (x:IN),l[k]? =some x->∃r,L[k]? =some r/\r.op=x.op/\r.pos=((A3q l k:Nat):Int)/\A1h r (A0g x.op)=true/\(A0g x.op=7->inB l x.n=true/\r.a=((A3q l x.n.toNat:Nat):Int))/\A0g x.op≠0
theorem C7z.enc{l:List IN}{L:List RW}(h:C7z l L):∀k,k<=l.length->(A6s (L.take k)).length=A3q l k:=by
 intro k
 induction k with
 |zero=>intro _;rw[B3i,List.take_zero];rfl
 |succ k ih=>
  intro hk;have hx:l[k]? =some l[k]:=List.getElem?_eq_getElem (by omega);obtain⟨r,hr,ho,_,_,_,h0⟩:=h.at_ k _ hx;obtain⟨hj,he⟩:=gsz hr
  rw[List.take_succ_eq_append_getElem hj,A9n,List.length_append,ih (by omega),he,B1f l k _ hx];have:A6s [r]=A4h r:=by unfold A6s;simp
  rw[this,A5c r (by rw[ho];exact h0),ho];rfl
theorem C7z.ok{l:List IN}{L:List RW}(h:C7z l L)(hl:A3q l l.length<=4096):(A1t L).1=0:=by
 have hn:=h.n
 have hget:∀(k:Nat) (hk:k<L.length),∃x,l[k]? =some x/\∃r,L[k]? =some r/\r.op=x.op/\r.pos=((A3q l k:Nat):Int)/\A1h r (A0g x.op)=true/\(A0g x.op=7->inB l x.n=true/\r.a=((A3q l x.n.toNat:Nat):Int)):=fun k hk=>by
  have hx:l[k]? =some l[k]:=List.getElem?_eq_getElem (by omega);obtain⟨r,h1,h2,h3,h4,h5,_⟩:=h.at_ k _ hx;exact⟨_,hx,r,h1,h2,h3,h4,h5⟩
 have c1:(List.range L.length).all (A3m L)=true:=by
  rw[List.all_eq_true];intro k hk;have hk:=List.mem_range.1 hk;obtain⟨x,hx,r,hr,ho,hp,hf,_⟩:=hget k hk;unfold A3m;rw[hr];simp only[Bool.and_eq_true,decide_eq_true_eq]
  exact⟨by rw[ho];exact hf,by rw[hp,h.enc k (by omega)]⟩
 have c2:A7e L=true:=by
  unfold A7e;rw[List.all_eq_true];intro q hq;obtain⟨k,hk,rfl⟩:=List.getElem_of_mem hq;obtain⟨x,hx,r,hr,ho,hp,hf,h7⟩:=hget k hk;rw[List.getElem?_eq_getElem hk]at hr
  cases hr
  by_cases e7:A0g x.op=7
  ·obtain⟨hb,ha⟩:=h7 e7;have hb:=of_decide_eq_true hb;have hj:x.n.toNat<L.length:=by omega
   obtain⟨y,hy,t,ht,_,htp,_,_⟩:=hget x.n.toNat hj;rw[Bool.or_eq_true];refine .inr ?_;unfold thereB;rw[List.any_eq_true];refine⟨t,List.mem_of_getElem? ht,?_⟩;rw[htp,ha];simp
  rw[Bool.or_eq_true];refine .inl ?_;rw[ho];simp[e7]
 have c3:(A6s L).length<=4096:=by
  have:=h.enc l.length nlz;rw[List.take_of_length_le (by omega)]at this;omega
 unfold A1t;rw[if_neg (by rw[c1];simp),if_neg (by rw[c2];simp),if_neg (by omega)]
structure D4i(S:List Mn)(s0:LW)(l:List IN):Prop where
 op:∀x∈l,x.op<256
 raw:∀x∈l,B5a S x
 near:∀x∈l,D9f S s0 x
 go:∀x∈l,A0g x.op=7->inB l x.n=true
 len:A3q l l.length<=4096
 pos:0<A3q l l.length
theorem Good.code{S:List Mn}{s:LW}(h:Good S s)(hS:A8x S<=1023){s0:LW}{l:List IN}(hl:D4i S s0 l)(hs:s0.l<+:s.l):Good S (s.code l).1:=by
 have g1:=Good.raws hS l h 0 hl.raw hl.near hs;have g2:=Good.goes l l g1 hl.go;refine g2.need (decide_eq_true ?_) _;refine C7z.ok (l:=l) ⟨B8f (B9s s 0 l),fun k x hx=> ?_⟩ hl.len
 have hm:=List.mem_of_getElem? hx;obtain⟨r,hr,hf⟩:=B9y hS l h 0 hl.raw hl.near hs k x hx;have hp:Pl (s.raws 0 l).1.l (s.raws 0 l).1:=⟨List.prefix_refl _,g1.e,g1.g.pos,g1.g.z⟩
 obtain⟨r',hr',ho⟩:=B7k l s 0 hl.op hp h.g.pos k x hx;rw[hr]at hr'
 cases hr'
 have hb:=C4u hx hr;obtain⟨b1,b2⟩:=A7v l x r;refine⟨_,hb,by rw[b2];exact ho.op,by rw[b1,ho.pos,Nat.zero_add],?_,fun h7=>⟨hl.go x hm h7,?_⟩,ho.f0⟩
 ·unfold A2z;split
  ·next h7=>
   rw[h7.1]at hf⊢;exact hf
  exact hf
 unfold A2z;rw[if_pos ⟨h7,hl.go x hm h7⟩]
inductive B8j(S:List Mn)(t:List UInt8):Prop where
 |tag (h:t=[84]\/t=[73]\/t=[74]\/t=[78])
 |obj (h:A9w t=true) (hb:A1b (B7q t)=true) (hc:B9w S (B7q t))
 |arr (h:A9w t=false) (hb:A2g t=true) (hc:B9w S t)
theorem Good.slot{S:List Mn}{s:LW}(h:Good S s)(hS:A8x S<=1023){t:List UInt8}(ht:B8j S t):Good S (s.slot t).1:=by
 unfold LW.slot;by_cases h1:t=[84]
 ·rw[if_pos h1];exact h
 rw[if_neg h1];by_cases h2:t=[73]
 ·rw[if_pos h2];exact h
 rw[if_neg h2];by_cases h3:t=[74]
 ·rw[if_pos h3];exact h
 rw[if_neg h3];by_cases h4:t=[78]
 ·rw[if_pos h4];exact h
 rw[if_neg h4]
 cases ht with
 |tag h=>rcases h with h|h|h|h<;>contradiction
 |obj h5 hb hc=>
  rw[if_pos h5];exact(h.cls (arr:=false) hS hc.ok (by rw[hb];rfl) hc.t hc.c).1
 |arr h5 hb hc=>
 rw[if_neg (by rw[h5];simp)];exact((h.need hb 8).cls (arr:=true) hS hc.ok (by rw[hb];simp) hc.t hc.c).1
theorem Good.slots{S:List Mn}(hS:A8x S<=1023):∀(l:List (List UInt8)) {s:LW} (_:Good S s) (_:∀t∈l,B8j S t),Good S (s.slots l).1
 |[],_,h,_=>h
 |t::l,s,h,hx=>by
  rw[LW.slots];exact Good.slots hS l (h.slot hS (hx t List.mem_cons_self)) (fun y hy=>hx y (List.mem_cons_of_mem _ hy))
theorem Good.place{S:List Mn}{s:LW}(h:Good S s){l:List IN}{n most:Int}(hn:0<=n/\n<=most):Good S (s.place l n most).1:=by
 unfold LW.place;rw[if_neg (by omega)];exact h
structure C7p(S:List Mn)(l:List IN)(t:UT):Prop where
 fr:0<=t.fr/\t.fr<=(l.length:Int) -1
 tt:0<=t.tt/\t.tt<=(l.length:Int)
 pl:0<=t.pl/\t.pl<=(l.length:Int) -1
 c:t.cl=[]\/(A1b t.cl=true/\B9w S t.cl)
theorem Good.trap{S:List Mn}{s:LW}(h:Good S s)(hS:A8x S<=1023){l:List IN}{t:UT}(ht:C7p S l t):Good S (s.trap l t).1:=by
 unfold LW.trap;have g:=((h.place (l:=l) ht.fr).place (l:=l) ht.tt).place (l:=l) ht.pl;by_cases hc:t.cl=[]
 ·dsimp only;rw[if_pos hc];exact g
 dsimp only;rw[if_neg hc]
 rcases ht.c with h1|⟨h1,h2⟩
 ·exact absurd h1 hc
 exact(g.cls (arr:=false) hS h2.ok (by rw[h1];rfl) h2.t h2.c).1
theorem Good.traps{S:List Mn}(hS:A8x S<=1023){c:List IN}:∀(l:List UT) {s:LW} (_:Good S s) (_:∀t∈l,C7p S c t),Good S (s.traps c l).1
 |[],_,h,_=>h
 |t::l,s,h,hx=>by
  rw[LW.traps];exact Good.traps hS l (h.trap hS (hx t List.mem_cons_self)) (fun y hy=>hx y (List.mem_cons_of_mem _ hy))
structure D1k(S:List Mn)(l:List IN)(m:UP):Prop where
 pl:0<=m.pl/\m.pl<=(l.length:Int) -1
 loc:∀t∈m.loc,B8j S t
 stk:∀t∈m.stk,B8j S t
 n1:m.loc.length<=64
 n2:m.stk.length<=64
theorem Good.map{S:List Mn}{s:LW}(h:Good S s)(hS:A8x S<=1023){l:List IN}{m:UP}(hm:D1k S l m):Good S (s.map l m).1:=by
 unfold LW.map;exact Good.slots hS _ (Good.slots hS _ (h.place (l:=l) hm.pl) hm.loc) hm.stk
theorem Good.maps{S:List Mn}(hS:A8x S<=1023){c:List IN}:∀(l:List UP) {s:LW} (_:Good S s) (_:∀t∈l,D1k S c t),Good S (s.maps c l).1
 |[],_,h,_=>h
 |t::l,s,h,hx=>by
  rw[LW.maps];exact Good.maps hS l (h.map hS (hx t List.mem_cons_self)) (fun y hy=>hx y (List.mem_cons_of_mem _ hy))
structure B6j(S:List Mn)(s0:LW)(m:UM):Prop where
 nm:A5e m.nm=true
 ds:A3k m.ds=true
 t1:B4z S m.nm
 t2:B4z S m.ds
 t3:B4z S A6z
 t4:m.maps≠[]->B4z S B4t
 sz:0<=m.sk/\m.sk<=64/\0<=m.lo/\m.lo<=64
 code:D4i S s0 m.code
 traps:∀t∈m.traps,C7p S m.code t
 maps:∀t∈m.maps,D1k S m.code t
 n1:m.traps.length<=255
 n2:m.maps.length<=255
theorem Good.method{S:List Mn}{s:LW}(h:Good S s)(hS:A8x S<=1023){s0:LW}{m:UM}(hm:B6j S s0 m)(hs:s0.l<+:s.l):Good S (s.method m).1:=by
 obtain⟨s1,e1⟩:=exz (s.need (A5e m.nm&&A3k m.ds) 8);obtain⟨n,en⟩:=exz (s1.text m.nm);obtain⟨d,ed⟩:=exz (n.1.text m.ds);obtain⟨c,ec⟩:∃c,c=(d.1.text A6z).1:=⟨_,rfl⟩
 obtain⟨c2,ec2⟩:=exz (if m.maps=[]then c else(c.text B4t).1)
 have e:(s.method m).1=((((c2.code m.code).1.traps m.code m.traps).1).maps m.code m.maps).1:=by subst ec2 ec ed en e1;rfl
 rw[e];have g1:Good S s1:=by rw[e1];exact h.need (by rw[hm.nm,hm.ds];rfl) 8
 have l1:LSt s s1:=by rw[e1];exact(LSt.refl s).need8 _
 have g2:Good S n.1:=by rw[en];exact(g1.text hS hm.t1.ok hm.t1.t).1
 have l2:LSt s n.1:=by rw[en];exact l1.text _
 have g3:Good S d.1:=by rw[ed];exact(g2.text hS hm.t2.ok hm.t2.t).1
 have l3:LSt s d.1:=by rw[ed];exact l2.text _
 have g4:Good S c:=by rw[ec];exact(g3.text hS hm.t3.ok hm.t3.t).1
 have l4:LSt s c:=by rw[ec];exact l3.text _
 have g5:Good S c2/\LSt s c2:=by
  rw[ec2];split
  ·exact⟨g4,l4⟩
  next hne=>exact⟨(g4.text hS (hm.t4 hne).ok (hm.t4 hne).t).1,l4.text _⟩
 exact Good.maps hS _ (Good.traps hS _ (g5.1.code hS hm.code (hs.trans g5.2.pre)) hm.traps) hm.maps
theorem Good.methods{S:List Mn}(hS:A8x S<=1023){s0:LW}:∀(l:List UM) {s:LW} (_:Good S s) (_:∀m∈l,B6j S s0 m) (_:s0.l<+:s.l),Good S (s.methods l).1
 |[],_,h,_,_=>h
 |m::l,s,h,hx,hs=>by
  rw[LW.methods];exact Good.methods hS l (h.method hS (hx m List.mem_cons_self) hs) (fun y hy=>hx y (List.mem_cons_of_mem _ hy)) (hs.trans ((LSt.refl s).method m).pre)
structure C1c(S:List Mn)(f:UF):Prop where
 nm:A5e f.nm=true
 ds:typeB f.ds=true
 t1:B4z S f.nm
 t2:B4z S f.ds
theorem Good.field{S:List Mn}{s:LW}(h:Good S s)(hS:A8x S<=1023){f:UF}(hf:C1c S f):Good S (s.field f).1:=by
 unfold LW.field;exact(((h.need (show(A5e f.nm&&typeB f.ds)=true by rw[hf.nm,hf.ds];rfl) 8).text hS hf.t1.ok hf.t1.t).1.text hS hf.t2.ok hf.t2.t).1
theorem Good.fields{S:List Mn}(hS:A8x S<=1023):∀(l:List UF) {s:LW} (_:Good S s) (_:∀f∈l,C1c S f),Good S (s.fields l).1
 |[],_,h,_=>h
 |f::l,s,h,hx=>by
  rw[LW.fields];exact Good.fields hS l (h.field hS (hx f List.mem_cons_self)) (fun y hy=>hx y (List.mem_cons_of_mem _ hy))
theorem Good.consts1{S:List Mn}(hS:A8x S<=1023):∀(l:List IN) {s:LW} (_:Good S s) (_:∀x∈l,x.op=18->C7n S x),Good S (s.consts1 l)
 |[],_,h,_=>h
 |x::l,s,h,hx=>by
  rw[LW.consts1];refine Good.consts1 hS l ?_ (fun y hy=>hx y (List.mem_cons_of_mem _ hy));split
  ·next h18=>exact h.con hS (hx x List.mem_cons_self h18)
  exact h
theorem B5a.con18{S:List Mn}{x:IN}(h:B5a S x)(h18:x.op=18):C7n S x:=by
 cases h with
 |con h1 h2 h3=>exact h3
 |wide h1=>omega
 |plain h1=>omega
theorem Good.consts{S:List Mn}(hS:A8x S<=1023):∀(l:List UM) {s:LW} (_:Good S s) (_:∀m∈l,∀x∈m.code,B5a S x),Good S (s.consts l)
 |[],_,h,_=>h
 |m::l,s,h,hx=>by
  rw[LW.consts];exact Good.consts hS l (Good.consts1 hS m.code h (fun x hm h18=>(hx m List.mem_cons_self x hm).con18 h18)) (fun y hy=>hx y (List.mem_cons_of_mem _ hy))
theorem C7w(S:List Mn):Good S ⟨[kz],0⟩:=by
 refine⟨rfl,⟨by simp,rfl,fun i hi _=> ?_,fun i hi t=> ?_,fun i hi=> ?_,fun i hi t=> ?_,fun i j hi hj t _=> ?_⟩,[],List.nodup_nil,fun m hm=>(by cases hm),rfl,fun m=> ?_⟩
 ·left;simp at hi;exact hi
 ·obtain rfl:i=0:=by simpa using hi
  exact absurd t (by decide)
 ·obtain rfl:i=0:=by simpa using hi
  exact D1i
 ·obtain rfl:i=0:=by simpa using hi
  exact absurd rfl t
 ·obtain rfl:i=0:=by simpa using hi
  exact absurd rfl t
 constructor
 ·intro h;cases h
 rintro⟨i,hi,t,_⟩;obtain rfl:i=0:=by simpa using hi
 exact absurd rfl t
structure B8g(S:List Mn)(u:UU):Prop where
 sum:A8x S<=1023
 nm:A1b u.nm=true/\B9w S u.nm
 su:u.su=[]\/(A1b u.su=true/\B9w S u.su)
 fields:∀f∈u.fields,C1c S f
 fn:u.fields.length<=64
 methods:∀m∈u.methods,B6j S ((⟨[kz],0⟩:LW).consts u.methods) m
 mn:u.methods.length<=64
theorem B8g.good{S:List Mn}{u:UU}(h:B8g S u):Good S (A9x u).1:=by
 obtain⟨s,es⟩:∃s,s=(⟨[kz],0⟩:LW).consts u.methods:=⟨_,rfl⟩;obtain⟨t,et⟩:=exz (s.cls u.nm false)
 obtain⟨p,ep⟩:=exz (if u.su=[]then(t.1,0)else t.1.cls u.su false)
 have e:(A9x u).1=((p.1.fields u.fields).1.methods u.methods).1:=by subst ep et es;rfl
 rw[e];have g1:Good S s:=by rw[es];exact Good.consts h.sum _ (C7w S) (fun m hm=>(h.methods m hm).code.raw)
 have g2:Good S t.1:=by rw[et];exact(g1.cls (arr:=false) h.sum h.nm.2.ok (by rw[h.nm.1];rfl) h.nm.2.t h.nm.2.c).1
 have l2:LSt s t.1:=by rw[et];exact(LSt.refl s).cls _ _
 have g3:Good S p.1/\LSt s p.1:=by
  rw[ep];split
  ·exact⟨g2,l2⟩
  next hne=>
  rcases h.su with h1|⟨h1,h2⟩
  ·exact absurd h1 hne
  exact⟨(g2.cls (arr:=false) h.sum h2.ok (by rw[h1];rfl) h2.t h2.c).1,l2.cls _ _⟩
 have g4:=Good.fields h.sum u.fields g3.1 h.fields;exact Good.methods h.sum u.methods g4 (fun m hm=>by rw[es];exact h.methods m hm) (g3.2.fields _).pre
theorem A8a.ok{L:List KV}(h:A8a L)(hl:L.length<=1024):A6f L=true:=by
 have hp:=h.pos;have hz:=h.z;unfold A6f;simp only[Bool.and_eq_true,decide_eq_true_eq,List.all_eq_true];refine⟨⟨⟨hp,hl⟩,by rw[hz];rfl⟩,fun i hi=> ?_⟩;have hi:=List.mem_range.1 hi;unfold A8y
 rw[h.bare i hi,Bool.true_and];unfold A2d;dsimp only;by_cases t0:(kAt L i).tag=0
 ·rw[if_pos t0]
  rcases h.pad i hi t0 with h1|h1
  ·simp[h1]
  rw[h1];simp
 rw[if_neg t0];have hd:=h.lead i hi t0;have hn:=h.nxt i hi;unfold B2t at hd;generalize kAt L (i:Int)=c at*
 rcases hd with⟨e,h1,h2⟩|e|e|⟨e,h1⟩|⟨e,h1,h2⟩|⟨e,h1,h2⟩
 ·rw[if_pos e,h1];simp[h2]
 ·rw[if_neg (by omega),if_pos e]
 ·obtain⟨n1,n2⟩:=hn e;rw[if_neg (by omega),if_neg (by omega),if_pos e,n2];simp[n1]
 ·rw[if_neg (by omega),if_neg (by omega),if_neg (by omega),if_neg (by omega),if_pos e,h1]
 ·rw[if_neg (by omega),if_neg (by omega),if_neg (by omega),if_pos e,h1,h2];rfl
 rw[if_neg (by omega),if_neg (by omega),if_neg (by omega),if_neg (by omega),if_neg (by omega),if_pos e,h1,h2];rfl
theorem B9z{P:List KV}{s:LW}{t:List UInt8}{arr:Bool}(h:Pl P (s.cls t arr).1)(h0:0<s.l.length):clsOk P ((s.cls t arr).2:Int)=true:=by
 unfold clsOk;rw[(B0a h h0).1]
theorem D7k{P:List KV}{s:LW}{t:List UInt8}(h:Pl P (s.slot t).1)(h0:0<s.l.length):A5j P (s.slot t).2=true:=by
 unfold LW.slot at h⊢;by_cases h1:t=[84]
 ·simp only[if_pos h1];rfl
 simp only[if_neg h1]at h⊢;by_cases h2:t=[73]
 ·simp only[if_pos h2];rfl
 simp only[if_neg h2]at h⊢;by_cases h3:t=[74]
 ·simp only[if_pos h3];rfl
 simp only[if_neg h3]at h⊢;by_cases h4:t=[78]
 ·simp only[if_pos h4];rfl
 simp only[if_neg h4]at h⊢;by_cases h5:A9w t=true
 ·simp only[if_pos h5]at h⊢;unfold A5j;rw[if_pos rfl];exact B9z h h0
 simp only[if_neg h5]at h⊢;unfold A5j;rw[if_pos rfl];exact B9z h h0
theorem B6x{P:List KV}:∀(ts:List (List UInt8)) (s:LW),Pl P (s.slots ts).1->0<s.l.length->(s.slots ts).2.all (A5j P)=true/\(s.slots ts).2.length=ts.length
 |[],s,h,h0=>⟨rfl,rfl⟩
 |t::ts,s,h,h0=>by
  rw[LW.slots]at h⊢;dsimp only at h⊢;have k1:0<(s.slot t).1.l.length:=((LSt.refl s).slot t).pos h0;have hT:Pl P (s.slot t).1:=h.back ((LSt.refl _).slots ts) k1;have q1:=D7k hT h0
  obtain⟨q3,q4⟩:=B6x ts _ h k1;rw[List.all_cons,q1,q3,List.length_cons,List.length_cons,q4];exact⟨rfl,rfl⟩
theorem C7j(l:List IN)(k:Nat):A3q l k<=A3q l l.length:=by
 unfold A3q;have h:l=l.take k++l.drop k:=(List.take_append_drop k l).symm
 have e:(l.map A7w).sum=((l.take k).map A7w).sum+((l.drop k).map A7w).sum:=by
  rw[<-List.sum_append,<-List.map_append,<-h]
 rw[List.take_of_length_le nlz,e];omega
theorem A9p{P:List KV}{s:LW}{l:List IN}{n most:Int}(h:Pl P (s.place l n most).1)(hl:A3q l l.length<=4096):A5i (s.place l n most).2=true:=by
 obtain⟨_,h2⟩:=B1h h;rw[h2];have:=C7j l n.toNat;unfold A5i;exact decide_eq_true (by omega)
theorem D6z{P:List KV}{s:LW}{l:List IN}{t:UT}(h:Pl P (s.trap l t).1)(h0:0<s.l.length)(hl:A3q l l.length<=4096):A7b P (s.trap l t).2=true:=by
 obtain⟨a,ha⟩:=exz (s.place l t.fr (l.length-1));obtain⟨b,hb⟩:=exz (a.1.place l t.tt l.length);obtain⟨c,hc⟩:=exz (b.1.place l t.pl (l.length-1))
 have hm:s.trap l t=if t.cl=[]then(c.1,⟨a.2,b.2,c.2,0⟩)else((c.1.cls t.cl false).1,⟨a.2,b.2,c.2,((c.1.cls t.cl false).2:Nat)⟩):=by subst hc hb ha;rfl
 rw[hm]at h⊢;have ka:0<a.1.l.length:=by rw[ha];exact((LSt.refl s).place _ _ _).pos h0
 have kb:0<b.1.l.length:=by rw[hb];exact((LSt.refl a.1).place _ _ _).pos ka
 have kc:0<c.1.l.length:=by rw[hc];exact((LSt.refl b.1).place _ _ _).pos kb
 have hC:Pl P c.1:=by
  split at h
  ·exact h
  exact h.back ((LSt.refl _).cls _ _) kc
 have hB:Pl P b.1:=hC.back (by rw[hc];exact(LSt.refl _).place _ _ _) kb;have hA:Pl P a.1:=hB.back (by rw[hb];exact(LSt.refl _).place _ _ _) ka;have w1:=A9p (by rw[<-ha];exact hA) hl
 have w2:=A9p (by rw[<-hb];exact hB) hl;have w3:=A9p (by rw[<-hc];exact hC) hl;rw[<-ha]at w1;rw[<-hb]at w2;rw[<-hc]at w3;unfold A7b;by_cases ht:t.cl=[]
 ·simp only[if_pos ht,List.all_cons,List.all_nil,w1,w2,w3];rfl
 simp only[if_neg ht]at h⊢;simp only[List.all_cons,List.all_nil,w1,w2,w3,B9z h kc];simp
theorem C4t{P:List KV}{l:List IN}(hl:A3q l l.length<=4096):∀(ts:List UT) (s:LW),Pl P (s.traps l ts).1->0<s.l.length->(s.traps l ts).2.all (A7b P)=true/\(s.traps l ts).2.length=ts.length
 |[],s,h,h0=>⟨rfl,rfl⟩
 |t::ts,s,h,h0=>by
  rw[LW.traps]at h⊢;dsimp only at h⊢;have k1:0<(s.trap l t).1.l.length:=((LSt.refl s).trap l t).pos h0;have hT:Pl P (s.trap l t).1:=h.back ((LSt.refl _).traps l ts) k1;have q1:=D6z hT h0 hl
  obtain⟨q3,q4⟩:=C4t hl ts _ h k1;rw[List.all_cons,q1,q3,List.length_cons,List.length_cons,q4];exact⟨rfl,rfl⟩
theorem E0a{S:List Mn}{P:List KV}{s:LW}{l:List IN}{m:UP}(h:Pl P (s.map l m).1)(h0:0<s.l.length)(hl:A3q l l.length<=4096)(hm:D1k S l m):A8i P (s.map l m).2=true:=by
 obtain⟨a,ha⟩:=exz (s.place l m.pl (l.length-1));obtain⟨b,hb⟩:=exz (a.1.slots m.loc);obtain⟨c,hc⟩:=exz (b.1.slots m.stk)
 have he:s.map l m=(c.1,⟨a.2,none,0,0,b.2,none,0,0,c.2⟩):=by subst hc hb ha;rfl
 rw[he]at h⊢;dsimp only at h⊢;have ka:0<a.1.l.length:=by rw[ha];exact((LSt.refl s).place _ _ _).pos h0
 have kb:0<b.1.l.length:=by rw[hb];exact((LSt.refl a.1).slots _).pos ka
 have hB:Pl P b.1:=h.back (by rw[hc];exact(LSt.refl _).slots _) kb;have hA:Pl P a.1:=hB.back (by rw[hb];exact(LSt.refl _).slots _) ka;have w1:=A9p (by rw[<-ha];exact hA) hl
 obtain⟨b1,b2⟩:=B6x m.loc a.1 (by rw[<-hb];exact hB) ka;obtain⟨c1,c2⟩:=B6x m.stk b.1 (by rw[<-hc];exact h) kb;rw[<-ha]at w1;rw[<-hb]at b1 b2;rw[<-hc]at c1 c2;have n1:=hm.n1
 have n2:=hm.n2;unfold A8i A8b;dsimp only;rw[w1,b1,b2,c1,c2];simp;omega
theorem C8s{S:List Mn}{P:List KV}{l:List IN}(hl:A3q l l.length<=4096):∀(ts:List UP) (s:LW),Pl P (s.maps l ts).1->0<s.l.length->(∀t∈ts,D1k S l t)->(s.maps l ts).2.all (A8i P)=true/\(s.maps l ts).2.length=ts.length
 |[],s,h,h0,_=>⟨rfl,rfl⟩
 |t::ts,s,h,h0,hx=>by
  rw[LW.maps]at h⊢;dsimp only at h⊢;have k1:0<(s.map l t).1.l.length:=((LSt.refl s).map l t).pos h0;have hT:Pl P (s.map l t).1:=h.back ((LSt.refl _).maps l ts) k1
  have q1:=E0a hT h0 hl (hx t List.mem_cons_self);obtain⟨q3,q4⟩:=C8s hl ts _ h k1 (fun y hy=>hx y (List.mem_cons_of_mem _ hy));rw[List.all_cons,q1,q3,List.length_cons,List.length_cons,q4]
  exact⟨rfl,rfl⟩
theorem C4a{P:List KV}(hz:kAt P 0=kz){a:Int}{t:List UInt8}(h1:isT P a 1=true)(h2:A1c P a=t):0<A7t P t:=by
 obtain⟨k,rfl,hk,tk⟩:=A7g h1;rw[A7s h1,A6t P k hk]at h2;rw[A6t P k hk]at tk;unfold A7t
 have hp:B7p t P[k]=true:=by
  unfold B7p;exact decide_eq_true ⟨tk,h2⟩
 cases hf:P.findIdx? (B7p t)with
 |none=>
  have:=List.findIdx?_eq_none_iff.1 hf _ (List.getElem_mem hk);rw[hp]at this
  cases this
 |some i=>
 obtain⟨hi,he,_⟩:=List.findIdx?_eq_some_iff_getElem.1 hf;show 0<i
 rcases Nat.eq_zero_or_pos i with h0|h0
 ·subst h0;have e0:kAt P ((0:Nat):Int)=P[0]:=A6t P 0 hi;rw[<-e0,show((0:Nat):Int)=0 from rfl,hz]at he;have:=(of_decide_eq_true he).1;exact absurd this (by decide)
 exact h0
theorem C3x(st:Bool):A1w st=0\/A1w st=8:=by cases st<;>simp[A1w]
theorem C9b{S:List Mn}{s0:LW}{P:List KV}{s:LW}{m:UM}(h:Pl P (s.method m).1)(h0:0<s.l.length)(hm:B6j S s0 m):A3z P (s.method m).2=true:=by
 obtain⟨s1,hs1⟩:=exz (s.need (A5e m.nm&&A3k m.ds) 8);obtain⟨n,hn⟩:=exz (s1.text m.nm);obtain⟨d,hd⟩:=exz (n.1.text m.ds);obtain⟨z,hz⟩:=exz (d.1.text A6z)
 obtain⟨c2,hc2⟩:=exz (if m.maps=[]then z.1 else(z.1.text B4t).1)
 obtain⟨q,hq⟩:=exz (c2.code m.code);obtain⟨t,ht⟩:=exz (q.1.traps m.code m.traps);obtain⟨p,hp⟩:=exz (t.1.maps m.code m.maps)
 have he:s.method m=(p.1,⟨A1w m.st,(n.2:Nat),(d.2:Nat),m.sk,m.lo,none,0,0,q.2,none,0,0,t.2,none,0,0,p.2⟩):=by subst hp ht hq hc2 hz hd hn hs1;rfl
 rw[he]at h⊢;dsimp only at h⊢;have k1:0<s1.l.length:=by rw[hs1];exact h0
 have kn:0<n.1.l.length:=by rw[hn];exact((LSt.refl _).text _).pos k1
 have kd:0<d.1.l.length:=by rw[hd];exact((LSt.refl _).text _).pos kn
 have kc:0<z.1.l.length:=by rw[hz];exact((LSt.refl _).text _).pos kd
 have sc2:LSt z.1 c2:=by
  rw[hc2];split
  ·exact LSt.refl _
  exact(LSt.refl _).text _
 have kc2:=sc2.pos kc;have kq:0<q.1.l.length:=by rw[hq];exact((LSt.refl _).code _).pos kc2
 have kt:0<t.1.l.length:=by rw[ht];exact((LSt.refl _).traps _ _).pos kq
 have hT:Pl P t.1:=h.back (by rw[hp];exact(LSt.refl _).maps _ _) kt;have hQ:Pl P q.1:=hT.back (by rw[ht];exact(LSt.refl _).traps _ _) kq
 have hC2:Pl P c2:=hQ.back (by rw[hq];exact(LSt.refl _).code _) kc2;have hC:Pl P z.1:=hC2.back sc2 kc;have hD:Pl P d.1:=hC.back (by rw[hz];exact(LSt.refl _).text _) kd
 have hN:Pl P n.1:=hD.back (by rw[hd];exact(LSt.refl _).text _) kn;obtain⟨n1,n2⟩:=A4x (by rw[<-hn];exact hN) k1;obtain⟨d1,d2⟩:=A4x (by rw[<-hd];exact hD) kn
 obtain⟨z1,z2⟩:=A4x (by rw[<-hz];exact hC) kd;rw[<-hn]at n1 n2;rw[<-hd]at d1 d2;rw[<-hz]at z1 z2;have f1:=C4a h.z z2 z1
 have f2:p.2.length=0\/0<A7t P B4t:=by
  by_cases hne:m.maps=[]
  ·left;rw[hp,hne];rfl
  right;rw[if_neg hne]at hc2;obtain⟨y1,y2⟩:=A4x (by rw[<-hc2];exact hC2) kc;exact C4a h.z y2 y1
 have hl:=hm.code.len;have hl0:=hm.code.pos;obtain⟨L,_,_,_,_,g5⟩:=C7i hm.code.op (by rw[<-hq];exact hQ) kc2;rw[<-hq]at g5;obtain⟨t1,t2⟩:=C4t hl m.traps q.1 (by rw[<-ht];exact hT) kq
 obtain⟨p1,p2⟩:=C8s hl m.maps t.1 (by rw[<-hp];exact h) kt hm.maps;rw[<-ht]at t1 t2;rw[<-hp]at p1 p2;have n3:=hm.n1;have n4:=hm.n2;have sz:=hm.sz;have hf:=C3x m.st
 unfold A3z A4f B0n A9d A7k;dsimp only
 rw[n2,d2,t1,p1,decide_eq_true hf,decide_eq_true sz,decide_eq_true (show 0<q.2.length/\q.2.length<=4096/\t.2.length<=255/\p.2.length<=255 by omega),decide_eq_true (show 0<A7t P A6z/\(p.2.length=0\/0<A7t P B4t)from⟨f1,f2⟩)]
 rfl
theorem B5i{S:List Mn}{s0:LW}{P:List KV}:∀(l:List UM) (s:LW),Pl P (s.methods l).1->0<s.l.length->(∀m∈l,B6j S s0 m)->(s.methods l).2.all (A3z P)=true/\(s.methods l).2.length=l.length
 |[],s,h,h0,_=>⟨rfl,rfl⟩
 |m::l,s,h,h0,hx=>by
  rw[LW.methods]at h⊢;dsimp only at h⊢;have k1:0<(s.method m).1.l.length:=((LSt.refl s).method m).pos h0;have hT:Pl P (s.method m).1:=h.back ((LSt.refl _).methods l) k1
  have q1:=C9b hT h0 (hx m List.mem_cons_self);obtain⟨q3,q4⟩:=B5i l _ h k1 (fun y hy=>hx y (List.mem_cons_of_mem _ hy));rw[List.all_cons,q1,q3,List.length_cons,List.length_cons,q4]
  exact⟨rfl,rfl⟩
theorem D3g{P:List KV}{s:LW}{f:UF}(h:Pl P (s.field f).1)(h0:0<s.l.length):A4f P (s.field f).2.fl (s.field f).2.nm (s.field f).2.ds=true:=by
 obtain⟨s1,hs1⟩:=exz (s.need (A5e f.nm&&typeB f.ds) 8);obtain⟨n,hn⟩:=exz (s1.text f.nm);obtain⟨d,hd⟩:=exz (n.1.text f.ds)
 have hm:s.field f=(d.1,⟨A1w f.st,(n.2:Nat),(d.2:Nat)⟩):=by subst hd hn hs1;rfl
 rw[hm]at h⊢;dsimp only at h⊢;have k1:0<s1.l.length:=by rw[hs1];exact h0
 have kn:0<n.1.l.length:=by rw[hn];exact((LSt.refl _).text _).pos k1
 have hN:Pl P n.1:=h.back (by rw[hd];exact(LSt.refl _).text _) kn;obtain⟨n1,n2⟩:=A4x (by rw[<-hn];exact hN) k1;obtain⟨d1,d2⟩:=A4x (by rw[<-hd];exact h) kn;rw[<-hn]at n2;rw[<-hd]at d2
 unfold A4f;rw[n2,d2,decide_eq_true (C3x f.st)];rfl
theorem B9p{P:List KV}:∀(l:List UF) (s:LW),Pl P (s.fields l).1->0<s.l.length->(s.fields l).2.all (fun d=>A4f P d.fl d.nm d.ds)=true/\(s.fields l).2.length=l.length
 |[],s,h,h0=>⟨rfl,rfl⟩
 |f::l,s,h,h0=>by
  rw[LW.fields]at h⊢;dsimp only at h⊢;have k1:0<(s.field f).1.l.length:=((LSt.refl s).field f).pos h0;have hT:Pl P (s.field f).1:=h.back ((LSt.refl _).fields l) k1;have q1:=D3g hT h0
  obtain⟨q3,q4⟩:=B9p l _ h k1;rw[List.all_cons,q1,q3,List.length_cons,List.length_cons,q4];exact⟨rfl,rfl⟩
theorem B8g.low{S:List Mn}{u:UU}(h:B8g S u):C5q u=0:=by
 have hg:=h.good;have hlen:=hg.len;have hsum:=h.sum;have hpool:=hg.g.ok (by omega);have hP:Pl (A9x u).1.l (A9x u).1:=⟨List.prefix_refl _,hg.e,hg.g.pos,hg.g.z⟩
 suffices hc:A2r (A9x u).2=true by
  unfold C5q;rw[if_pos hg.e,if_pos hc]
 obtain⟨s,hs⟩:∃s,s=(⟨[kz],0⟩:LW).consts u.methods:=⟨_,rfl⟩;obtain⟨t,ht⟩:=exz (s.cls u.nm false)
 obtain⟨p,hp⟩:=exz (if u.su=[]then(t.1,0)else t.1.cls u.su false)
 obtain⟨d,hd⟩:=exz (p.1.fields u.fields);obtain⟨m,hm⟩:=exz (d.1.methods u.methods)
 have hl:A9x u=(m.1,⟨none,0,0,m.1.l,(t.2:Nat),(p.2:Nat),none,0,0,d.2,none,0,0,m.2⟩):=by subst hm hd hp ht hs;rfl
 rw[hl]at hP hpool⊢;dsimp only at hP hpool⊢;have st1:LSt (⟨[kz],0⟩:LW) s:=by rw[hs];exact(LSt.refl _).consts _
 have ks:0<s.l.length:=st1.pos (by decide);have st2:LSt s t.1:=by rw[ht];exact(LSt.refl _).cls _ _
 have kt:0<t.1.l.length:=st2.pos ks
 have st3:LSt t.1 p.1:=by
  rw[hp];split
  ·exact LSt.refl _
  exact(LSt.refl _).cls _ _
 have kp:=st3.pos kt;have kd:0<d.1.l.length:=by rw[hd];exact((LSt.refl _).fields _).pos kp
 have hD:Pl m.1.l d.1:=hP.back (by rw[hm];exact(LSt.refl _).methods _) kd;have hPp:Pl m.1.l p.1:=hD.back (by rw[hd];exact(LSt.refl _).fields _) kp;have hT:Pl m.1.l t.1:=hPp.back st3 kt
 have c1:=B9z (by rw[<-ht];exact hT) ks;rw[<-ht]at c1
 have c2:(decide ((p.2:Int)=0)||clsOk m.1.l (p.2:Int))=true:=by
  by_cases hsu:u.su=[]
  ·rw[if_pos hsu]at hp;rw[hp];rfl
  rw[if_neg hsu]at hp;have:=B9z (by rw[<-hp];exact hPp) kt;rw[<-hp]at this;rw[this,Bool.or_true]
 obtain⟨f1,f2⟩:=B9p u.fields p.1 (by rw[<-hd];exact hD) kp;obtain⟨m1,m2⟩:=B5i u.methods d.1 (by rw[<-hm];exact hP) kd h.methods;rw[<-hd]at f1 f2;rw[<-hm]at m1 m2;have n1:=h.fn
 have n2:=h.mn;unfold A2r;dsimp only;rw[hpool,c1,c2,f1,m1,decide_eq_true (show d.2.length<=64/\m.2.length<=64 by omega)];rfl
def txM:List (List UInt8):=[[77,97,105,110],[65],[66],[79,111,112,115],[79,98,106,101,99,116],[84,104,114,111,119,97,98,108,101],[77,97,116,104,70,97,117,108,116],[78,117,108,108,70,97,117,108,116],[115,121,115],[115],[111],[102],[108],[110,101,120,116],[103],[109,97,105,110],[104,101,108,112],[118],[112,114,105,110,116],[112,114,105,110,116,84,101,120,116],[97,100,100],[103,101,116],[115,101,116],[99,111,117,110,116],[73],[74],[76,65,59],[40,73,41,73],[40,73,41,86],[40,91,66,41,86],[40,91,66,41,73],[40,73,41,91,66],[40,73,91,66,41,86],[40,41,73],[104,105],[67,111,100,101],[83,116,97,99,107,77,97,112],[91,73],[91,66]]
def clM:List (List UInt8):=[[77,97,105,110],[65],[66],[79,111,112,115],[79,98,106,101,99,116],[84,104,114,111,119,97,98,108,101],[77,97,116,104,70,97,117,108,116],[78,117,108,108,70,97,117,108,116],[115,121,115],[91,73],[91,66]]
def ntM:List (List UInt8×List UInt8):=[([115],[73]),([102],[73]),([118],[40,73,41,73]),([104,101,108,112],[40,73,41,73]),([112,114,105,110,116],[40,73,41,86]),([112,114,105,110,116,84,101,120,116],[40,91,66,41,86]),([97,100,100],[40,91,66,41,73]),([103,101,116],[40,73,41,91,66]),([115,101,116],[40,73,91,66,41,86]),([99,111,117,110,116],[40,41,73])]
def mbM:List (Int×List UInt8×List UInt8×List UInt8):=[(9,[77,97,105,110],[115],[73]),(9,[65],[102],[73]),(10,[65],[118],[40,73,41,73]),(10,[77,97,105,110],[104,101,108,112],[40,73,41,73]),(10,[115,121,115],[112,114,105,110,116],[40,73,41,86]),(10,[115,121,115],[112,114,105,110,116,84,101,120,116],[40,91,66,41,86]),(10,[115,121,115],[97,100,100],[40,91,66,41,73]),(10,[115,121,115],[103,101,116],[40,73,41,91,66]),(10,[115,121,115],[115,101,116],[40,73,91,66,41,86]),(10,[115,121,115],[99,111,117,110,116],[40,41,73])]
def lgM(v:Nat):Int:=(v:Int)*1099511627776-5
def SM:List Mn:=txM.map C5z++(clM.map D8i++(((8,0,[[104,105]]):Mn)::(ntM.map (fun p=>mNt p.1 p.2)++(mbM.map (fun p=>D8j p.1 p.2.1 p.2.2.1 p.2.2.2)++(List.range 256).map (fun v=>((5,lgM v,[]):Mn))))))
theorem D9p:A8x SM<=1023:=by
 unfold SM A8x;rw[List.map_append,List.map_append,List.map_cons,List.map_append,List.map_append,List.sum_append,List.sum_append,List.sum_cons,List.sum_append,List.sum_append]
 have h:∀l:List Nat,((l.map (fun v=>((5,lgM v,[]):Mn))).map wtM).sum=2*l.length:=by
  intro l
  induction l with
  |nil=>rfl
  |cons a t ih=>rw[List.map_cons,List.map_cons,List.sum_cons,ih,List.length_cons];show 2+_=_;omega
 rw[h,List.length_range];decide
theorem E0h{t:List UInt8}(h:txM.contains t=true):C5z t∈SM:=by
 unfold SM;exact List.mem_append_left _ (List.mem_map_of_mem (List.contains_iff_mem.1 h))
theorem E1y{t:List UInt8}(h:clM.contains t=true):D8i t∈SM:=by
 unfold SM;exact List.mem_append_right _ (List.mem_append_left _ (List.mem_map_of_mem (List.contains_iff_mem.1 h)))
theorem E1z:((8,0,[[104,105]]):Mn)∈SM:=by
 unfold SM;exact List.mem_append_right _ (List.mem_append_right _ List.mem_cons_self)
theorem D9q{n d:List UInt8}(h:ntM.contains (n,d)=true):mNt n d∈SM:=by
 unfold SM
 exact List.mem_append_right _ (List.mem_append_right _ (List.mem_cons_of_mem _ (List.mem_append_left _ (List.mem_map_of_mem (f:=fun p:List UInt8×List UInt8=>mNt p.1 p.2) (List.contains_iff_mem.1 h)))))
theorem D9n{t:Int}{c n d:List UInt8}(h:mbM.contains (t,c,n,d)=true):D8j t c n d∈SM:=by
 unfold SM
 exact List.mem_append_right _ (List.mem_append_right _ (List.mem_cons_of_mem _ (List.mem_append_right _ (List.mem_append_left _ (List.mem_map_of_mem (f:=fun p:Int×List UInt8×List UInt8×List UInt8=>D8j p.1 p.2.1 p.2.2.1 p.2.2.2) (List.contains_iff_mem.1 h))))))
theorem E1n{v:Nat}(h:v<256):((5,lgM v,[]):Mn)∈SM:=by
 unfold SM
 exact List.mem_append_right _ (List.mem_append_right _ (List.mem_cons_of_mem _ (List.mem_append_right _ (List.mem_append_right _ (List.mem_map_of_mem (f:=fun v=>((5,lgM v,[]):Mn)) (List.mem_range.2 h))))))
theorem E0i:txM.all (fun t=>(A4m t).isSome&&decide (t.length<=65535))=true:=by decide
theorem B0i{t:List UInt8}(h:txM.contains t=true):B4z SM t:=by
 have:=List.all_eq_true.1 E0i t (List.contains_iff_mem.1 h);rw[Bool.and_eq_true,decide_eq_true_eq]at this;exact⟨this,E0h h⟩
theorem E1u:clM.all (fun t=>txM.contains t)=true:=by decide
theorem B4n{t:List UInt8}(h:clM.contains t=true):B9w SM t:=by
 have:=List.all_eq_true.1 E1u t (List.contains_iff_mem.1 h);exact⟨(B0i this).ok,E0h this,E1y h⟩
def D8v(x:IN):Bool:=
 if A6k x.op then A3d x&&((A5e x.nm&&typeB x.ds)&&(A1b x.cl&&(clM.contains x.cl&&(txM.contains x.nm&&(txM.contains x.ds&&(ntM.contains (x.nm,x.ds)&&mbM.contains (9,x.cl,x.nm,x.ds)))))))
 else if A9a x.op then A3d x&&((A5e x.nm&&A3k x.ds)&&(A1b x.cl&&(clM.contains x.cl&&(txM.contains x.nm&&(txM.contains x.ds&&(ntM.contains (x.nm,x.ds)&&mbM.contains (10,x.cl,x.nm,x.ds)))))))
 else B0x x&&((A1b x.cl||(decide (x.op≠187)&&A2g x.cl))&&clM.contains x.cl)
structure MX(c:Nat)(x:IN):Prop where
 raw:B5a SM x
 op:x.op<256
 near:x.op=18->x=⟨18,0,0,[],[],[83],[104,105]⟩
 go:A0g x.op=7->0<=x.n/\x.n<=c
 form:A0g x.op≠0
 num: -562949953421312<=x.n/\x.n<=562949953421312
 mb: -128<=x.m/\x.m<=127
theorem A2u(c:Nat)(x:IN)(h:(decide (x.op<256/\x.op≠18/\x.op≠20/\A0g x.op=6/\x.n=0/\x.m=0)&&D8v x)=true):MX c x:=by
 rw[Bool.and_eq_true,decide_eq_true_eq]at h;obtain⟨⟨h1,h2,h3,h4,hn,hm⟩,h5⟩:=h;refine⟨.wide ⟨h2,h3⟩ h4 ?_,h1,fun e=>absurd e h2,fun e=>by omega,by omega,by omega,by omega⟩;unfold D8v at h5
 by_cases m1:A6k x.op=true
 ·rw[if_pos m1]at h5;simp only[Bool.and_eq_true]at h5;obtain⟨a,b,c,d,e,f,g,i⟩:=h5;exact .mem m1 a (by rw[Bool.and_eq_true];exact b) c ⟨B4n d,B0i e,B0i f,D9q g,D9n i⟩
 rw[if_neg m1]at h5;have m1:A6k x.op=false:=by simpa using m1
 by_cases m2:A9a x.op=true
 ·rw[if_pos m2]at h5;simp only[Bool.and_eq_true]at h5;obtain⟨a,b,c,d,e,f,g,i⟩:=h5;exact .inv m1 m2 a (by rw[Bool.and_eq_true];exact b) c ⟨B4n d,B0i e,B0i f,D9q g,D9n i⟩
 rw[if_neg m2]at h5;have m2:A9a x.op=false:=by simpa using m2
 simp only[Bool.and_eq_true]at h5;obtain⟨a,b,c⟩:=h5;exact .cls m1 m2 a b (B4n c)
theorem C1w(c op:Nat)(n m:Int)(f:Nat)(h:(decide (op<256/\op≠18/\op≠20)&&decide (A0g op=f/\f≠6/\f≠0/\f≠7))=true)(hm:m=0\/f=8)(hn: -32768<=n/\n<=32767)(hb: -128<=m/\m<=127)(hf:A1h ⟨0,op,n,m⟩ f=true):MX c ⟨op,n,m,[],[],[],[]⟩:=by
 rw[Bool.and_eq_true,decide_eq_true_eq,decide_eq_true_eq]at h;obtain⟨⟨h1,h2,h3⟩,h4,h5,h6,h7⟩:=h;have hi:A4d n=true:=by unfold A4d;exact decide_eq_true (by omega)
 exact⟨.plain ⟨h2,h3⟩ ⟨by dsimp only;omega,by dsimp only;omega⟩ (by unfold A8v;exact decide_eq_true ⟨by dsimp only;omega,rfl,rfl,rfl,rfl⟩) hi (fun _=>by dsimp only;rw[h4];exact hf),h1,fun e=>absurd e h2,fun e=>by dsimp only at e;omega,by dsimp only;omega,by dsimp only;omega,hb⟩
theorem B2x(c op:Nat)(n:Int)(h:(decide (op<256/\op≠18/\op≠20/\A0g op=7))=true)(hc:0<=n/\n<=c)(hc2:c<=1000000):MX c ⟨op,n,0,[],[],[],[]⟩:=by
 rw[decide_eq_true_eq]at h;obtain⟨h1,h2,h3,h4⟩:=h;have hi:A4d n=true:=by unfold A4d;exact decide_eq_true (by omega)
 exact⟨.plain ⟨h2,h3⟩ ⟨by dsimp only;omega,by dsimp only;omega⟩ (by unfold A8v;exact decide_eq_true ⟨.inl rfl,rfl,rfl,rfl,rfl⟩) hi (fun e=>absurd h4 e),h1,fun e=>absurd e h2,fun _=>hc,by dsimp only;omega,by dsimp only;omega,by dsimp only;omega⟩
theorem E1t(c:Nat):MX c ⟨18,0,0,[],[],[83],[104,105]⟩:=
 ⟨.con (.inl rfl) ⟨rfl,rfl,rfl⟩ (.str rfl rfl rfl (B0i (by decide)) E1z),by decide,fun _=>rfl,fun e=>absurd e (by decide),by decide,by decide,by decide⟩
theorem D9x(c v:Nat)(h:v<256):MX c ⟨20,lgM v,0,[],[],[74],[]⟩:=
 ⟨.con (.inr rfl) ⟨rfl,rfl,rfl⟩ (.long rfl rfl rfl (E1n h)),(show(20:Nat)<256 by decide),fun e=>absurd e (show(20:Nat)≠18 by decide),fun e=>absurd e (show A0g 20≠7 by decide),(show A0g 20≠0 by decide),(by show _<=lgM v/\lgM v<=_;unfold lgM;omega),(show(-128:Int)<=0/\(0:Int)<=127 by decide)⟩
theorem MX.mono{c d:Nat}{x:IN}(h:MX c x)(hc:c<=d):MX d x:=⟨h.raw,h.op,h.near,fun e=>by have:=h.go e;omega,h.form,h.num,h.mb⟩
theorem A4a{c:Nat}{x:IN}(h:MX c x):1<=A7w x/\A7w x<=3:=by
 have h9:A0g x.op<=9:=A4z x.op;have h0:=h.form;unfold A7w;generalize A0g x.op=f at*;have:f=1\/f=2\/f=3\/f=4\/f=5\/f=6\/f=7\/f=8\/f=9:=by omega
 rcases this with rfl|rfl|rfl|rfl|rfl|rfl|rfl|rfl|rfl<;>decide
structure WX where
 code:List IN
 traps:List UT
 maps:List UP
 dp:Int
 bd:Int
def wtX(l:List IN):Nat:=(l.map A7w).sum
theorem C8u(l k:List IN):wtX (l++k)=wtX l+wtX k:=by unfold wtX;rw[List.map_append,List.sum_append]
theorem C9u(x:IN):wtX [x]=A7w x:=by unfold wtX;simp
theorem D1a(l:List IN):A3q l l.length=wtX l:=by unfold A3q wtX;rw[List.take_length]
structure TrM(c:Nat)(t:UT):Prop where
 fr:0<=t.fr/\t.fr<=c
 tt:0<=t.tt/\t.tt<=c
 pl:0<=t.pl/\t.pl<=c
 c:t.cl=[]\/(A1b t.cl=true/\clM.contains t.cl=true)
def slM:List (List UInt8):=[[73],[74],[76,65,59],[91,73],[91,66],[76,84,104,114,111,119,97,98,108,101,59],[76,77,97,116,104,70,97,117,108,116,59],[76,79,111,112,115,59],[76,78,117,108,108,70,97,117,108,116,59]]
theorem E1c:slM.all (fun t=>decide (t=[84]\/t=[73]\/t=[74]\/t=[78])||(if A9w t then A1b (B7q t)&&clM.contains (B7q t)else A2g t&&clM.contains t))=true:=by decide
theorem D9v{t:List UInt8}(h:slM.contains t=true):B8j SM t:=by
 have:=List.all_eq_true.1 E1c t (List.contains_iff_mem.1 h);rw[Bool.or_eq_true,decide_eq_true_eq]at this
 rcases this with h|h
 ·exact .tag h
 by_cases hs:A9w t=true
 ·rw[if_pos hs,Bool.and_eq_true]at h;exact .obj hs h.1 (B4n h.2)
 rw[if_neg hs,Bool.and_eq_true]at h;exact .arr (by simpa using hs) h.1 (B4n h.2)
structure MpM(c:Nat)(p:UP):Prop where
 pl:0<=p.pl/\p.pl<=c
 loc:∀t∈p.loc,slM.contains t=true
 stk:∀t∈p.stk,slM.contains t=true
 n1:p.loc.length<=64
 n2:p.stk.length<=64
structure B4u(s:WX):Prop where
 ins:∀x∈s.code,MX s.code.length x
 tr:∀t∈s.traps,TrM s.code.length t
 mp:∀p∈s.maps,MpM s.code.length p
def B0j(s:WX):Nat:=wtX s.code+40*s.bd.toNat
structure StX(k kt km n:Nat)(s s':WX):Prop where
 inv:B4u s'
 pre:s.code<+:s'.code
 dp:s'.dp=s.dp
 w:B0j s'<=B0j s+k
 t:s'.traps.length+s'.bd.toNat<=s.traps.length+s.bd.toNat+kt
 m:s'.maps.length+2*s'.bd.toNat<=s.maps.length+2*s.bd.toNat+km
 bd:s'.bd<=s.bd
 lo:s.bd+wtX s.code+n<=s'.bd+wtX s'.code
theorem StX.refl{s:WX}(h:B4u s):StX 0 0 0 0 s s:=⟨h,List.prefix_refl _,rfl,Nat.le_refl _,Nat.le_refl _,Nat.le_refl _,Int.le_refl _,by omega⟩
theorem StX.trans{k kt km n l lt lm m:Nat}{s t u:WX}(h:StX k kt km n s t)(g:StX l lt lm m t u):StX (k+l) (kt+lt) (km+lm) (n+m) s u:=by
 have:=h.w;have:=g.w;have:=h.t;have:=g.t;have:=h.m;have:=g.m;have:=h.bd;have:=g.bd;have:=h.lo;have:=g.lo
 exact⟨g.inv,h.pre.trans g.pre,g.dp.trans h.dp,by omega,by omega,by omega,by omega,by omega⟩
theorem StX.mono{k kt km n l lt lm m:Nat}{s t:WX}(h:StX k kt km n s t)(h1:k<=l)(h2:kt<=lt)(h3:km<=lm)(h4:m<=n):StX l lt lm m s t:=by
 have:=h.w;have:=h.t;have:=h.m;have:=h.lo;exact⟨h.inv,h.pre,h.dp,by omega,by omega,by omega,h.bd,by omega⟩
theorem B4u.len{s:WX}(h:B4u s):s.code.length<=wtX s.code:=by
 have:∀l:List IN,(∀x∈l,MX s.code.length x)->l.length<=wtX l:=by
  intro l
  induction l with
  |nil=>intro _;exact Nat.le_refl _
  |cons x l ih=>
   intro hx;have h1:=A4a (hx x List.mem_cons_self);have h2:=ih (fun y hy=>hx y (List.mem_cons_of_mem _ hy));unfold wtX at h2⊢;rw[List.map_cons,List.sum_cons,List.length_cons];omega
 exact this _ h.ins
def WX.app(s:WX)(x:IN):WX:={s with code:=s.code++[x]}
theorem TrM.mono{c d:Nat}{t:UT}(h:TrM c t)(hc:c<=d):TrM d t:=by
 have:=h.fr;have:=h.tt;have:=h.pl;exact⟨by omega,by omega,by omega,h.c⟩
theorem MpM.mono{c d:Nat}{p:UP}(h:MpM c p)(hc:c<=d):MpM d p:=by
 have:=h.pl;exact⟨by omega,h.loc,h.stk,h.n1,h.n2⟩
theorem StX.app{s:WX}(h:B4u s){x:IN}(hx:MX s.code.length x):StX (A7w x) 0 0 1 s (s.app x):=by
 have hw:wtX (s.code++[x])=wtX s.code+A7w x:=by rw[C8u,C9u]
 have hn:(s.code++[x]).length=s.code.length+1:=by simp
 have h1:=A4a hx;refine⟨⟨fun y hy=> ?_,fun t ht=> ?_,fun p hp=> ?_⟩,List.prefix_append _ _,rfl,?_,Nat.le_refl _,Nat.le_refl _,Int.le_refl _,?_⟩
 ·show MX (s.code++[x]).length y;rw[hn]
  rcases List.mem_append.1 hy with hy|hy
  ·exact(h.ins y hy).mono (by omega)
  rw[List.mem_singleton.1 hy];exact hx.mono (by omega)
 ·exact(h.tr t ht).mono (by show s.code.length<=(s.code++[x]).length;omega)
 ·exact(h.mp p hp).mono (by show s.code.length<=(s.code++[x]).length;omega)
 ·show wtX (s.code++[x])+40*s.bd.toNat<=wtX s.code+40*s.bd.toNat+A7w x;omega
 show s.bd+wtX s.code+(1:Nat)<=s.bd+(wtX (s.code++[x]):Nat);omega
def WX.dec(s:WX):WX:={s with bd:=s.bd-1}
theorem B4u.dec{s:WX}(h:B4u s):B4u s.dec:=⟨h.ins,h.tr,h.mp⟩
theorem StX.undec{k kt km n l lt lm:Nat}{s t:WX}(h:StX k kt km (n+1) s.dec t)(h1:k<=l\/(1<=s.bd-1/\k<=l+40))(h2:kt<=lt\/(1<=s.bd-1/\kt<=lt+1))(h3:km<=lm\/(1<=s.bd-1/\km<=lm+2)):StX l lt lm n s t:=by
 have a:=h.w;have b:=h.t;have c:=h.m;have d:=h.bd;have e:=h.lo;unfold B0j at a;unfold WX.dec at a b c d e;dsimp only at a b c d e;refine⟨h.inv,h.pre,h.dp,?_,?_,?_,by omega,by omega⟩
 ·unfold B0j;omega
 ·omega
 omega
structure Lim(n:Nat)(s:WX):Prop where
 up:B0j s+100*n<=100000
 lo:(10*n:Int) -1000<=s.bd+wtX s.code
theorem Lim.step{k kt km n m j:Nat}{s t:WX}(h:Lim n s)(g:StX k kt km j s t)(hk:k+100*m<=100*n):Lim m t:=by
 have:=h.up;have:=h.lo;have:=g.w;have:=g.lo;exact⟨by omega,by omega⟩
theorem Lim.dec{n:Nat}{s:WX}(h:Lim (n+1) s):Lim n s.dec:=by
 have:=h.up;have:=h.lo;unfold B0j at this;refine⟨?_,?_⟩
 ·unfold B0j WX.dec;dsimp only;have:=h.up;unfold B0j at this;omega
 unfold WX.dec;dsimp only;omega
theorem Lim.bnd{n:Nat}{s:WX}(h:Lim n s)(hi:B4u s):s.code.length<=100000/\-200000<=s.bd/\s.bd<=100000:=by
 have:=h.up;have:=h.lo;have:=hi.len;unfold B0j at*;omega
theorem StX.patch{k kt km n l lt lm m:Nat}{s t u:WX}(h:StX k kt km n s t)(g:StX l lt lm m t u)(i:Nat)(x y:IN)(hi:t.code.length<=i)(hx:u.code[i]? =some x)(hy:MX u.code.length y)(hl:A7w y=A7w x):StX (k+l) (kt+lt) (km+lm) (n+m) s {u with code:=u.code.set i y}:=by
 have hf:=h.trans g
 have hw:wtX (u.code.set i y)=wtX u.code:=by
  have:∀(c:List IN) (i:Nat),c[i]? =some x->wtX (c.set i y)=wtX c:=by
   intro c
   induction c with
   |nil=>intro i hi;simp at hi
   |cons a c ih=>
    intro i hi
    cases i with
    |zero=>
     rw[List.getElem?_cons_zero]at hi
     cases hi
     unfold wtX;rw[List.set_cons_zero,List.map_cons,List.map_cons,List.sum_cons,List.sum_cons,hl]
    |succ i=>
    rw[List.getElem?_cons_succ]at hi;have:=ih i hi;unfold wtX at this⊢;rw[List.set_cons_succ,List.map_cons,List.map_cons,List.sum_cons,List.sum_cons,this]
  exact this _ _ hx
 have hn:(u.code.set i y).length=u.code.length:=List.length_set;refine⟨⟨fun z hz=> ?_,fun z hz=> ?_,fun z hz=> ?_⟩,?_,hf.dp,?_,hf.t,hf.m,hf.bd,?_⟩
 ·show MX (u.code.set i y).length z;rw[hn]
  rcases List.mem_or_eq_of_mem_set hz with h1|h1
  ·exact hf.inv.ins z h1
  rw[h1];exact hy
 ·show TrM (u.code.set i y).length z;rw[hn];exact hf.inv.tr z hz
 ·show MpM (u.code.set i y).length z;rw[hn];exact hf.inv.mp z hz
 ·obtain⟨r,hr⟩:=h.pre.trans g.pre;have hs:s.code.length<=i:=Nat.le_trans h.pre.length_le hi;refine⟨(u.code.set i y).drop s.code.length,?_⟩;show s.code++_=u.code.set i y
  rw[<-hr,List.set_append_right _ _ hs,List.drop_left]
 ·have:=hf.w;unfold B0j at this⊢;dsimp only;rw[hw];exact this
 have:=hf.lo;dsimp only;rw[hw];exact this
end
section
open Go.ChangeShapes Go.WideShapes Go.ChangeAt Go.RowKit Go.Maps
abbrev WrT:=146
abbrev D3m:=48
abbrev D2e:=85
abbrev B7r:=88
def D1r:Option Obj->Prop
 |some (.cells _ t _)=>t≠A2e/\t≠D2e/\t≠B7r/\t≠WrT
 |_=>True
structure A0z(B q:Nat)(w w':World):Prop where
 os:w'.os=w.os
 tape:w'.tape=w.tape
 output:w'.output=w.output
 size:w.heap.size<=w'.heap.size
 block:∀k,k<w.heap.size->k≠q->(k<B\/D1r w.heap[k]?)->w'.heap[k]? =w.heap[k]?
theorem A0z.refl(B q:Nat)(w:World):A0z B q w w:=⟨rfl,rfl,rfl,Nat.le_refl _,fun _ _ _ _=>rfl⟩
theorem A0z.trans{B q:Nat}{w w1 w2:World}(h:A0z B q w w1)(k:A0z B q w1 w2):A0z B q w w2:=
 ⟨k.os.trans h.os,k.tape.trans h.tape,k.output.trans h.output,Nat.le_trans h.size k.size,fun i hi hq hg=>by
  have h1:=h.block i hi hq hg;rw[k.block i (Nat.lt_of_lt_of_le hi h.size) hq (by rw[h1];exact hg),h1]⟩
theorem A0z.of{B q:Nat}{w w1:World}(h:Below w.heap.size w w1):A0z B q w w1:=⟨h.os,h.tape,h.output,h.size,fun k hk _ _=>h.block k hk⟩
theorem A0z.one{B q:Nat}{w w1:World}(h:A1e q w w1):A0z B q w w1:=⟨h.os,h.tape,h.output,h.size,fun k hk hq _=>h.block k hk hq⟩
theorem A0z.grown{B q:Nat}{w w1:World}{row:Option Nat}(h:w.grownBy w1 row)(hr:∀k,row=some k->k<w.heap.size->B<=k/\¬D1r w.heap[k]?):A0z B q w w1:=
 ⟨h.os,h.tape,h.output,h.size,fun k hk _ hg=>h.block k hk (fun e=>by
  obtain⟨h1,h2⟩:=hr k e.symm hk
  rcases hg with hg|hg
  ·omega
  exact h2 hg)⟩
theorem A0z.set{B q:Nat}{w:World}{g:Nat}(h:B<=g/\¬D1r w.heap[g]?)(o:Nat)(v:Value):A0z B q w (w.setCell ⟨g,o,none⟩ v):=
 ⟨rfl,rfl,rfl,by unfold World.setCell;simp,fun k hk _ hq=>by
  unfold World.setCell
  have hne:¬g=k:=by
   rintro rfl
   rcases hq with h1|h1
   ·omega
   exact h.2 h1
  simp[Array.getElem?_modify,hne]⟩
theorem A0z.row{B q:Nat}{w w':World}(h:A0z B q w w'){g:Nat}{cs:Array Value}{t:TypeId}{fr:Nat×Nat}(hg:w.heap[g]? =some (.cells cs t fr))(hq:g≠q)(h1:t≠A2e)(h2:t≠D2e)(h3:t≠B7r)(h4:t≠WrT):w'.heap[g]? =some (.cells cs t fr):=by
 rw[h.block g (A0r hg) hq (.inr (by rw[hg];exact⟨h1,h2,h3,h4⟩))];exact hg
def A6b(w:World)(q:Nat):Prop:=∃(ba:Option Addr) (bn bc:Nat) (bs:List UInt8) (k:Nat),A8w w q (.slice ba bn bc) (.int .i64 (k:Nat)) D3m/\Sl A5f w ba bn bs/\bn<=1048576/\k<=bn/\(0<bn->∀b off,ba=some ⟨b,off,none⟩->b<q)
theorem A6b.below{w w':World}{q:Nat}(h:A6b w q)(hb:Below w.heap.size w w'):A6b w' q:=by
 obtain⟨ba,bn,bc,bs,k,h1,h2,h3,h4,h5⟩:=h;exact⟨ba,bn,bc,bs,k,h1.below hb,h2.below hb,h3,h4,h5⟩
theorem A6b.lt{w:World}{q:Nat}(h:A6b w q):q<w.heap.size:=by
 obtain⟨ba,bn,bc,bs,k,h1,_⟩:=h;exact h1.box.lt
structure WrX(w:World)(B q g:Nat)(s:WX)(ca:Option Addr)(cc:Nat)(ta:Option Addr)(tc:Nat)(ma:Option Addr)(mc:Nat):Prop where
 k:w.heap[g]? =some (.cells #[.pointer (some ⟨q,0,none⟩),.slice ca s.code.length cc,.slice ta s.traps.length tc,.slice ma s.maps.length mc,.int .i64 s.dp,.int .i64 s.bd] WrT (0,0))
 code:w.ownsRow B A2e 7 (.slice ca s.code.length cc) s.code.length (s.code.flatMap IN.cells)
 traps:w.ownsRow B D2e 4 (.slice ta s.traps.length tc) s.traps.length (s.traps.flatMap UT.cells)
 maps:w.ownsRow B B7r 3 (.slice ma s.maps.length mc) s.maps.length (s.maps.flatMap UP.cells)
 each:∀p∈s.maps,p.Own w B
 tape:A6b w q
 gB:B<=g
 qB:q<B
def WrS(w:World)(B q g:Nat)(s:WX):Prop:=∃ca cc ta tc ma mc,WrX w B q g s ca cc ta tc ma mc
theorem WrX.below{w w':World}{B q g:Nat}{s:WX}{ca:Option Addr}{cc:Nat}{ta:Option Addr}{tc:Nat}{ma:Option Addr}{mc:Nat}(h:WrX w B q g s ca cc ta tc ma mc)(hb:Below w.heap.size w w'):WrX w' B q g s ca cc ta tc ma mc:=
 ⟨A0e h.k hb,A0x h.code hb,A0x h.traps hb,A0x h.maps hb,fun p hp=>⟨A0x (h.each p hp).loc hb,A0x (h.each p hp).stk hb⟩,h.tape.below hb,h.gB,h.qB⟩
theorem WrS.below{w w':World}{B q g:Nat}{s:WX}(h:WrS w B q g s)(hb:Below w.heap.size w w'):WrS w' B q g s:=by
 obtain⟨ca,cc,ta,tc,ma,mc,h⟩:=h;exact⟨ca,cc,ta,tc,ma,mc,h.below hb⟩
theorem WrX.lt{w:World}{B q g:Nat}{s:WX}{ca:Option Addr}{cc:Nat}{ta:Option Addr}{tc:Nat}{ma:Option Addr}{mc:Nat}(h:WrX w B q g s ca cc ta tc ma mc):g<w.heap.size:=A0r h.k
theorem WrX.turned{w w':World}{B q g:Nat}{s:WX}{ca:Option Addr}{cc:Nat}{ta:Option Addr}{tc:Nat}{ma:Option Addr}{mc:Nat}(h:WrX w B q g s ca cc ta tc ma mc)(hk:A1e q w w')(ht:A6b w' q):WrX w' B q g s ca cc ta tc ma mc:=
 ⟨by rw[hk.block g h.lt (by have:=h.gB;have:=h.qB;omega)];exact h.k,A3f h.code hk h.qB,A3f h.traps hk h.qB,A3f h.maps hk h.qB,fun p hp=>⟨A3f (h.each p hp).loc hk h.qB,A3f (h.each p hp).stk hk h.qB⟩,ht,h.gB,h.qB⟩
theorem D4x{w:World}{B:Nat}{e:TypeId}{size:Nat}{v:Value}{n:Nat}{xs:List Value}(h:w.ownsRow B e size v n xs)(he:e=A2e\/e=D2e\/e=B7r):∀k,v.ownBlock=some k->B<=k/\¬D1r w.heap[k]? :=by
 intro k hk
 rcases h.2 with⟨h1,_⟩|⟨g,cap,cur,hv,hB,hc,r⟩
 ·rw[h1]at hk;cases hk
 rw[hv]at hk;simp[Value.ownBlock]at hk;subst hk;refine⟨hB,?_⟩;rw[hc];intro hh
 rcases he with rfl|rfl|rfl
 ·exact hh.1 rfl
 ·exact hh.2.1 rfl
 exact hh.2.2.1 rfl
theorem WrX.grow{w w9:World}{B q g:Nat}{s:WX}{ca:Option Addr}{cc:Nat}{ta:Option Addr}{tc:Nat}{ma:Option Addr}{mc:Nat}{o:Obj}{e:TypeId}{z:Nat}{v:Value}{n:Nat}{xs:List Value}(h:WrX w B q g s ca cc ta tc ma mc)(hv:w.ownsRow B e z v n xs)(he:e=A2e\/e=D2e\/e=B7r)(hg:(w.alloc o).grownBy w9 v.ownBlock):
  A2p e w w9/\A0z B q w w9/\w9.heap[g]? =some (.cells #[.pointer (some ⟨q,0,none⟩),.slice ca s.code.length cc,.slice ta s.traps.length tc,.slice ma s.maps.length mc,.int .i64 s.dp,.int .i64 s.bd] WrT (0,0))/\A6b w9 q:=by
 have hal:=A0f w o;have hkt:=A2p.app hv hg;have hke:A0z B q w w9:=(A0z.of hal).trans (A0z.grown hg (fun k hk _=>D4x (A0x hv hal) he k hk))
 have hlq:∀k,k<B->k<w.heap.size->w9.heap[k]? =w.heap[k]? :=fun k hk hl=>by
  rw[hg.block k (by simp;omega) ?_,Below.heap_alloc _ _ _ hl];intro ee;obtain⟨h1,_⟩:=D4x hv he k ee.symm;omega
 refine⟨hkt,hke,hkt.2 _ _ _ _ h.k (by rcases he with rfl|rfl|rfl<;>decide),?_⟩
 obtain⟨ba,bn,bc,bs,k,h1,h2,h3,h4,h5⟩:=h.tape;have hqB:=h.qB;refine⟨ba,bn,bc,bs,k,?_,⟨h2.1,fun hn=> ?_⟩,h3,h4,h5⟩
 ·unfold A8w at h1⊢;rw[hlq q hqB (A0r h1)];exact h1
 obtain⟨b,off,hx,hlt,hc⟩:=h2.2 hn;have hbq:=h5 hn b off hx;refine⟨b,off,hx,Nat.lt_of_lt_of_le hlt hke.size,fun i hi=> ?_⟩;rw[<-hc i hi];unfold World.cell?;rw[hlq b (by omega) hlt]
theorem A6b.set{w:World}{q g:Nat}(h:A6b w q)(hg:q<g)(o:Nat)(v:Value):A6b (w.setCell ⟨g,o,none⟩ v) q:=by
 obtain⟨ba,bn,bc,bs,k,h1,h2,h3,h4,h5⟩:=h;refine⟨ba,bn,bc,bs,k,h1.other (by omega),⟨h2.1,fun hn=> ?_⟩,h3,h4,h5⟩;obtain⟨b,off,hx,hlt,hc⟩:=h2.2 hn;have hbq:=h5 hn b off hx
 refine⟨b,off,hx,by unfold World.setCell;simpa using hlt,fun i hi=> ?_⟩;rw[<-hc i hi];unfold World.cell? World.setCell;have hne:¬g=b:=by omega
 simp[Array.getElem?_modify,hne]
theorem WrX.put{w:World}{B q g:Nat}{cs:Array Value}{s':WX}{ca:Option Addr}{cc:Nat}{ta:Option Addr}{tc:Nat}{ma:Option Addr}{mc:Nat}(o:Nat)(v:Value)(hk:w.heap[g]? =some (.cells cs WrT (0,0)))(he:cs.setIfInBounds o v= #[.pointer (some ⟨q,0,none⟩),.slice ca s'.code.length cc,.slice ta s'.traps.length tc,.slice ma s'.maps.length mc,.int .i64 s'.dp,.int .i64 s'.bd])
  (h1:w.ownsRow B A2e 7 (.slice ca s'.code.length cc) s'.code.length (s'.code.flatMap IN.cells)) (h2:w.ownsRow B D2e 4 (.slice ta s'.traps.length tc) s'.traps.length (s'.traps.flatMap UT.cells)) (h3:w.ownsRow B B7r 3 (.slice ma s'.maps.length mc) s'.maps.length (s'.maps.flatMap UP.cells))
  (h4:∀p∈s'.maps,p.Own w B) (h5:A6b w q) (h6:B<=g) (h7:q<B):WrX (w.setCell ⟨g,o,none⟩ v) B q g s' ca cc ta tc ma mc/\A0z B q w (w.setCell ⟨g,o,none⟩ v):=
 ⟨⟨by rw[<-he];exact A1k hk o v,A0k h1 (A1p hk o v) (by decide),A0k h2 (A1p hk o v) (by decide),A0k h3 (A1p hk o v) (by decide),fun p hp=>(h4 p hp).keptT (A1p hk o v) (by decide),h5.set (by omega) o v,h6,h7⟩,
  A0z.set ⟨h6,by rw[hk];exact fun hh=>hh.2.2.2 rfl⟩ o v⟩
theorem WrX.app{w w9:World}{B q g:Nat}{s:WX}{ca:Option Addr}{cc:Nat}{ta:Option Addr}{tc:Nat}{ma:Option Addr}{mc:Nat}{o:Obj}{x:IN}{a9:Option Addr}{c9:Nat}(h:WrX w B q g s ca cc ta tc ma mc)
  (hg:(w.alloc o).grownBy w9 (Value.slice ca s.code.length cc).ownBlock) (ho:w9.ownsRow B A2e 7 (.slice a9 (s.code.length+1) c9) (s.code.length+1) ((s.code++[x]).flatMap IN.cells)):
  WrX (w9.setCell ⟨g,1,none⟩ (.slice a9 (s.code.length+1) c9)) B q g (s.app x) a9 c9 ta tc ma mc/\A0z B q w (w9.setCell ⟨g,1,none⟩ (.slice a9 (s.code.length+1) c9))/\w9.heap[g]? =some (.cells #[.pointer (some ⟨q,0,none⟩),.slice ca s.code.length cc,.slice ta s.traps.length tc,.slice ma s.maps.length mc,.int .i64 s.dp,.int .i64 s.bd] WrT (0,0)):=by
 obtain⟨hkt,hke,hk,ht⟩:=h.grow h.code (.inl rfl) hg;have hn:(s.code++[x]).length=s.code.length+1:=by simp
 obtain⟨h1,h2⟩:=WrX.put (s':=s.app x) (ca:=a9) (cc:=c9) (ta:=ta) (tc:=tc) (ma:=ma) (mc:=mc) (q:=q) (B:=B) 1 (.slice a9 (s.code.length+1) c9) hk (by show _= #[_,Value.slice a9 (s.code++[x]).length c9,_,_,_,_];rw[hn];rfl)
  (by show w9.ownsRow B A2e 7 (.slice a9 (s.code++[x]).length c9) (s.code++[x]).length _;rw[hn];exact ho) (A0k h.traps hkt (by decide)) (A0k h.maps hkt (by decide)) (fun p hp=>(h.each p hp).keptT hkt (by decide)) ht h.gB h.qB
 exact⟨h1,hke.trans h2,hk⟩
def D5v(v:Value)(B q g:Nat)(s:WX)(w:World)(e:Ending)(w':World):Prop:=e= .returned v/\WrS w' B q g s/\A0z B q w w'
structure E2h(w:World)(g:Nat)(a b c d e f:Value):Prop where
 c0:w.cell? ⟨g,0,none⟩=some a
 c1:w.cell? ⟨g,1,none⟩=some b
 c2:w.cell? ⟨g,2,none⟩=some c
 c3:w.cell? ⟨g,3,none⟩=some d
 c4:w.cell? ⟨g,4,none⟩=some e
 c5:w.cell? ⟨g,5,none⟩=some f
 f1:w.frozen? ⟨g,1,none⟩=false
 f2:w.frozen? ⟨g,2,none⟩=false
 f3:w.frozen? ⟨g,3,none⟩=false
 f4:w.frozen? ⟨g,4,none⟩=false
 f5:w.frozen? ⟨g,5,none⟩=false
 lt:g<w.heap.size
theorem WrX.box{w:World}{B q g:Nat}{s:WX}{ca:Option Addr}{cc:Nat}{ta:Option Addr}{tc:Nat}{ma:Option Addr}{mc:Nat}(h:WrX w B q g s ca cc ta tc ma mc):E2h w g (.pointer (some ⟨q,0,none⟩)) (.slice ca s.code.length cc) (.slice ta s.traps.length tc) (.slice ma s.maps.length mc) (.int .i64 s.dp) (.int .i64 s.bd):=
 ⟨A0a h.k 0 rfl,A0a h.k 1 rfl,A0a h.k 2 rfl,A0a h.k 3 rfl,A0a h.k 4 rfl,A0a h.k 5 rfl,A0n h.k 1,A0n h.k 2,A0n h.k 3,A0n h.k 4,A0n h.k 5,h.lt⟩
theorem B0h(w:World)(B q g:Nat)(s:WX)(op:Nat)(n:Int)(h:WrS w B q g s)(hn:s.code.length<=200000)(hB:B<=w.heap.size):
  Calls Tryz.prog 77 #[.pointer (some ⟨g,0,none⟩),.int .u8 (op:Nat),.int .i64 n] w (D5v (.tuple #[]) B q g (s.app ⟨op,n,0,[],[],[],[]⟩) w):=by
 obtain⟨ca,cc,ta,tc,ma,mc,hx⟩:=h;have HX:=hzz hx;obtain⟨c0,c1,c2,c3,c4,c5,f1,f2,f3,f4,f5,lt⟩:=hx.box;have HBB:=hzz hB;clear hx c2 c3 c4 c5 f2 f3 f4 f5 hB
 go_enter Tryz.func77,Tryz.ntmps77
 go_wp2_with (at_builtin;refine A0q A6d rfl _ _ rfl B _ s.code.length _ rfl HX.out.code _ 1 _ _ rfl rfl rfl rfl (by omega) (by unfold maxLen;omega) HBB.out ?_;intro v9 w9 hown9 hg9 hb9;have hown8:w9.ownsRow B A2e 7 v9 (s.code.length+1) ((s.code++[(⟨op,n,0,[],[],[],[]⟩:IN)]).flatMap IN.cells):=(by rw[List.flatMap_append];exact hown9);obtain⟨a9,c9,rfl,-,-⟩:=Ss.ofOwn IN.cells_length (by decide) hown8;have HAP:=hzz (HX.out.app hg9 hown8);have fo:=A0n HAP.out.2.2 1;have lto:=A0r HAP.out.2.2;have co:=A0a HAP.out.2.2 1 rfl;clear hown9 hown8 hg9 hb9 c0 c1 f1 lt)
 go_end0;exact⟨rfl,⟨a9,c9,ta,tc,ma,mc,HAP.out.1⟩,HAP.out.2.1⟩
def E1p(q:Nat)(n:Int)(w:World)(e:Ending)(w':World):Prop:=∃r:Nat,e= .returned (.int .i64 (r:Nat))/\(r:Int)<n/\A6b w' q/\A1e q w w'
theorem A2w(w:World)(q:Nat)(n:Int)(h:A6b w q)(hn:2<=n)(hm:n<=256):
  Calls Tryz.prog 40 #[.pointer (some ⟨q,0,none⟩),.int .i64 n] w (E1p q n w):=by
 have HT:=hzz h;obtain⟨ba,bn,bc,bs,k,h1,h2,h3,h4,h5⟩:=h;have HK:=hzz h1;have HS:=hzz h2;have H5:=hzz h5;obtain⟨c0,c1,f0,f1,lt⟩:=h1.box
 have e2:decide (n<2)=false:=by simpa using hn
 clear h1 h2 h5;by_cases hk:bn<=k
 ·have ek:decide (((k:Nat):Int)≥((bn:Nat):Int))=true:=by simpa using hk
  have ek2:decide (bn<=k)=true:=by simpa using hk
  go_enter Tryz.func40,Tryz.ntmps40
  go_upto_region 1 with fail
  go_quiet (fail)
  go_wp2_with fail
  go_ret;exact⟨0,rfl,by omega,HT.out.below (A5b _ _),A1e.of (A5b _ _)⟩
 have ek:decide (((k:Nat):Int)≥((bn:Nat):Int))=false:=by simp;omega
 have ek2:decide (bn<=k)=false:=by simpa using hk
 have hlt:k<bn:=by omega
 go_enter Tryz.func40,Tryz.ntmps40
 go_upto_region 1 with fail
 go_quiet (fail)
 have hbn:=A5b w nq;have HK2:=hzz (HK.out.below hbn);have HS2:=hzz (HS.out.below hbn);have HP2:=hzz (A1e.of hbn:A1e q w _);clear hbn HK HS c0 c1 f0 f1 lt;generalize w.drewN nq=W at*
 obtain⟨c0,c1,f0,f1,lt⟩:=HK2.out.box
 go_upto_region 4 with fail
 have HK3:=hzz (show A8w (W.setCell ⟨q,1,none⟩ (.int .i64 ((k:Nat)+1))) q (.slice ba bn bc) (.int .i64 ((k:Nat)+1)) D3m from HK2.out.set1);have HP3:=hzz (HP2.out.set 1 (.int .i64 ((k:Nat)+1)))
 obtain⟨b,off,hba,hblt,hbc⟩:=HS2.out.2 (by omega);have hbq:=H5.out (by omega) b off hba
 have HS3:=hzz (show Sl A5f (W.setCell ⟨q,1,none⟩ (.int .i64 ((k:Nat)+1))) ba bn bs from HS2.out.keep1 ((A1e.refl q W).set 1 _) (fun h b' off' e=>by have:=H5.out h b' off' e;omega))
 clear c0 c1 f0 f1 lt hblt hbc hbq HP2 HS2 HK2;generalize W.setCell ⟨q,1,none⟩ (.int .i64 ((k:Nat)+1))=V at*;obtain⟨c0,c1,f0,f1,lt⟩:=HK3.out.box;have hl:bs.length=bn:=HS3.out.1
 obtain⟨x,hx⟩:=exz (bs[k])
 have hbx:V.cell? ⟨b,off+k,none⟩=some (.int .u8 (x.toNat:Nat)):=by
  obtain⟨b',off',hb',hlt',hc'⟩:=HS3.out.2 (by omega);rw[hba]at hb'
  cases hb'
  rw[hx];exact hc' k (by omega)
 subst hba;have hxl:x.toNat<256:=x.toNat_lt
 obtain⟨r,hr,hrn⟩:∃r:Nat,Int.tmod (x.toNat:Nat) n=(r:Nat)/\(r:Int)<n:=by
  refine⟨(Int.tmod (x.toNat:Nat) n).toNat,?_,?_⟩
  ·rw[Int.tmod_eq_emod_of_nonneg (Int.natCast_nonneg _)];have:=Int.emod_nonneg (x.toNat:Int) (show n≠0 by omega);omega
  rw[Int.tmod_eq_emod_of_nonneg (Int.natCast_nonneg _)];have:=Int.emod_nonneg (x.toNat:Int) (show n≠0 by omega);have:=Int.emod_lt_of_pos (x.toNat:Int) (show 0<n by omega);omega
 have en0:(n==0)=false:=by rw[beq_eq_false_iff_ne];omega
 clear hx hl;generalize x.toNat=xn at*
 go_quiet (fail)
 go_wp2_with fail
 go_ret;refine⟨r,rfl,hrn,?_,HP3.out.drewN _⟩;exact⟨_,bn,bc,bs,k+1,HK3.out.below (A5b _ _),HS3.out.below (A5b _ _),h3,by omega,H5.out⟩
theorem D0q(w:World)(B q g:Nat)(s:WX)(op:Nat)(c n d:List UInt8)(h:WrS w B q g s)(hn:s.code.length<=200000)(hB:B<=w.heap.size):
  Calls Tryz.prog 79 #[.pointer (some ⟨g,0,none⟩),.int .u8 (op:Nat),.string ⟨c.toArray⟩,.string ⟨n.toArray⟩,.string ⟨d.toArray⟩] w (D5v (.tuple #[]) B q g (s.app ⟨op,0,0,c,n,d,[]⟩) w):=by
 obtain⟨ca,cc,ta,tc,ma,mc,hx⟩:=h;have HX:=hzz hx;obtain⟨c0,c1,c2,c3,c4,c5,f1,f2,f3,f4,f5,lt⟩:=hx.box;have HBB:=hzz hB;clear hx c2 c3 c4 c5 f2 f3 f4 f5 hB
 go_enter Tryz.func79,Tryz.ntmps79
 go_wp2_with (at_builtin;refine A0q A6d rfl _ _ rfl B _ s.code.length _ rfl HX.out.code _ 1 _ _ rfl rfl rfl rfl (by omega) (by unfold maxLen;omega) HBB.out ?_;intro v9 w9 hown9 hg9 hb9;have hown8:w9.ownsRow B A2e 7 v9 (s.code.length+1) ((s.code++[(⟨op,0,0,c,n,d,[]⟩:IN)]).flatMap IN.cells):=(by rw[List.flatMap_append];exact hown9);obtain⟨a9,c9,rfl,-,-⟩:=Ss.ofOwn IN.cells_length (by decide) hown8;have HAP:=hzz (HX.out.app hg9 hown8);have fo:=A0n HAP.out.2.2 1;have lto:=A0r HAP.out.2.2;have co:=A0a HAP.out.2.2 1 rfl;clear hown9 hown8 hg9 hb9 c0 c1 f1 lt)
 go_end0;exact⟨rfl,⟨a9,c9,ta,tc,ma,mc,HAP.out.1⟩,HAP.out.2.1⟩
theorem A7y(w:World)(B q g:Nat)(s:WX)(op:Nat)(h:WrS w B q g s)(hn:s.code.length<=200000)(hB:B<=w.heap.size):
  Calls Tryz.prog 159 #[.pointer (some ⟨g,0,none⟩),.int .u8 (op:Nat)] w (D5v (.int .i64 (s.code.length:Nat)) B q g (s.app ⟨op,0,0,[],[],[],[]⟩) w):=by
 have HO:=hzz (B0h w B q g s op 0 h hn hB);have HN:(s.app ⟨op,0,0,[],[],[],[]⟩).code.length=s.code.length+1:=by unfold WX.app;simp
 generalize s.app ⟨op,0,0,[],[],[],[]⟩=t at*;clear h hB;go_enter Tryz.func159,Tryz.ntmps159
 go_wp2_with fail
 refine HO.out.mono ?_;rintro e w1 ⟨rfl,hs,hk⟩;have HS1:=hzz hs;have HK1:=hzz hk;obtain⟨ca,cc,ta,tc,ma,mc,hx⟩:=hs;obtain⟨c0,c1,c2,c3,c4,c5,f1,f2,f3,f4,f5,lt⟩:=hx.box;rw[HN]at c1
 clear hx c0 c2 c3 c4 c5 f2 f3 f4 f5 hk HN
 go_wp2_with fail
 go_ret;exact⟨rfl,HS1.out,HK1.out⟩
theorem A5u(w:World)(base:Nat)(C:Array Value)(e:TypeId)(m z:Nat)(hb:base<=w.heap.size)(hC:C.size=m*z)(hm:m<=maxLen):(w.alloc (.cells C e)).ownsRow base e z (.slice (some ⟨w.heap.size,0,none⟩) m m) m C.toList:=
 ⟨by simpa using hC,.inr ⟨w.heap.size,m,C,rfl,hb,heap_alloc_last w _,Nat.le_refl _,hm,hC,by rw[List.take_of_length_le (by simpa using Nat.le_of_eq hC)]⟩⟩
theorem B4i(w:World):Calls Tryz.prog 178 #[] w fun e w'=>∃a c,e= .returned (.slice a 7 c)/\w'.ownsRow w.heap.size 9 1 (.slice a 7 c) 7 (([[73],[73],[73],[74],[76,65,59],[91,73],[91,66]]:List (List UInt8)).map B0d)/\Below w.heap.size w w':=by
 go_enter Tryz.func178,Tryz.ntmps178
 go_wp2_with fail
 go_ret;refine⟨_,_,rfl,?_,A0f _ _⟩;exact A5u w w.heap.size (([[73],[73],[73],[74],[76,65,59],[91,73],[91,66]]:List (List UInt8)).map B0d).toArray 9 7 1 nlz rfl (by unfold maxLen;omega)
structure MsX(w0:World)(B q g:Nat)(s0:WX)(k kt km n:Nat)(w:World)(s:WX):Prop where
 st:StX k kt km n s0 s
 wr:WrS w B q g s
 kp:A0z B q w0 w
 hB:B<=w.heap.size
def Ms(w0:World)(B q g:Nat)(s0:WX)(k kt km n:Nat)(w:World):Prop:=∃s,MsX w0 B q g s0 k kt km n w s
def A9y(w0:World)(B q g:Nat)(s0:WX)(k kt km n:Nat)(e:Ending)(w':World):Prop:=e= .returned (.tuple #[])/\Ms w0 B q g s0 k kt km n w'
theorem Ms.zero{w0 w:World}{B q g:Nat}{s:WX}(h:WrS w B q g s)(hi:B4u s)(hk:A0z B q w0 w)(hB:B<=w0.heap.size):Ms w0 B q g s 0 0 0 0 w:=⟨s,StX.refl hi,h,hk,Nat.le_trans hB hk.size⟩
theorem Ms.below{w0 w w':World}{B q g:Nat}{s0:WX}{k kt km n:Nat}(h:Ms w0 B q g s0 k kt km n w)(hb:Below w.heap.size w w'):Ms w0 B q g s0 k kt km n w':=by
 obtain⟨s,h⟩:=h;exact⟨s,h.st,h.wr.below hb,h.kp.trans (A0z.of hb),Nat.le_trans h.hB hb.size⟩
theorem Ms.mono{w0 w:World}{B q g:Nat}{s0:WX}{k kt km n l lt lm m:Nat}(h:Ms w0 B q g s0 k kt km n w)(h1:k<=l)(h2:kt<=lt)(h3:km<=lm)(h4:m<=n):Ms w0 B q g s0 l lt lm m w:=by
 obtain⟨s,h⟩:=h;exact⟨s,h.st.mono h1 h2 h3 h4,h.wr,h.kp,h.hB⟩
theorem Ms.undec{w0 w:World}{B q g:Nat}{s:WX}{k kt km n l lt lm:Nat}(h:Ms w0 B q g s.dec k kt km (n+1) w)(h1:k<=l\/(1<=s.bd-1/\k<=l+40))(h2:kt<=lt\/(1<=s.bd-1/\kt<=lt+1))(h3:km<=lm\/(1<=s.bd-1/\km<=lm+2)):Ms w0 B q g s l lt lm n w:=by
 obtain⟨t,h⟩:=h;exact⟨t,h.st.undec h1 h2 h3,h.wr,h.kp,h.hB⟩
theorem Ms.then{w0 w1 w:World}{B q g:Nat}{s0 s1:WX}{k kt km n l lt lm m:Nat}(h:MsX w0 B q g s0 k kt km n w1 s1)(j:Ms w1 B q g s1 l lt lm m w):Ms w0 B q g s0 (k+l) (kt+lt) (km+lm) (n+m) w:=by
 obtain⟨s,j⟩:=j;exact⟨s,h.st.trans j.st,j.wr,h.kp.trans j.kp,j.hB⟩
theorem Ms.t{w0 w:World}{B q g:Nat}{s0:WX}{k kt km n:Nat}(h:Ms w0 B q g s0 k kt km n w):w.cell? ⟨g,0,none⟩=some (.pointer (some ⟨q,0,none⟩)):=by
 obtain⟨s,h⟩:=h;obtain⟨ca,cc,ta,tc,ma,mc,hx⟩:=h.wr;exact hx.box.c0
theorem MsX.len{w0 w:World}{B q g:Nat}{s0 s:WX}{k kt km n:Nat}(h:MsX w0 B q g s0 k kt km n w s)(hp:B0j s0+k<=150000):s.code.length<=200000:=by
 have h1:=h.st.w;have h2:=h.st.inv.len;unfold B0j at h1 hp;omega
theorem Ms.op{w0 w:World}{B q g:Nat}{s0:WX}{k kt km n:Nat}(h:Ms w0 B q g s0 k kt km n w)(op:Nat)(a:Int)(j:Nat)(hx:∀c,MX c ⟨op,a,0,[],[],[],[]⟩)(hj:A7w ⟨op,a,0,[],[],[],[]⟩<=j)(hp:B0j s0+k<=150000):
  Calls Tryz.prog 77 #[.pointer (some ⟨g,0,none⟩),.int .u8 (op:Nat),.int .i64 a] w (A9y w0 B q g s0 (k+j) kt km (n+1)):=by
 obtain⟨s,h⟩:=h;refine(B0h w B q g s op a h.wr (h.len hp) h.hB).mono ?_;rintro e w' ⟨he,hs,hk⟩
 exact⟨he,_,(h.st.trans (StX.app h.st.inv (hx _))).mono (by omega) nlz nlz nlz,hs,h.kp.trans hk,Nat.le_trans h.hB hk.size⟩
theorem Ms.name{w0 w:World}{B q g:Nat}{s0:WX}{k kt km n:Nat}(h:Ms w0 B q g s0 k kt km n w)(op:Nat)(c m d:List UInt8)(hx:∀l,MX l ⟨op,0,0,c,m,d,[]⟩)(hp:B0j s0+k<=150000):
  Calls Tryz.prog 79 #[.pointer (some ⟨g,0,none⟩),.int .u8 (op:Nat),.string ⟨c.toArray⟩,.string ⟨m.toArray⟩,.string ⟨d.toArray⟩] w (A9y w0 B q g s0 (k+3) kt km (n+1)):=by
 obtain⟨s,h⟩:=h;refine(D0q w B q g s op c m d h.wr (h.len hp) h.hB).mono ?_;rintro e w' ⟨he,hs,hk⟩
 exact⟨he,_,(h.st.trans (StX.app h.st.inv (hx _))).mono (by have:=(A4a (hx 0)).2;omega) nlz nlz nlz,hs,h.kp.trans hk,Nat.le_trans h.hB hk.size⟩
theorem WrS.tape{w:World}{B q g:Nat}{s:WX}(h:WrS w B q g s):A6b w q:=by
 obtain⟨ca,cc,ta,tc,ma,mc,hx⟩:=h;exact hx.tape
theorem WrS.turned{w w':World}{B q g:Nat}{s:WX}(h:WrS w B q g s)(hk:A1e q w w')(ht:A6b w' q):WrS w' B q g s:=by
 obtain⟨ca,cc,ta,tc,ma,mc,hx⟩:=h;exact⟨ca,cc,ta,tc,ma,mc,hx.turned hk ht⟩
theorem WrS.next{w:World}{B q g:Nat}{s:WX}(h:WrS w B q g s)(n:Int)(hn:2<=n)(hm:n<=256):
  Calls Tryz.prog 40 #[.pointer (some ⟨q,0,none⟩),.int .i64 n] w (fun e w'=>∃r:Nat,e= .returned (.int .i64 (r:Nat))/\(r:Int)<n/\WrS w' B q g s/\A1e q w w'):=by
 refine(A2w w q n h.tape hn hm).mono ?_;rintro e w' ⟨r,he,hr,ht,hk⟩;exact⟨r,he,hr,h.turned hk ht,hk⟩
theorem Ms.next{w0 w:World}{B q g:Nat}{s0:WX}{k kt km m:Nat}(h:Ms w0 B q g s0 k kt km m w)(n:Int)(hn:2<=n)(hm:n<=256):
  Calls Tryz.prog 40 #[.pointer (some ⟨q,0,none⟩),.int .i64 n] w (fun e w'=>∃r:Nat,e= .returned (.int .i64 (r:Nat))/\(r:Int)<n/\Ms w0 B q g s0 k kt km m w'/\A1e q w w'):=by
 obtain⟨s,h⟩:=h;refine(h.wr.next n hn hm).mono ?_;rintro e w' ⟨r,he,hr,hs,hk⟩;exact⟨r,he,hr,⟨s,h.st,hs,h.kp.trans (A0z.one hk),Nat.le_trans h.hB hk.size⟩,hk⟩
theorem D0r(c:Nat)(a:Int)(h: -128<=a/\a<=32767):∃op n,MX c ⟨op,n,0,[],[],[],[]⟩/\op<256/\(if-1<=a/\a<=5 then(op:Int)=3+a/\n=0 else if a<128 then op=16/\n=a else op=17/\n=a):=by
 by_cases h1: -1<=a/\a<=5
 ·refine⟨(3+a).toNat,0,C1w c _ 0 0 1 ?_ (.inl rfl) (by omega) (by omega) (by unfold A1h;simp),by omega,by rw[if_pos h1];omega⟩;obtain⟨b,hb⟩:∃b:Nat,b=(3+a).toNat:=⟨_,rfl⟩;rw[<-hb]
  have:b=2\/b=3\/b=4\/b=5\/b=6\/b=7\/b=8:=by omega
  rcases this with rfl|rfl|rfl|rfl|rfl|rfl|rfl<;>decide
 by_cases h2:a<128
 ·exact⟨16,a,C1w c 16 a 0 3 (by decide) (.inl rfl) (by omega) (by omega) (by unfold A1h;simp;omega),by omega,by rw[if_neg h1,if_pos h2];exact⟨rfl,rfl⟩⟩
 exact⟨17,a,C1w c 17 a 0 4 (by decide) (.inl rfl) (by omega) (by omega) (by unfold A1h;simp;omega),by omega,by rw[if_neg h1,if_neg h2];exact⟨rfl,rfl⟩⟩
theorem Ms.number{w0 w:World}{B q g:Nat}{s0:WX}{k kt km n:Nat}(h:Ms w0 B q g s0 k kt km n w)(a:Int)(ha: -128<=a/\a<=32767)(hp:B0j s0+k<=150000):
  Calls Tryz.prog 78 #[.pointer (some ⟨g,0,none⟩),.int .i64 a] w (A9y w0 B q g s0 (k+3) kt km (n+1)):=by
 have HO:=fun(op:Nat) (b:Int) (hx:∀c,MX c ⟨op,b,0,[],[],[],[]⟩)=>h.op op b 3 hx (A4a (hx 0)).2 hp
 by_cases h1: -1<=a/\a<=5
 ·have e1:decide (a≥-1)=true:=by simpa using h1.1
  have e2:decide (a<=5)=true:=by simpa using h1.2
  obtain⟨b,hb⟩:∃b:Nat,(b:Int)=3+a:=⟨(3+a).toNat,by omega⟩
  have e3:IntKind.u8.wrap (3+a)=(b:Nat):=by
   rw[<-hb];have:b=2\/b=3\/b=4\/b=5\/b=6\/b=7\/b=8:=by omega
   rcases this with rfl|rfl|rfl|rfl|rfl|rfl|rfl<;>decide
  have HC:=hzz (HO b 0 (fun c=>by
   obtain⟨op,n,hm,_,hq⟩:=D0r c a ha;rw[if_pos h1]at hq;obtain⟨q1,rfl⟩:=hq
   rwa [show op=b by omega]at hm))
  clear HO hb h;go_enter Tryz.func78,Tryz.ntmps78
  go_wp2_with fail
  refine HC.out.mono ?_;rintro e w1 ⟨rfl,hm⟩
  go_wp2_with fail
  go_end0;exact⟨rfl,hm⟩
 by_cases h2:a<128
 ·have e0:(decide (a≥-1)&&decide (a<=5))=false:=by simp;omega
  have e2:decide (a<128)=true:=by simpa using h2
  have e3:decide (a≥-128)=true:=by simpa using ha.1
  have HC:=hzz (HO 16 a (fun c=>by
   obtain⟨op,n,hm,_,hq⟩:=D0r c a ha;rw[if_neg h1,if_pos h2]at hq;obtain⟨rfl,rfl⟩:=hq;exact hm))
  clear HO h;by_cases h3:a≥-1
  ·have e4:decide (a≥-1)=true:=by simpa using h3
   have e5:decide (a<=5)=false:=by simp;omega
   clear e0;go_enter Tryz.func78,Tryz.ntmps78
   go_wp2_with fail
   refine HC.out.mono ?_;rintro e w1 ⟨rfl,hm⟩
   go_wp2_with fail
   go_end0;exact⟨rfl,hm⟩
  have e4:decide (a≥-1)=false:=by simp;omega
  clear e0;go_enter Tryz.func78,Tryz.ntmps78
  go_wp2_with fail
  refine HC.out.mono ?_;rintro e w1 ⟨rfl,hm⟩
  go_wp2_with fail
  go_end0;exact⟨rfl,hm⟩
 have e1:decide (a≥-1)=true:=by simp;omega
 have e2:decide (a<=5)=false:=by simp;omega
 have e3:decide (a≥-128)=true:=by simpa using ha.1
 have e4:decide (a<128)=false:=by simpa using h2
 have e5:decide (a≥-32768)=true:=by simp;omega
 have e6:decide (a<32768)=true:=by simp;omega
 have HC:=hzz (HO 17 a (fun c=>by
  obtain⟨op,n,hm,_,hq⟩:=D0r c a ha;rw[if_neg h1,if_neg h2]at hq;obtain⟨rfl,rfl⟩:=hq;exact hm))
 clear HO h;go_enter Tryz.func78,Tryz.ntmps78
 go_wp2_with fail
 refine HC.out.mono ?_;rintro e w1 ⟨rfl,hm⟩
 go_wp2_with fail
 go_end0;exact⟨rfl,hm⟩
end
end Go.Proofs.YtclpkipaehpkdaaGreatDoor
