/- asm -/
import Derived.Test.YtclpkipaehpkdaaGreatDoorQ20AsmBack
set_option linter.unusedVariables false
set_option linter.unusedSimpArgs false
set_option maxRecDepth 100000
set_option maxHeartbeats 64000000
open Go.Proofs.Tryz
namespace Go.Proofs.YtclpkipaehpkdaaGreatDoor
section
open Go.ChangeShapes Go.WideShapes Go.ChangeAt Go.RowKit
theorem qG(l:List IN)(x:IN)(r:RW):(vN l x r).pos=r.pos/\(vN l x r).op=r.op:=by
 unfold vN;split<;>exact⟨rfl,rfl⟩
theorem gw{l:List IN}{rs:List RW}{k:Nat}{x:IN}{r:RW}(hx:l[k]? =some x)(hr:rs[k]? =some r):(vp l rs)[k]? =some (vN l x r):=by
 unfold vp;rw[List.getElem?_map,show(l.zip rs)[k]? =some (x,r)from List.getElem?_zip_eq_some.2 ⟨hx,hr⟩];rfl
theorem iK{l:List IN}{rs:List RW}(h:rs.length=l.length):(vp l rs).length=l.length:=by
 unfold vp;simp[h]
theorem D8u{P:List KV}{l:List IN}{x:IN}{r:RW}{p:Nat}(h:qX P x r p):ww P (vN l x r)=true:=by
 unfold vN;split
 ·next h7=>
  unfold ww;dsimp only;rw[h.op,if_pos h7.1]
 exact h.c
theorem fb{P:List KV}{s:LW}{l:List IN}(Zx:∀x∈l,x.op<256)(h:Pl P (s.code l).1)(h0:0<s.l.length):
  ∃L,xW (s.code l).2=(0,L)/\tN l L/\L.map (xT P L)=l/\L.all (ww P)=true/\(s.code l).2.length=yx l l.length:=by
 obtain⟨c,hc⟩:=Z8 (s.raws 0 l);obtain⟨L,hL⟩:=Z8 (vp l c.2);have hm:s.code l=((c.1.goes l l).need (decide ((xt L).1=0)) (xt L).1,(xt L).2):=by subst hL hc;rfl
 rw[hm]at h⊢;dsimp only at h⊢;have kc:0<c.1.l.length:=by rw[hc];exact((LSt.refl s).raws 0 l).pos h0
 have kg:0<(c.1.goes l l).l.length:=((LSt.refl c.1).goes l l).pos kc;have hG:Pl P (c.1.goes l l):=h.back ((LSt.refl _).need _ _ (ik L)) kg
 have hE:(xt L).1=0:=by
  have h1:yj (c.1.goes l l).e (decide ((xt L).1=0)) (xt L).1=0:=h.e;unfold yj at h1;split at h1
  ·exact h1
  next h2=>
  rcases Decidable.em ((xt L).1=0)with h3|h3
  ·exact h3
  exact absurd ⟨decide_eq_false h3,hG.e⟩ h2
 have hC:Pl P c.1:=hG.back ((LSt.refl _).goes l l) kc;have WX:=(fG l l c.1 hG.e).2
 have Yq:∀(k:Nat) (x:IN),l[k]? =some x->∃r,c.2[k]? =some r/\qX P x r (yx l k):=by
  intro k x hx;have:=mg l s 0 Zx (by rw[<-hc];exact hC) h0 k x hx;rw[<-hc,Nat.zero_add]at this;exact this
 have ZR:L.length=l.length:=by rw[hL];exact iK (by rw[hc];exact hJ s 0 l)
 have Nd:∀(k:Nat) (x:IN),l[k]? =some x->∃r,L[k]? =some (vN l x r)/\qX P x r (yx l k):=by
  intro k x hx;obtain⟨r,hr,ho⟩:=Yq k x hx;exact⟨r,by rw[hL];exact gw hx hr,ho⟩
 have Ha:∀(k:Nat) q,L[k]? =some q->∃x r,l[k]? =some x/\q=vN l x r/\qX P x r (yx l k):=by
  intro k q hq;have hk:=(Z4 hq).1;have hx:l[k]? =some l[k]:=List.getElem?_eq_getElem (by omega);obtain⟨r,hr,ho⟩:=Nd k _ hx;rw[hr]at hq;exact⟨_,r,hx,(Option.some.inj hq).symm,ho⟩
 have hw:∀r∈L,r.op<256:=by
  intro q hq;obtain⟨k,hk⟩:=List.getElem?_of_mem hq;obtain⟨x,r,hx,rfl,ho⟩:=Ha k q hk;rw[(qG l x r).2,ho.op];exact Zx x (List.mem_of_getElem? hx)
 obtain⟨Tm,E5⟩:=dK hw (show xt L=(0,(xt L).2)from Prod.ext hE rfl)
 have Ny:tN l L:=⟨ZR,fun k q hq=>by
  obtain⟨x,r,hx,rfl,ho⟩:=Ha k q hq;rw[(qG l x r).1,ho.pos],fun x hx=>by
  obtain⟨k,hk⟩:=List.getElem?_of_mem hx;obtain⟨r,_,ho⟩:=Nd k x hk;exact rT ho.f0 (vg _)⟩
 refine⟨L,E5,Ny,?_,?_,?_⟩
 ·refine List.ext_getElem? fun k=> ?_
  rw[List.getElem?_map]
  cases hx:l[k]? with
  |none=>
   have:L[k]? =none:=by
    rw[List.getElem?_eq_none_iff]at hx⊢;omega
   rw[this];rfl
  |some x=>
  obtain⟨r,hr,ho⟩:=Nd k x hx;rw[hr];show some (xT P L (vN l x r))=some x;congr 1;by_cases h7:yX x.op=7
  ·have hin:=WX x (List.mem_of_getElem? hx) h7;have Pm:=ho.b h7;unfold vN;rw[if_pos ⟨h7,hin⟩];unfold inB at hin;obtain⟨i1,i2⟩:=of_decide_eq_true hin;unfold xT;dsimp only;obtain⟨rp,ro,ra,rb⟩:=r;have Ji:ro=x.op:=ho.op;subst Ji;rw[if_pos h7,Ny.ix (n:=x.n.toNat) (by omega),Option.getD_some,Int.toNat_of_nonneg i1];exact Pm.symm
  unfold vN;rw[if_neg (fun hh=>h7 hh.1)];exact ho.v h7 L
 ·rw[List.all_eq_true];intro q hq;obtain⟨k,hk⟩:=List.getElem?_of_mem hq;obtain⟨x,r,hx,rfl,ho⟩:=Ha k q hk;exact D8u ho
 have key:∀k,k<=L.length->(ym (L.take k)).length=yx l k:=by
  intro k
  induction k with
  |zero=>intro _;rw[mV];rfl
  |succ k ih=>
   intro hk;have hq:L[k]? =some L[k]:=List.getElem?_eq_getElem (by omega);obtain⟨x,r,hx,he,ho⟩:=Ha k _ hq;rw[pf L k _ hq,List.length_append,ih (by omega),pq l k x hx,he,rA _ (by rw[(qG l x r).2,ho.op];exact ho.f0),(qG l x r).2,ho.op];rfl
 have:=key L.length Z5;rw[List.take_length,<-Tm,ZR]at this;exact this
theorem qp{P:List KV}{s:LW}{l:List IN}{n most:Int}(h:Pl P (s.place l n most).1):(0<=n/\n<=most)/\(s.place l n most).2=((yx l n.toNat:Nat):Int):=by
 unfold LW.place at h⊢;by_cases hb:n<0\/most<n
 ·rw[if_pos hb]at h;have:=(uv h.e (show(2:Int)≠0 by decide)).2
  cases this
 rw[if_neg hb];exact⟨by omega,rfl⟩
theorem tN.pl{l:List IN}{L:List RW}(h:tN l L){n:Int}(h0:0<=n)(h1:n<=(l.length:Int) -1)(cn:Nat):plV L cn ((yx l n.toNat:Nat):Int) false=n.toNat/\plC L cn ((yx l n.toNat:Nat):Int) false=true:=by
 have hx:=h.ix (n:=n.toNat) (by omega);unfold plV plC;rw[if_neg (by simp),hx];exact⟨rfl,rfl⟩
theorem tN.pe{l:List IN}{L:List RW}(h:tN l L){n:Int}(h0:0<=n)(h1:n<=(l.length:Int)){cn:Nat}(Yf:cn=yx l l.length):plV L cn ((yx l n.toNat:Nat):Int) true=n.toNat/\plC L cn ((yx l n.toNat:Nat):Int) true=true:=by
 unfold plV plC;by_cases he:n.toNat=l.length
 ·rw[he,Yf,if_pos ⟨rfl,rfl⟩];exact⟨h.n,by simp⟩
 have hx:=h.ix (n:=n.toNat) (by omega)
 have ZF:¬(((yx l n.toNat:Nat):Int)=(cn:Int)):=by
  intro e;rw[Yf]at e;exact he (fZ h.s (by omega) Z5 (by omega))
 rw[if_neg (fun hh=>ZF hh.2),hx];exact⟨rfl,by simp⟩
theorem E2u{P:List KV}{s:LW}{l:List IN}{L:List RW}{t:UT}{cn:Nat}(h:Pl P (s.trap l t).1)(h0:0<s.l.length)(hl:tN l L)(Yf:cn=yx l l.length):
  vU P L cn (s.trap l t).2=t/\vq P L cn (s.trap l t).2=true:=by
 obtain⟨a,ha⟩:=Z8 (s.place l t.fr (l.length-1));obtain⟨b,hb⟩:=Z8 (a.1.place l t.tt l.length);obtain⟨c,hc⟩:=Z8 (b.1.place l t.pl (l.length-1))
 have hm:s.trap l t=if t.cl=[]then(c.1,⟨a.2,b.2,c.2,0⟩)else((c.1.cls t.cl false).1,⟨a.2,b.2,c.2,((c.1.cls t.cl false).2:Nat)⟩):=by subst hc hb ha;rfl
 rw[hm]at h⊢;have ka:0<a.1.l.length:=by rw[ha];exact((LSt.refl s).place _ _ _).pos h0
 have kb:0<b.1.l.length:=by rw[hb];exact((LSt.refl a.1).place _ _ _).pos ka
 have kc:0<c.1.l.length:=by rw[hc];exact((LSt.refl b.1).place _ _ _).pos kb
 have hC:Pl P c.1:=by
  split at h
  ·exact h
  exact h.back ((LSt.refl _).cls _ _) kc
 have hB:Pl P b.1:=hC.back (by rw[hc];exact(LSt.refl _).place _ _ _) kb;have hA:Pl P a.1:=hB.back (by rw[hb];exact(LSt.refl _).place _ _ _) ka;obtain⟨a1,a2⟩:=qp (by rw[<-ha];exact hA);obtain⟨b1,b2⟩:=qp (by rw[<-hb];exact hB);obtain⟨c1,c2⟩:=qp (by rw[<-hc];exact hC);rw[<-ha]at a2;rw[<-hb]at b2;rw[<-hc]at c2;obtain⟨v1,v2⟩:=hl.pl a1.1 a1.2 cn;obtain⟨v3,v4⟩:=hl.pe b1.1 b1.2 Yf;obtain⟨v5,v6⟩:=hl.pl c1.1 c1.2 cn;have e1:((t.fr.toNat:Nat):Int)=t.fr:=Int.toNat_of_nonneg a1.1;have e2:((t.tt.toNat:Nat):Int)=t.tt:=Int.toNat_of_nonneg b1.1;have e3:((t.pl.toNat:Nat):Int)=t.pl:=Int.toNat_of_nonneg c1.1;by_cases ht:t.cl=[]
 ·simp only[if_pos ht];unfold vU vq;dsimp only;rw[a2,b2,c2,v1,v2,v3,v4,v5,v6,e1,e2,e3,if_pos rfl];obtain⟨x,y,z,cl⟩:=t;dsimp only at ht;subst ht;exact⟨rfl,rfl⟩
 simp only[if_neg ht]at h⊢;have q1:=(tB h kc).1;have q2:=nC h kc;have q3:=ev h kc;have q4:¬((((c.1.cls t.cl false).2:Nat):Int)=0):=by omega
 unfold vU vq;dsimp only;rw[a2,b2,c2,v1,v2,v3,v4,v5,v6,e1,e2,e3,if_neg q4,q1,q2];exact⟨rfl,by simp⟩
theorem gN{P:List KV}{l:List IN}{L:List RW}{cn:Nat}(hl:tN l L)(Yf:cn=yx l l.length):∀(ts:List UT) (s:LW),Pl P (s.traps l ts).1->0<s.l.length->
  (s.traps l ts).2.map (vU P L cn)=ts/\(s.traps l ts).2.all (vq P L cn)=true
 |[],s,h,h0=>⟨rfl,rfl⟩
 |t::ts,s,h,h0=>by
  rw[LW.traps]at h⊢;dsimp only at h⊢;have k1:0<(s.trap l t).1.l.length:=((LSt.refl s).trap l t).pos h0;have hT:Pl P (s.trap l t).1:=h.back ((LSt.refl _).traps l ts) k1;obtain⟨q1,q2⟩:=E2u hT h0 hl Yf;obtain⟨q3,q4⟩:=gN hl Yf ts _ h k1;rw[List.map_cons,List.all_cons,q1,q2,q3,q4];exact⟨rfl,rfl⟩
theorem D4q{c:List UInt8}(h:classB c=true):x6 c=false:=by
 have hn:=(mh h).2.1;unfold x6;rw[Bool.and_eq_false_iff];left;rw[decide_eq_false_iff_not];intro e
 cases c with
 |nil=>cases e
 |cons d t=>
 simp at e;subst e;exact hn List.mem_cons_self
theorem E3y{t:List UInt8}(h:vr t=true):uT (u' t)=t:=by
 unfold u';rw[if_pos h];unfold vr at h;simp only[Bool.and_eq_true,decide_eq_true_eq]at h;obtain⟨h1,h2,h3⟩:=h
 cases t with
 |nil=>cases h2
 |cons c t=>
 simp at h2;subst h2;obtain⟨m,hm⟩:=List.getLast?_eq_some_iff.1 h3
 cases m with
 |nil=>
  simp at hm
 |cons d m=>
 simp only[List.cons_append,List.cons.injEq]at hm;obtain⟨rfl,rfl⟩:=hm;unfold uT;simp
theorem E3s{P:List KV}{s:LW}{t:List UInt8}(h:Pl P (s.slot t).1)(h0:0<s.l.length):yD P (s.slot t).2=t/\xa P (s.slot t).2=true:=by
 unfold LW.slot at h⊢;by_cases h1:t=[84]
 ·simp only[if_pos h1];subst h1;exact⟨rfl,rfl⟩
 simp only[if_neg h1]at h⊢;by_cases h2:t=[73]
 ·simp only[if_pos h2];subst h2;exact⟨rfl,rfl⟩
 simp only[if_neg h2]at h⊢;by_cases h3:t=[74]
 ·simp only[if_pos h3];subst h3;exact⟨rfl,rfl⟩
 simp only[if_neg h3]at h⊢;by_cases h4:t=[78]
 ·simp only[if_pos h4];subst h4;exact⟨rfl,rfl⟩
 simp only[if_neg h4]at h⊢;by_cases h5:vr t=true
 ·simp only[if_pos h5]at h⊢;obtain⟨q1,q2⟩:=tB h h0;have BD:classB (u' t)=true:=by simpa using q2
  obtain⟨v1,v2⟩:=rc P ((s.cls (u' t) false).2:Nat);rw[v1,v2];unfold aclsB;rw[q1];dsimp only;rw[D4q BD,BD,E3y h5];exact⟨rfl,rfl⟩
 simp only[if_neg h5]at h⊢;have k0:0<(s.need (x6 t) 8).l.length:=h0;have hS:Pl P (s.need (x6 t) 8):=h.back ((LSt.refl _).cls _ _) k0;have hb:=(uv hS.e (show(8:Int)≠0 by decide)).2;obtain⟨q1,q2⟩:=tB h k0;obtain⟨v1,v2⟩:=rc P (((s.need (x6 t) 8).cls t true).2:Nat);rw[v1,v2];unfold aclsB;rw[q1];dsimp only;rw[if_pos hb,hb];exact⟨rfl,by simp⟩
theorem mr{P:List KV}:∀(ts:List (List UInt8)) (s:LW),Pl P (s.slots ts).1->0<s.l.length->(s.slots ts).2.map (yD P)=ts/\(s.slots ts).2.all (xa P)=true
 |[],s,h,h0=>⟨rfl,rfl⟩
 |t::ts,s,h,h0=>by
  rw[LW.slots]at h⊢;dsimp only at h⊢;have k1:0<(s.slot t).1.l.length:=((LSt.refl s).slot t).pos h0;have hT:Pl P (s.slot t).1:=h.back ((LSt.refl _).slots ts) k1;obtain⟨q1,q2⟩:=E3s hT h0;obtain⟨q3,q4⟩:=mr ts _ h k1;rw[List.map_cons,List.all_cons,q1,q2,q3,q4];exact⟨rfl,rfl⟩
theorem E3x{P:List KV}{s:LW}{l:List IN}{L:List RW}{m:UP}{cn:Nat}(h:Pl P (s.map l m).1)(h0:0<s.l.length)(hl:tN l L):
  uM P L cn (s.map l m).2=m.p/\vj P L cn (s.map l m).2=true:=by
 obtain⟨a,ha⟩:=Z8 (s.place l m.pl (l.length-1));obtain⟨b,hb⟩:=Z8 (a.1.slots m.loc);obtain⟨c,hc⟩:=Z8 (b.1.slots m.stk);have hm:s.map l m=(c.1,⟨a.2,none,0,0,b.2,none,0,0,c.2⟩):=by subst hc hb ha;rfl
 rw[hm]at h⊢;dsimp only at h⊢;have ka:0<a.1.l.length:=by rw[ha];exact((LSt.refl s).place _ _ _).pos h0
 have kb:0<b.1.l.length:=by rw[hb];exact((LSt.refl a.1).slots _).pos ka
 have hB:Pl P b.1:=h.back (by rw[hc];exact(LSt.refl _).slots _) kb;have hA:Pl P a.1:=hB.back (by rw[hb];exact(LSt.refl _).slots _) ka;obtain⟨a1,a2⟩:=qp (by rw[<-ha];exact hA);obtain⟨b1,b2⟩:=mr m.loc a.1 (by rw[<-hb];exact hB) ka;obtain⟨c1,c2⟩:=mr m.stk b.1 (by rw[<-hc];exact h) kb;rw[<-ha]at a2;rw[<-hb]at b1 b2;rw[<-hc]at c1 c2;obtain⟨v1,v2⟩:=hl.pl a1.1 a1.2 cn;have e1:((m.pl.toNat:Nat):Int)=m.pl:=Int.toNat_of_nonneg a1.1;unfold uM vj;dsimp only;rw[a2,v1,v2,e1,b1,b2,c1,c2];exact⟨rfl,rfl⟩
theorem eT{P:List KV}{l:List IN}{L:List RW}{cn:Nat}(hl:tN l L):∀(ts:List UP) (s:LW),Pl P (s.maps l ts).1->0<s.l.length->
  (s.maps l ts).2.map (uM P L cn)=ts.map UP.p/\(s.maps l ts).2.all (vj P L cn)=true
 |[],s,h,h0=>⟨rfl,rfl⟩
 |t::ts,s,h,h0=>by
  rw[LW.maps]at h⊢;dsimp only at h⊢;have k1:0<(s.map l t).1.l.length:=((LSt.refl s).map l t).pos h0;have hT:Pl P (s.map l t).1:=h.back ((LSt.refl _).maps l ts) k1;obtain⟨q1,q2⟩:=E3x (cn:=cn) hT h0 hl;obtain⟨q3,q4⟩:=eT hl ts _ h k1;rw[List.map_cons,List.map_cons,List.all_cons,q1,q2,q3,q4];exact⟨rfl,rfl⟩
theorem fR(st:Bool):decide (xJ st=8)=st:=by cases st<;>rfl
theorem E2f(P:List KV)(L:List RW)(cn:Nat)(l:List KP):l.map (uM P L cn)=(l.map KP.lp).map (uM P L cn)/\l.all (vj P L cn)=(l.map KP.lp).all (vj P L cn):=by
 rw[List.map_map,List.all_map];exact⟨rfl,rfl⟩
theorem D2g{P:List KV}{s:LW}{m:UM}{k:KM}(Zx:∀x∈m.code,x.op<256)(h:Pl P (s.method m).1)(h0:0<s.l.length)(hk:k.lp=(s.method m).2)(Yf:k.cn=k.code.length):vC P k=m.p/\vL P k=true:=by
 obtain⟨s1,Yd⟩:=Z8 (s.need (yk m.nm&&xY m.ds) 8);obtain⟨n,hn⟩:=Z8 (s1.text m.nm);obtain⟨d,hd⟩:=Z8 (n.1.text m.ds);obtain⟨c,hc⟩:∃c,c=(d.1.text wJ).1:=⟨_,rfl⟩
 obtain⟨c2,Yz⟩:=Z8 (if m.maps=[]then c else(c.text wH).1)
 obtain⟨q,hq⟩:=Z8 (c2.code m.code);obtain⟨t,ht⟩:=Z8 (q.1.traps m.code m.traps);obtain⟨p,hp⟩:=Z8 (t.1.maps m.code m.maps);have hm:s.method m=(p.1,⟨xJ m.st,(n.2:Nat),(d.2:Nat),m.sk,m.lo,none,0,0,q.2,none,0,0,t.2,none,0,0,p.2⟩):=by subst hp ht hq Yz hc hd hn Yd;rfl
 rw[hm]at h hk;dsimp only at h hk;have k1:0<s1.l.length:=by rw[Yd];exact h0
 have kn:0<n.1.l.length:=by rw[hn];exact((LSt.refl _).text _).pos k1
 have kd:0<d.1.l.length:=by rw[hd];exact((LSt.refl _).text _).pos kn
 have kc:0<c.l.length:=by rw[hc];exact((LSt.refl _).text _).pos kd
 have NS:LSt c c2:=by
  rw[Yz];split
  ·exact LSt.refl _
  exact(LSt.refl _).text _
 have Ns:=NS.pos kc;have kq:0<q.1.l.length:=by rw[hq];exact((LSt.refl _).code _).pos Ns
 have kt:0<t.1.l.length:=by rw[ht];exact((LSt.refl _).traps _ _).pos kq
 have hT:Pl P t.1:=h.back (by rw[hp];exact(LSt.refl _).maps _ _) kt;have hQ:Pl P q.1:=hT.back (by rw[ht];exact(LSt.refl _).traps _ _) kq;have GS:Pl P c2:=hQ.back (by rw[hq];exact(LSt.refl _).code _) Ns;have hC:Pl P c:=GS.back NS kc;have hD:Pl P d.1:=hC.back (by rw[hc];exact(LSt.refl _).text _) kd;have hN:Pl P n.1:=hD.back (by rw[hd];exact(LSt.refl _).text _) kn;have hS:Pl P s1:=hN.back (by rw[hn];exact(LSt.refl _).text _) k1;have XC:=(uv (by rw[<-Yd];exact hS.e) (show(8:Int)≠0 by decide)).2;obtain⟨n1,n2⟩:=uu (by rw[<-hn];exact hN) k1;obtain⟨d1,d2⟩:=uu (by rw[<-hd];exact hD) kn;rw[<-hn]at n1;rw[<-hd]at d1;obtain⟨L,g1,g2,g3,g4,g5⟩:=fb Zx (by rw[<-hq];exact hQ) Ns;rw[<-hq]at g1 g5;have CZ:k.code=q.2:=congrArg KM.code hk;have Gn:k.cn=yx m.code m.code.length:=by rw[Yf,CZ,g5]
 obtain⟨t1,t2⟩:=gN (P:=P) g2 Gn m.traps q.1 (by rw[<-ht];exact hT) kq;obtain⟨p1,p2⟩:=eT (P:=P) (cn:=k.cn) g2 m.maps t.1 (by rw[<-hp];exact h) kt;rw[<-ht]at t1 t2;rw[<-hp]at p1 p2;have e1:k.fl=xJ m.st:=congrArg KM.fl hk;have e2:k.nm=(n.2:Nat):=congrArg KM.nm hk;have e3:k.ds=(d.2:Nat):=congrArg KM.ds hk;have e4:k.st=m.sk:=congrArg KM.st hk;have e5:k.lo=m.lo:=congrArg KM.lo hk;have e6:k.traps=t.2:=congrArg KM.traps hk;have e7:k.maps.map KP.lp=p.2:=congrArg KM.maps hk;obtain⟨m1,m2⟩:=E2f P L k.cn k.maps;rw[e7]at m1 m2;unfold vC vL;rw[CZ,g1];dsimp only;rw[m1,m2,p1,p2,e6,t1,t2,g3,g4,e1,e2,e3,e4,e5,fR,n1,d1,XC];exact⟨rfl,rfl⟩
theorem je{P:List KV}:∀(l:List UM) (s:LW) (M:List KM),(∀m∈l,∀x∈m.code,x.op<256)->Pl P (s.methods l).1->0<s.l.length->M.map KM.lp=(s.methods l).2->(∀m∈M,m.cn=m.code.length)->M.map (vC P)=l.map UM.p/\M.all (vL P)=true
 |[],s,M,Zx,h,h0,hM,hc=>by
  have:M=[]:=List.map_eq_nil_iff.1 hM;subst this;exact⟨rfl,rfl⟩
 |m::l,s,M,Zx,h,h0,hM,hc=>by
  rw[LW.methods]at h hM;dsimp only at h hM;obtain⟨k,M',rfl,hk,zb⟩:=List.map_eq_cons_iff.1 hM;have k1:0<(s.method m).1.l.length:=((LSt.refl s).method m).pos h0;have hT:Pl P (s.method m).1:=h.back ((LSt.refl _).methods l) k1;obtain⟨q1,q2⟩:=D2g (Zx m List.mem_cons_self) hT h0 hk (hc k List.mem_cons_self);obtain⟨q3,q4⟩:=je l _ M' (fun x hx=>Zx x (List.mem_cons_of_mem _ hx)) h k1 zb (fun x hx=>hc x (List.mem_cons_of_mem _ hx));rw[List.map_cons,List.map_cons,List.all_cons,q1,q2,q3,q4];exact⟨rfl,rfl⟩
theorem E0c{P:List KV}{s:LW}{f:UF}(h:Pl P (s.field f).1)(h0:0<s.l.length):vt P (s.field f).2=f/\ve P (s.field f).2=true:=by
 obtain⟨s1,Yd⟩:=Z8 (s.need (yk f.nm&&typeB f.ds) 8);obtain⟨n,hn⟩:=Z8 (s1.text f.nm);obtain⟨d,hd⟩:=Z8 (n.1.text f.ds);have hm:s.field f=(d.1,⟨xJ f.st,(n.2:Nat),(d.2:Nat)⟩):=by subst hd hn Yd;rfl
 rw[hm]at h⊢;dsimp only at h⊢;have k1:0<s1.l.length:=by rw[Yd];exact h0
 have kn:0<n.1.l.length:=by rw[hn];exact((LSt.refl _).text _).pos k1
 have hN:Pl P n.1:=h.back (by rw[hd];exact(LSt.refl _).text _) kn;have hS:Pl P s1:=hN.back (by rw[hn];exact(LSt.refl _).text _) k1;have XC:=(uv (by rw[<-Yd];exact hS.e) (show(8:Int)≠0 by decide)).2;obtain⟨n1,n2⟩:=uu (by rw[<-hn];exact hN) k1;obtain⟨d1,d2⟩:=uu (by rw[<-hd];exact h) kn;rw[<-hn]at n1;rw[<-hd]at d1;unfold vt ve;dsimp only;rw[n1,d1,fR];exact⟨rfl,XC⟩
theorem iQ{P:List KV}:∀(l:List UF) (s:LW),Pl P (s.fields l).1->0<s.l.length->(s.fields l).2.map (vt P)=l/\(s.fields l).2.all (ve P)=true
 |[],s,h,h0=>⟨rfl,rfl⟩
 |f::l,s,h,h0=>by
  rw[LW.fields]at h⊢;dsimp only at h⊢;have k1:0<(s.field f).1.l.length:=((LSt.refl s).field f).pos h0;have hT:Pl P (s.field f).1:=h.back ((LSt.refl _).fields l) k1;obtain⟨q1,q2⟩:=E0c hT h0;obtain⟨q3,q4⟩:=iQ l _ h k1;rw[List.map_cons,List.all_cons,q1,q2,q3,q4];exact⟨rfl,rfl⟩
theorem E0g(u:UU)(Zx:∀m∈u.methods,∀x∈m.code,x.op<256)(he:un u=0)(f:KF)(hf:f.lp=(xi u).2)(Yf:∀m∈f.methods,m.cn=m.code.length):vK f=true/\ue f=u.p:=by
 have zt:(xi u).1.e=0/\xn (xi u).2=true:=by
  unfold un at he;split at he
  ·next h1=>
   refine⟨h1,?_⟩;split at he
   ·assumption
   exact absurd he (by decide)
  next h1=>exact absurd he h1
 obtain⟨h1,VV⟩:=zt;rw[<-hf,jn]at VV;obtain⟨s,hs⟩:∃s,s=(⟨[kz],0⟩:LW).consts u.methods:=⟨_,rfl⟩;obtain⟨t,ht⟩:=Z8 (s.cls u.nm false)
 obtain⟨p,hp⟩:=Z8 (if u.su=[]then(t.1,0)else t.1.cls u.su false)
 obtain⟨d,hd⟩:=Z8 (p.1.fields u.fields);obtain⟨m,hm⟩:=Z8 (d.1.methods u.methods);have hl:xi u=(m.1,⟨none,0,0,m.1.l,(t.2:Nat),(p.2:Nat),none,0,0,d.2,none,0,0,m.2⟩):=by subst hm hd hp ht hs;rfl
 rw[hl]at h1 hf;dsimp only at h1 hf;have Hy:LSt (⟨[kz],0⟩:LW) s:=by rw[hs];exact(LSt.refl _).consts _
 have ks:0<s.l.length:=Hy.pos (by decide);have ME:LSt s t.1:=by rw[ht];exact(LSt.refl _).cls _ _
 have kt:0<t.1.l.length:=ME.pos ks
 have LX:LSt t.1 p.1:=by
  rw[hp];split
  ·exact LSt.refl _
  exact(LSt.refl _).cls _ _
 have kp:=LX.pos kt;have ET:LSt p.1 d.1:=by rw[hd];exact(LSt.refl _).fields _
 have kd:=ET.pos kp;have E3:LSt d.1 m.1:=by rw[hm];exact(LSt.refl _).methods _
 have km:=E3.pos kd;have hz:kAt m.1.l 0=kz:=kP ((((Hy.trans ME).trans LX).trans ET).trans E3).pre 0 (by decide);have hM:Pl m.1.l m.1:=⟨List.prefix_refl _,h1,km,hz⟩;have hD:=hM.back E3 kd;have hP:=hD.back ET kp;have hT:=hP.back LX kt;have f1:f.pool=m.1.l:=congrArg KF.pool hf;have f2:f.th=(t.2:Nat):=congrArg KF.th hf;have f3:f.su=(p.2:Nat):=congrArg KF.su hf;have f4:f.fields=d.2:=congrArg KF.fields hf;have f5:f.methods.map KM.lp=m.2:=congrArg KF.methods hf;have c1:=(tB (by rw[<-ht];exact hT) ks).1;have c2:=nC (by rw[<-ht];exact hT) ks;rw[<-ht]at c1 c2;obtain⟨d1,d2⟩:=iQ u.fields p.1 (by rw[<-hd];exact hD) kp;rw[<-hd]at d1 d2;obtain⟨m1,m2⟩:=je u.methods d.1 f.methods Zx (by rw[<-hm];exact hM) kd (by rw[<-hm];exact f5) Yf
 have LU:(if f.su=0 then []else(yQ m.1.l f.su).1)=u.su/\(decide (f.su=0)||aclsB m.1.l f.su false)=true:=by
  rw[f3];by_cases hx:u.su=[]
  ·rw[if_pos hx]at hp;subst hp;exact⟨by rw[hx];rfl,rfl⟩
  rw[if_neg hx]at hp;have q1:=(tB (by rw[<-hp];exact hP) kt).1;have q2:=nC (by rw[<-hp];exact hP) kt;have q3:=ev (by rw[<-hp];exact hP) kt;rw[<-hp]at q1 q2 q3;rw[if_neg (by omega),q1,q2];exact⟨rfl,by simp⟩
 unfold vK ue;rw[VV,f1,f4,f2,c1,c2,d1,d2,m1,m2,LU.1,LU.2];exact⟨rfl,rfl⟩
theorem nU{L P:List KV}(hp:L<+:P){i:Nat}(hi:i<L.length):kAt P (i:Int)=kAt L (i:Int):=by
 rw[kP hp i hi,uZ L i hi]
theorem uL{L P:List KV}(hp:L<+:P){a t:Int}(h:isT L a t=true):isT P a t=true/\kAt P a=kAt L a:=by
 have h1:=of_decide_eq_true h;obtain⟨k,rfl,hk,tk⟩:=tU h;have e:=nU hp hk;have hl:=hp.length_le;exact⟨decide_eq_true ⟨h1.1,by omega,by rw[e];exact tk⟩,e⟩
theorem uk{L P:List KV}(hp:L<+:P){a:Int}(h:isT L a 1=true):yN P a=yN L a:=by
 obtain⟨h1,h2⟩:=uL hp h;rw[sC h,sC h1,h2]
theorem iy{L P:List KV}(hp:L<+:P){c:KV}(h:tR L c):tR P c:=by
 unfold tR at h⊢
 rcases h with h|h|h|h|h|h
 ·exact .inl h
 ·exact .inr (.inl h)
 ·exact .inr (.inr (.inl h))
 ·exact .inr (.inr (.inr (.inl ⟨h.1,(uL hp h.2).1⟩)))
 ·exact .inr (.inr (.inr (.inr (.inl ⟨h.1,(uL hp h.2.1).1,(uL hp h.2.2).1⟩))))
 exact .inr (.inr (.inr (.inr (.inr ⟨h.1,(uL hp h.2.1).1,(uL hp h.2.2).1⟩))))
theorem vs.l7{L:List KV}(h:vs L){a:Int}(ha:isT L a 7=true):isT L (kAt L a).a 1=true:=by
 obtain⟨i,rfl,hi,ti⟩:=tU ha
 rcases h.lead i hi (by omega)with h|h|h|h|h|h
 ·omega
 ·omega
 ·omega
 ·exact h.2
 ·omega
 omega
theorem pd{L P:List KV}(hg:vs L)(hp:L<+:P){c:KV}(h:tR L c):xE P c=xE L c:=by
 unfold xE;unfold tR at h;by_cases t1:c.tag=1
 ·rw[if_pos t1,if_pos t1]
 rw[if_neg t1,if_neg t1];by_cases t7:c.tag=7\/c.tag=8
 ·rw[if_pos t7,if_pos t7,uk hp (show isT L c.a 1=true by
   rcases h with h|h|h|h|h|h
   ·omega
   ·omega
   ·omega
   ·exact h.2
   ·omega
   ·omega)]
 rw[if_neg t7,if_neg t7];by_cases t12:c.tag=12
 ·have l1:isT L c.a 1=true/\isT L c.b 1=true:=by
   rcases h with h|h|h|h|h|h
   ·omega
   ·omega
   ·omega
   ·omega
   ·exact h.2
   omega
  rw[if_pos t12,if_pos t12,uk hp l1.1,uk hp l1.2]
 rw[if_neg t12,if_neg t12];by_cases t9:c.tag=9\/c.tag=10
 ·have l1:isT L c.a 7=true/\isT L c.b 12=true:=by
   rcases h with h|h|h|h|h|h
   ·omega
   ·omega
   ·omega
   ·omega
   ·omega
   exact h.2
  obtain⟨m1,m2⟩:=uL hp l1.1;obtain⟨m3,m4⟩:=uL hp l1.2;rw[if_pos t9,if_pos t9,sE m1,sE l1.1,m2,m4,uk hp (hg.l7 l1.1),uk hp (hg.l12 l1.2).1,uk hp (hg.l12 l1.2).2]
 rw[if_neg t9,if_neg t9]
theorem kY(L:List KV)(c:KV)(i:Nat)(hi:i<(xR L c).length):(i<L.length/\kAt (xR L c) i=kAt L i)\/(i=L.length/\kAt (xR L c) i=c)\/(c.tag=5/\i=L.length+1/\kAt (xR L c) i=kz):=by
 by_cases h1:i<L.length
 ·exact .inl ⟨h1,nU (pu L c) h1⟩
 rw[uZ _ i hi];unfold xR at hi⊢;by_cases h2:i=L.length
 ·subst h2;refine .inr (.inl ⟨rfl,?_⟩);rw[List.getElem_append_left (by simp)];simp
 by_cases h5:c.tag=5
 ·simp only[if_pos h5]at hi⊢;have h3:i=L.length+1:=by simp at hi;omega
  subst h3;refine .inr (.inr ⟨h5,rfl,?_⟩);rw[List.getElem_append_right (by simp)];simp
 simp only[if_neg h5,List.append_nil,List.length_append,List.length_singleton]at hi;omega
theorem gu(L:List KV)(c:KV):(xR L c).length=L.length+(if c.tag=5 then 2 else 1):=by
 unfold xR;split<;>simp
theorem kR{l:List KV}{c:KV}(h:vY l c=none)(i:Nat)(hi:i<l.length):kAt l i≠c:=by
 intro he;have h1:=List.findIdx?_eq_none_iff.1 h l[i] (List.getElem_mem hi);rw[uZ l i hi]at he;rw[he]at h1;have h2:eqK c c=true:=tb.2 rfl;rw[h2]at h1
 cases h1
theorem eU:yM kz=true:=by decide
theorem nL{L:List KV}{a:Int}{i:Nat}(h:a=(i:Int)):kAt L a=kAt L (i:Int):=by rw[h]
theorem vs.push{L:List KV}(h:vs L){c:KV}(hc:c.tag≠0)(hb:yM c=true)(hl:tR L c)(hn:vY L c=none):vs (xR L c):=by
 have Wu:=pu L c;have ZR:=gu L c;have Pr:=h.pos;have Yq:=kY L c
 have h1:kAt (xR L c) ((L.length:Nat):Int)=c:=by
  have:=Yq L.length (by rw[ZR];split<;>omega)
  rcases this with h|h|h
  ·omega
  ·exact h.2
  omega
 have hold:∀i:Nat,i<L.length->kAt (xR L c) i=kAt L i:=fun i hi=>nU Wu hi
 refine⟨by rw[ZR];omega,?_,fun i hi t=> ?_,fun i hi t=> ?_,fun i hi=> ?_,fun i hi t=> ?_,fun i j hi hj t e=> ?_⟩
 ·have:=hold 0 Pr;exact this.trans h.z
 ·rcases Yq i hi with⟨k,e⟩|⟨k,e⟩|⟨k,q,e⟩
  ·rw[e]at t
   rcases h.pad i k t with h2|h2
   ·exact .inl h2
   by_cases hz:i=0
   ·exact .inl hz
   refine .inr ?_;rw[nL (show(i:Int) -1=((i-1:Nat):Int) by omega)]at h2⊢;rw[hold (i-1) (by omega)];exact h2
  ·rw[e]at t;exact absurd t hc
  refine .inr ?_;rw[nL (show(i:Int) -1=((L.length:Nat):Int) by omega),h1];exact k
 ·rcases Yq i hi with⟨k,e⟩|⟨k,e⟩|⟨k,q,e⟩
  ·rw[e]at t;obtain⟨h2,h3⟩:=h.nxt i k t;refine⟨by rw[ZR];omega,?_⟩;rw[nL (show(i:Int)+1=((i+1:Nat):Int) by omega)]at h3⊢;rw[hold (i+1) h2];exact h3
  ·rw[e]at t;rw[if_pos t]at ZR;refine⟨by omega,?_⟩;rw[nL (show(i:Int)+1=((i+1:Nat):Int) by omega)]
   rcases Yq (i+1) (by omega)with⟨k2,e2⟩|⟨k2,e2⟩|⟨k2,q2,e2⟩
   ·omega
   ·omega
   rw[e2];rfl
  rw[e]at t;exact absurd t (by decide)
 ·rcases Yq i hi with⟨k,e⟩|⟨k,e⟩|⟨k,q,e⟩
  ·rw[e];exact h.bare i k
  ·rw[e];exact hb
  rw[e];exact eU
 ·rcases Yq i hi with⟨k,e⟩|⟨k,e⟩|⟨k,q,e⟩
  ·rw[e]at t⊢;exact iy Wu (h.lead i k t)
  ·rw[e];exact iy Wu hl
  rw[e]at t;exact absurd rfl t
 rcases Yq i hi with⟨k,e1⟩|⟨k,e1⟩|⟨k,q,e1⟩
 ·rcases Yq j hj with⟨k2,e2⟩|⟨k2,e2⟩|⟨k2,q2,e2⟩
  ·rw[e1]at t;rw[e1,e2]at e;exact h.twin i j k k2 t e
  ·rw[e1,e2]at e;exact absurd e (kR hn i k)
  rw[e,e2]at t;exact absurd rfl t
 ·rcases Yq j hj with⟨k2,e2⟩|⟨k2,e2⟩|⟨k2,q2,e2⟩
  ·rw[e1,e2]at e;exact absurd e.symm (kR hn j k2)
  ·omega
  rw[e,e2]at t;exact absurd rfl t
 rw[e1]at t;exact absurd rfl t
def wtM(m:Mn):Nat:=if m.1=5 then 2 else 1
def xw(l:List Mn):Nat:=(l.map wtM).sum
theorem D5g{S:List Mn}{a:Mn}(h:a∈S):xw S=wtM a+xw (S.erase a):=by
 induction S with
 |nil=>cases h
 |cons b t ih=>
  by_cases e:b=a
  ·subst e;rw[List.erase_cons_head];rfl
  rw[List.erase_cons_tail (by simpa using e)]
  have h2:a∈t:=by
   rcases List.mem_cons.1 h with h|h
   ·exact absurd h.symm e
   exact h
  have:=ih h2;unfold xw at this⊢;rw[List.map_cons,List.sum_cons,List.map_cons,List.sum_cons,this];omega
theorem eK{T:List Mn}:∀{S:List Mn},T.Nodup->(∀m∈T,m∈S)->xw T<=xw S:=by
 induction T with
 |nil=>intro S _ _;exact Nat.zero_le _
 |cons a t ih=>
  intro S hn hs;obtain⟨h1,h2⟩:=List.nodup_cons.1 hn;have ha:=hs a List.mem_cons_self
  have h3:=ih (S:=S.erase a) h2 (fun m hm=>by
   have ZF:m≠a:=fun e=>h1 (e▸hm)
   exact(List.mem_erase_of_ne ZF).2 (hs m (List.mem_cons_of_mem _ hm)))
  rw[D5g ha];unfold xw at h3⊢;rw[List.map_cons,List.sum_cons];omega
structure Good(S:List Mn)(s:LW):Prop where
 e:s.e=0
 g:vs s.l
 c:∃T:List Mn,T.Nodup/\(∀m∈T,m∈S)/\s.l.length=1+xw T/\∀m,m∈T↔∃i:Nat,i<s.l.length/\(kAt s.l i).tag≠0/\xE s.l (kAt s.l i)=m
theorem Good.len{S:List Mn}{s:LW}(h:Good S s):s.l.length<=1+xw S:=by
 obtain⟨T,h1,h2,h3,_⟩:=h.c;have:=eK h1 h2;omega
theorem Good.need{S:List Mn}{s:LW}(h:Good S s){ok:Bool}(XC:ok=true)(k:Int):Good S (s.need ok k):=by
 have:s.need ok k=s:=by
  unfold LW.need;subst XC;have:yj s.e true k=s.e:=by unfold yj;simp
  rw[this]
 rw[this];exact h
theorem Good.put{S:List Mn}{s:LW}(h:Good S s){c:KV}(hS:xw S<=1023)(hc:c.tag≠0)(hb:yM c=true)(hl:tR s.l c)(hm:xE s.l c∈S):Good S (s.put c).1:=by
 unfold LW.put
 cases hx:vY s.l c with
 |some i=>exact h
 |none=>
 have hg:=h.g.push hc hb hl hx;have Wu:=pu s.l c;have ZR:=gu s.l c;obtain⟨T,h1,h2,h3,h4⟩:=h.c
 have Gh:xE s.l c∉T:=by
  intro hin;obtain⟨i,hi,ti,e⟩:=(h4 _).1 hin;exact kR hx i hi (h.g.one (h.g.bare i hi) hb (h.g.lead i hi ti) hl e)
 have hT:∀m∈xE s.l c::T,m∈S:=fun m Jn=>by
  rcases List.mem_cons.1 Jn with rfl|h
  ·exact hm
  exact h2 m h
 have hN:(xE s.l c::T).Nodup:=List.nodup_cons.2 ⟨Gh,h1⟩
 have hL:(xR s.l c).length=1+xw (xE s.l c::T):=by
  rw[ZR,h3];unfold xw;rw[List.map_cons,List.sum_cons]
  have:wtM (xE s.l c)=if c.tag=5 then 2 else 1:=rfl
  rw[this];omega
 have ST:=eK hN hT;refine Good.need (s:=⟨xR s.l c,s.e⟩) ⟨h.e,hg,_,hN,hT,hL,fun m=> ?_⟩ (decide_eq_true (by omega)) 9;constructor
 ·intro hin
  rcases List.mem_cons.1 hin with rfl|hin
  ·refine⟨s.l.length,by show _<(xR s.l c).length;rw[ZR];split<;>omega,?_⟩
   have e:kAt (xR s.l c) ((s.l.length:Nat):Int)=c:=by
    rcases kY s.l c s.l.length (by rw[ZR];split<;>omega)with h|h|h
    ·omega
    ·exact h.2
    omega
   show(kAt (xR s.l c) _).tag≠0/\xE (xR s.l c) (kAt (xR s.l c) _)=_;rw[e];exact⟨hc,pd h.g Wu hl⟩
  obtain⟨i,hi,ti,e⟩:=(h4 _).1 hin;refine⟨i,by show _<(xR s.l c).length;omega,?_⟩;show(kAt (xR s.l c) _).tag≠0/\xE (xR s.l c) (kAt (xR s.l c) _)=_;rw[nU Wu hi];exact⟨ti,(pd h.g Wu (h.g.lead i hi ti)).trans e⟩
 rintro⟨i,hi,ti,e⟩;change(kAt (xR s.l c) i).tag≠0 at ti;change xE (xR s.l c) (kAt (xR s.l c) i)=m at e
 rcases kY s.l c i hi with⟨k,e1⟩|⟨k,e1⟩|⟨k,q,e1⟩
 ·rw[e1]at ti e;rw[pd h.g Wu (h.g.lead i k ti)]at e;exact List.mem_cons_of_mem _ ((h4 _).2 ⟨i,k,ti,e⟩)
 ·rw[e1,pd h.g Wu hl]at e;exact e▸List.mem_cons_self
 rw[e1]at ti;exact absurd rfl ti
theorem Good.at{S:List Mn}{s:LW}{c:KV}(h:Good S s)(h2:Good S (s.put c).1)(hc:c.tag≠0):isT (s.put c).1.l ((s.put c).2:Int) c.tag=true/\kAt (s.put c).1.l ((s.put c).2:Int)=c:=by
 have hp:Pl (s.put c).1.l (s.put c).1:=⟨List.prefix_refl _,h2.e,h2.g.pos,h2.g.z⟩;exact⟨p9 hp h.g.pos hc,(sT hp h.g.pos hc).2.2⟩
def qU(t:List UInt8):Mn:=(1,0,[t])
def nJ(t:List UInt8):Prop:=(wn t).isSome=true/\t.length<=65535
theorem Good.text{S:List Mn}{s:LW}(h:Good S s)(hS:xw S<=1023){t:List UInt8}(ht:nJ t)(hm:qU t∈S):
  Good S (s.text t).1/\isT (s.text t).1.l ((s.text t).2:Int) 1=true/\yN (s.text t).1.l ((s.text t).2:Int)=t:=by
 have h2:Good S (s.text t).1:=h.put (c:=⟨1,0,0,0,t⟩) hS (show(1:Int)≠0 by decide) (by unfold yM;simp) (.inl ⟨rfl,ht.1,ht.2⟩) hm;obtain⟨h3,h4⟩:=h.at (c:=⟨1,0,0,0,t⟩) h2 (show(1:Int)≠0 by decide);refine⟨h2,h3,?_⟩;refine(sC h3).trans ?_;show(kAt (s.put ⟨1,0,0,0,t⟩).1.l ((s.put ⟨1,0,0,0,t⟩).2:Int)).s=t;rw[h4]
def qQ(t:List UInt8):Mn:=(7,0,[t])
theorem Good.cls{S:List Mn}{s:LW}(h:Good S s)(hS:xw S<=1023){t:List UInt8}{arr:Bool}(ht:nJ t)(hb:(classB t||(arr&&x6 t))=true)(hm:qU t∈S)(hn:qQ t∈S):
  Good S (s.cls t arr).1/\isT (s.cls t arr).1.l ((s.cls t arr).2:Int) 7=true/\(yQ (s.cls t arr).1.l ((s.cls t arr).2:Int)).1=t:=by
 obtain⟨s1,Yd⟩:=Z8 (s.need (classB t||(arr&&x6 t)) 8);obtain⟨r,hr⟩:=Z8 (s1.text t);have e:s.cls t arr=r.1.put ⟨7,(r.2:Nat),0,0,[]⟩:=by subst hr Yd;rfl
 rw[e];have g1:Good S s1:=by rw[Yd];exact h.need hb 8
 obtain⟨g2,i2,t2⟩:=g1.text hS ht hm;rw[<-hr]at g2 i2 t2
 have Kk:xE r.1.l ⟨7,(r.2:Nat),0,0,[]⟩=qQ t:=by
  unfold xE qQ;simp[t2]
 have g3:=g2.put (c:=⟨7,(r.2:Nat),0,0,[]⟩) hS (show(7:Int)≠0 by decide) (by unfold yM;simp) (.inr (.inr (.inr (.inl ⟨.inl rfl,i2⟩)))) (by rw[Kk];exact hn);obtain⟨h3,h4⟩:=g2.at g3 (show(7:Int)≠0 by decide);refine⟨g3,h3,?_⟩;have Wu:=qh r.1 ⟨7,(r.2:Nat),0,0,[]⟩;rw[sE h3,h4];show yN (r.1.put ⟨7,(r.2:Nat),0,0,[]⟩).1.l (r.2:Int)=t;rw[uk Wu i2,t2]
def mNt(n d:List UInt8):Mn:=(12,0,[n,d])
def qS(tag:Int)(c n d:List UInt8):Mn:=(tag,0,[c,n,d])
structure tz(S:List Mn)(z:List UInt8):Prop where
 ok:nJ z
 t:qU z∈S
 c:qQ z∈S
structure uQ(S:List Mn)(z:List UInt8):Prop where
 ok:nJ z
 t:qU z∈S
structure nE(S:List Mn)(tag:Int)(x:IN):Prop where
 c:tz S x.cl
 n:uQ S x.nm
 d:uQ S x.ds
 nt:mNt x.nm x.ds∈S
 m:qS tag x.cl x.nm x.ds∈S
theorem Good.member{S:List Mn}{s:LW}(h:Good S s)(hS:xw S<=1023){x:IN}{tag:Int}{p:List UInt8->Bool}(Ub:tag=9\/tag=10)(hb:(yk x.nm&&p x.ds)=true)(hc:classB x.cl=true)(hm:nE S tag x):
  Good S (s.member x tag p).1:=by
 obtain⟨s1,Yd⟩:=Z8 (s.need (yk x.nm&&p x.ds) 8);obtain⟨c,ec⟩:=Z8 (s1.cls x.cl false);obtain⟨n,en⟩:=Z8 (c.1.text x.nm);obtain⟨d,ed⟩:=Z8 (n.1.text x.ds);obtain⟨b,eb⟩:=Z8 (d.1.put ⟨12,(n.2:Nat),(d.2:Nat),0,[]⟩);have e:s.member x tag p=b.1.put ⟨tag,(c.2:Nat),(b.2:Nat),0,[]⟩:=by subst eb ed en ec Yd;rfl
 rw[e];have g1:Good S s1:=by rw[Yd];exact h.need hb 8
 obtain⟨g2,i2,t2⟩:=g1.cls (arr:=false) hS hm.c.ok (by rw[hc];rfl) hm.c.t hm.c.c;rw[<-ec]at g2 i2 t2;obtain⟨g3,i3,t3⟩:=g2.text hS hm.n.ok hm.n.t;rw[<-en]at g3 i3 t3;obtain⟨g4,i4,t4⟩:=g3.text hS hm.d.ok hm.d.t;rw[<-ed]at g4 i4 t4;have Hz:c.1.l<+:n.1.l:=by rw[en];exact qh _ _
 have JZ:n.1.l<+:d.1.l:=by rw[ed];exact qh _ _
 have G':d.1.l<+:b.1.l:=by rw[eb];exact qh _ _
 have DN:=(uL JZ i3).1;have Dz:yN d.1.l (n.2:Int)=x.nm:=(uk JZ i3).trans t3
 have FQ:xE d.1.l ⟨12,(n.2:Nat),(d.2:Nat),0,[]⟩=mNt x.nm x.ds:=by
  unfold xE mNt;simp[Dz,t4]
 have g5:=g4.put (c:=⟨12,(n.2:Nat),(d.2:Nat),0,[]⟩) hS (show(12:Int)≠0 by decide) (by unfold yM;simp) (.inr (.inr (.inr (.inr (.inl ⟨rfl,DN,i4⟩))))) (by rw[FQ];exact hm.nt);obtain⟨i5,k5⟩:=g4.at g5 (show(12:Int)≠0 by decide);rw[<-eb]at g5 i5 k5;have i2a:=uL Hz i2;have i2b:=uL JZ i2a.1;have Fn:=uL G' i2b.1
 have zh:(yQ b.1.l (c.2:Int)).1=x.cl:=by
  rw[sE Fn.1,Fn.2,i2b.2,i2a.2,uk G' (uL JZ (uL Hz (g2.g.l7 i2)).1).1,uk JZ (uL Hz (g2.g.l7 i2)).1,uk Hz (g2.g.l7 i2),<-sE i2,t2]
 have Vj:xE b.1.l ⟨tag,(c.2:Nat),(b.2:Nat),0,[]⟩=qS tag x.cl x.nm x.ds:=by
  have zz:kAt b.1.l (b.2:Int)=⟨12,(n.2:Nat),(d.2:Nat),0,[]⟩:=k5;have u1:yN b.1.l (n.2:Int)=x.nm:=(uk G' DN).trans Dz;have u2:yN b.1.l (d.2:Int)=x.ds:=(uk G' i4).trans t4;unfold xE qS;dsimp only;rw[if_neg (by omega),if_neg (by omega),if_neg (by omega),if_pos Ub,zz,zh,u1,u2]
 exact g5.put (c:=⟨tag,(c.2:Nat),(b.2:Nat),0,[]⟩) hS (show tag≠0 by omega) (by unfold yM;rcases Ub with rfl|rfl<;>simp) (.inr (.inr (.inr (.inr (.inr ⟨Ub,Fn.1,i5⟩))))) (by rw[Vj];exact hm.m)
inductive pW(S:List Mn)(x:IN):Prop where
 |int (h1:x.ds=[73]) (h2:x.op=18) (h3:x.tx=[]) (h4:vu x.n=true) (h5:((3,x.n,[]):Mn)∈S)
 |str (h1:x.ds=[83]) (h2:x.op=18) (h3:x.n=0) (h4:uQ S x.tx) (h5:((8,0,[x.tx]):Mn)∈S)
 |long (h1:x.ds=[74]) (h2:x.op=20) (h3:x.tx=[]) (h5:((5,x.n,[]):Mn)∈S)
theorem Good.con{S:List Mn}{s:LW}(h:Good S s)(hS:xw S<=1023){x:IN}(hx:pW S x):Good S (s.con x).1:=by
 unfold LW.con
 cases hx with
 |int h1 h2 h3 h4 h5=>
  rw[if_pos ⟨h1,h2,h3⟩];have hr:=of_decide_eq_true h4;exact(h.need h4 8).put (c:=⟨3,0,0,x.n,[]⟩) hS (show(3:Int)≠0 by decide) (by unfold yM;simp[hr.1,hr.2]) (.inr (.inl rfl)) h5
 |str h1 h2 h3 h4 h5=>
  rw[if_neg (fun h=>by rw[h1]at h;exact absurd h.1 (by decide)),if_pos ⟨h1,h2,h3⟩];obtain⟨r,hr⟩:=Z8 (s.text x.tx);rw[<-hr];obtain⟨g2,i2,t2⟩:=h.text hS h4.ok h4.t;rw[<-hr]at g2 i2 t2
  have hm:xE r.1.l ⟨8,(r.2:Nat),0,0,[]⟩=(8,0,[x.tx]):=by
   unfold xE;simp[t2]
  exact g2.put (c:=⟨8,(r.2:Nat),0,0,[]⟩) hS (show(8:Int)≠0 by decide) (by unfold yM;simp) (.inr (.inr (.inr (.inl ⟨.inr rfl,i2⟩)))) (by rw[hm];exact h5)
 |long h1 h2 h3 h5=>
 rw[if_neg (fun h=>by rw[h1]at h;exact absurd h.1 (by decide)),if_neg (fun h=>by rw[h1]at h;exact absurd h.1 (by decide)),if_pos ⟨h1,h2,h3⟩];exact h.put (c:=⟨5,0,0,x.n,[]⟩) hS (show(5:Int)≠0 by decide) (by unfold yM;simp) (.inr (.inr (.inl rfl))) h5
inductive ek(S:List Mn)(x:IN):Prop where
 |mem (h1:wK x.op=true) (h2:xx x=true) (h3:(yk x.nm&&typeB x.ds)=true) (h4:classB x.cl=true) (h5:nE S 9 x)
 |inv (h0:wK x.op=false) (h1:vB x.op=true) (h2:xx x=true) (h3:(yk x.nm&&xY x.ds)=true) (h4:classB x.cl=true) (h5:nE S 10 x)
 |cls (h0:wK x.op=false) (h1:vB x.op=false) (h2:tQ x=true) (h3:(classB x.cl||(decide (x.op≠187)&&x6 x.cl))=true) (h5:tz S x.cl)
theorem Good.wide{S:List Mn}{s:LW}(h:Good S s)(hS:xw S<=1023){x:IN}(hx:ek S x):Good S (s.wide x).1:=by
 unfold LW.wide
 cases hx with
 |mem h1 h2 h3 h4 h5=>
  rw[if_pos h1];exact(h.need h2 8).member hS (.inl rfl) h3 h4 h5
 |inv h0 h1 h2 h3 h4 h5=>
  rw[if_neg (by rw[h0];simp),if_pos h1];exact(h.need h2 8).member hS (.inr rfl) h3 h4 h5
 |cls h0 h1 h2 h3 h5=>
 rw[if_neg (by rw[h0];simp),if_neg (by rw[h1];simp)];exact((h.need h2 8).cls hS h5.ok h3 h5.t h5.c).1
inductive tP(S:List Mn)(x:IN):Prop where
 |con (h1:x.op=18\/x.op=20) (h2:x.cl=[]/\x.nm=[]/\x.m=0) (h3:pW S x)
 |wide (h1:x.op≠18/\x.op≠20) (h2:yX x.op=6) (h3:ek S x)
 |plain (h1:x.op≠18/\x.op≠20) (h2:yX x.op≠6/\yX x.op≠0) (h3:sR x=true) (h4:vu x.n=true) (h5:yX x.op≠7->yz ⟨0,x.op,x.n,x.m⟩ (yX x.op)=true)
def pS(S:List Mn)(s0:LW)(x:IN):Prop:=x.op=18->∀t:LW,Good S t->s0.l<+:t.l->(t.con x).2<=255
theorem Good.raw{S:List Mn}{s:LW}(h:Good S s)(hS:xw S<=1023){x:IN}{p:Nat}(hx:tP S x){s0:LW}(hn:pS S s0 x)(hs:s0.l<+:s.l):Good S (s.raw p x).1:=by
 unfold LW.raw
 cases hx with
 |con h1 h2 h3=>
  rw[if_pos h1];have g1:=h.need (decide_eq_true h2) 8;refine(g1.con hS h3).need ?_ 9
  rcases h1 with h1|h1
  ·have:=hn h1 _ g1 hs;simp only[Bool.or_eq_true,decide_eq_true_eq];exact .inr this
  rw[h1];rfl
 |wide h1 h2 h3=>
  rw[if_neg (by omega),if_pos h2];exact h.wide hS h3
 |plain h1 h2 h3 h4 _=>
 rw[if_neg (by omega),if_neg h2.1,if_neg h2.2];exact(h.need h3 8).need h4 8
theorem Good.raws{S:List Mn}(hS:xw S<=1023){s0:LW}:∀(l:List IN) {s:LW} (_:Good S s) (p:Nat) (_:∀x∈l,tP S x) (_:∀x∈l,pS S s0 x) (_:s0.l<+:s.l),Good S (s.raws p l).1
 |[],_,h,_,_,_,_=>h
 |x::l,s,h,p,hx,hn,hs=>by
  rw[LW.raws];exact Good.raws hS l (h.raw hS (hx x List.mem_cons_self) (hn x List.mem_cons_self) hs) _ (fun y hy=>hx y (List.mem_cons_of_mem _ hy)) (fun y hy=>hn y (List.mem_cons_of_mem _ hy)) (hs.trans ((LSt.refl s).raw p x).pre)
theorem Good.goes{S:List Mn}(l:List IN):∀(k:List IN) {s:LW} (_:Good S s) (_:∀x∈k,yX x.op=7->inB l x.n=true),Good S (s.goes l k)
 |[],_,h,_=>h
 |x::k,s,h,hx=>by
  rw[LW.goes];refine Good.goes l k ?_ (fun y hy=>hx y (List.mem_cons_of_mem _ hy));split
  ·next h7=>exact h.need (hx x List.mem_cons_self h7) 2
  exact h
theorem eJ{S:List Mn}{s:LW}{x:IN}(hx:pW S x):(s.con x).2<(s.con x).1.l.length:=by
 unfold LW.con
 cases hx with
 |int h1 h2 h3 h4 h5=>
  rw[if_pos ⟨h1,h2,h3⟩];exact uY _ _
 |str h1 h2 h3 h4 h5=>
  rw[if_neg (fun h=>by rw[h1]at h;exact absurd h.1 (by decide)),if_pos ⟨h1,h2,h3⟩];exact uY _ _
 |long h1 h2 h3 h5=>
 rw[if_neg (fun h=>by rw[h1]at h;exact absurd h.1 (by decide)),if_neg (fun h=>by rw[h1]at h;exact absurd h.1 (by decide)),if_pos ⟨h1,h2,h3⟩];exact uY _ _
theorem E2q(s:LW)(x:IN):(s.wide x).2<(s.wide x).1.l.length:=by
 unfold LW.wide;split
 ·exact uY _ _
 split
 ·exact uY _ _
 exact uY _ _
theorem fz{p:Int}{op:Nat}{a:Int}(h:0<=a/\a<=1024):yz ⟨p,op,a,0⟩ 6=true:=by
 unfold yz;simp;omega
theorem D7s{p:Int}{op:Nat}{a:Int}(h:0<=a/\a<=255):yz ⟨p,op,a,0⟩ 5=true:=by
 unfold yz;simp;omega
theorem D7e{S:List Mn}{s:LW}(h:Good S s)(hS:xw S<=1023){x:IN}{p:Nat}(hx:tP S x){s0:LW}(hn:pS S s0 x)(hs:s0.l<+:s.l):yz (s.raw p x).2 (yX x.op)=true:=by
 unfold LW.raw
 cases hx with
 |con h1 h2 h3=>
  rw[if_pos h1];have g1:=h.need (decide_eq_true h2) 8;have g2:=g1.con hS h3;have hl:=eJ (s:=s.need (decide (x.cl=[]/\x.nm=[]/\x.m=0)) 8) h3;have:=g2.len;dsimp only
  rcases h1 with h1|h1
  ·have PG:=hn h1 _ g1 hs;rw[h1,show yX 18=5 by decide];exact D7s (by omega)
  rw[h1,show yX 20=6 by decide];exact fz (by omega)
 |wide h1 h2 h3=>
  rw[if_neg (by omega),if_pos h2,h2];have:=(h.wide hS h3).len;have:=E2q s x;exact fz (by omega)
 |plain h1 h2 h3 h4 h5=>
 rw[if_neg (by omega),if_neg h2.1,if_neg h2.2];dsimp only;rw[ip h4];by_cases h7:yX x.op=7
 ·have hm:x.m=0:=by
   unfold sR at h3;have:=(of_decide_eq_true h3).1;omega
  rw[hm,h7];unfold yz;simp
 exact h5 h7
theorem iG{S:List Mn}(hS:xw S<=1023){s0:LW}:∀(l:List IN) {s:LW} (_:Good S s) (p:Nat) (_:∀x∈l,tP S x) (_:∀x∈l,pS S s0 x) (_:s0.l<+:s.l) (k:Nat) (x:IN) (_:l[k]? =some x),∃r,(s.raws p l).2[k]? =some r/\yz r (yX x.op)=true
 |[],_,_,_,_,_,_,k,x,hk=>by simp at hk
 |y::l,s,h,p,hx,hn,hs,k,x,hk=>by
  rw[LW.raws]
  cases k with
  |zero=>
   rw[List.getElem?_cons_zero]at hk⊢
   cases hk
   exact⟨_,rfl,D7e h hS (hx y List.mem_cons_self) (hn y List.mem_cons_self) hs⟩
  |succ k=>
  rw[List.getElem?_cons_succ]at hk⊢;exact iG hS l (h.raw hS (hx y List.mem_cons_self) (hn y List.mem_cons_self) hs) _ (fun z hz=>hx z (List.mem_cons_of_mem _ hz)) (fun z hz=>hn z (List.mem_cons_of_mem _ hz)) (hs.trans ((LSt.refl s).raw p y).pre) k x hk
structure pV(l:List IN)(L:List RW):Prop where
 n:L.length=l.length
 at_:∀(k:Nat) (x:IN),l[k]? =some x->∃r,L[k]? =some r/\r.op=x.op/\r.pos=((yx l k:Nat):Int)/\yz r (yX x.op)=true/\(yX x.op=7->inB l x.n=true/\r.a=((yx l x.n.toNat:Nat):Int))/\yX x.op≠0
theorem pV.enc{l:List IN}{L:List RW}(h:pV l L):∀k,k<=l.length->(ym (L.take k)).length=yx l k:=by
 intro k
 induction k with
 |zero=>intro _;rw[mV,List.take_zero];rfl
 |succ k ih=>
  intro hk;have hx:l[k]? =some l[k]:=List.getElem?_eq_getElem (by omega);obtain⟨r,hr,ho,_,_,_,h0⟩:=h.at_ k _ hx;obtain⟨hj,he⟩:=Z4 hr;rw[List.take_succ_eq_append_getElem hj,qE,List.length_append,ih (by omega),he,pq l k _ hx];have:ym [r]=wC r:=by unfold ym;simp
  rw[this,rA r (by rw[ho];exact h0),ho];rfl
theorem pV.ok{l:List IN}{L:List RW}(h:pV l L)(hl:yx l l.length<=4096):(xt L).1=0:=by
 have hn:=h.n
 have Mr:∀(k:Nat) (hk:k<L.length),∃x,l[k]? =some x/\∃r,L[k]? =some r/\r.op=x.op/\r.pos=((yx l k:Nat):Int)/\yz r (yX x.op)=true/\(yX x.op=7->inB l x.n=true/\r.a=((yx l x.n.toNat:Nat):Int)):=fun k hk=>by
  have hx:l[k]? =some l[k]:=List.getElem?_eq_getElem (by omega);obtain⟨r,h1,h2,h3,h4,h5,_⟩:=h.at_ k _ hx;exact⟨_,hx,r,h1,h2,h3,h4,h5⟩
 have c1:(List.range L.length).all (xd L)=true:=by
  rw[List.all_eq_true];intro k hk;have hk:=List.mem_range.1 hk;obtain⟨x,hx,r,hr,ho,hp,hf,_⟩:=Mr k hk;unfold xd;rw[hr];simp only[Bool.and_eq_true,decide_eq_true_eq];exact⟨by rw[ho];exact hf,by rw[hp,h.enc k (by omega)]⟩
 have c2:wL L=true:=by
  unfold wL;rw[List.all_eq_true];intro q hq;obtain⟨k,hk,rfl⟩:=List.getElem_of_mem hq;obtain⟨x,hx,r,hr,ho,hp,hf,h7⟩:=Mr k hk;rw[List.getElem?_eq_getElem hk]at hr
  cases hr
  by_cases e7:yX x.op=7
  ·obtain⟨hb,ha⟩:=h7 e7;have hb:=of_decide_eq_true hb;have hj:x.n.toNat<L.length:=by omega
   obtain⟨y,hy,t,ht,_,Af,_,_⟩:=Mr x.n.toNat hj;rw[Bool.or_eq_true];refine .inr ?_;unfold thereB;rw[List.any_eq_true];refine⟨t,List.mem_of_getElem? ht,?_⟩;rw[Af,ha];simp
  rw[Bool.or_eq_true];refine .inl ?_;rw[ho];simp[e7]
 have c3:(ym L).length<=4096:=by
  have:=h.enc l.length Z5;rw[List.take_of_length_le (by omega)]at this;omega
 unfold xt;rw[if_neg (by rw[c1];simp),if_neg (by rw[c2];simp),if_neg (by omega)]
structure kD(S:List Mn)(s0:LW)(l:List IN):Prop where
 op:∀x∈l,x.op<256
 raw:∀x∈l,tP S x
 near:∀x∈l,pS S s0 x
 go:∀x∈l,yX x.op=7->inB l x.n=true
 len:yx l l.length<=4096
 pos:0<yx l l.length
theorem Good.code{S:List Mn}{s:LW}(h:Good S s)(hS:xw S<=1023){s0:LW}{l:List IN}(hl:kD S s0 l)(hs:s0.l<+:s.l):Good S (s.code l).1:=by
 have g1:=Good.raws hS l h 0 hl.raw hl.near hs;have g2:=Good.goes l l g1 hl.go;refine g2.need (decide_eq_true ?_) _;refine pV.ok (l:=l) ⟨iK (hJ s 0 l),fun k x hx=> ?_⟩ hl.len;have hm:=List.mem_of_getElem? hx;obtain⟨r,hr,hf⟩:=iG hS l h 0 hl.raw hl.near hs k x hx;have hp:Pl (s.raws 0 l).1.l (s.raws 0 l).1:=⟨List.prefix_refl _,g1.e,g1.g.pos,g1.g.z⟩;obtain⟨r',WW,ho⟩:=mg l s 0 hl.op hp h.g.pos k x hx;rw[hr]at WW
 cases WW
 have hb:=gw hx hr;obtain⟨b1,b2⟩:=qG l x r;refine⟨_,hb,by rw[b2];exact ho.op,by rw[b1,ho.pos,Nat.zero_add],?_,fun h7=>⟨hl.go x hm h7,?_⟩,ho.f0⟩
 ·unfold vN;split
  ·next h7=>
   rw[h7.1]at hf⊢;exact hf
  exact hf
 unfold vN;rw[if_pos ⟨h7,hl.go x hm h7⟩]
inductive qc(S:List Mn)(t:List UInt8):Prop where
 |tag (h:t=[84]\/t=[73]\/t=[74]\/t=[78])
 |obj (h:vr t=true) (hb:classB (u' t)=true) (hc:tz S (u' t))
 |arr (h:vr t=false) (hb:x6 t=true) (hc:tz S t)
theorem Good.slot{S:List Mn}{s:LW}(h:Good S s)(hS:xw S<=1023){t:List UInt8}(ht:qc S t):Good S (s.slot t).1:=by
 unfold LW.slot;by_cases h1:t=[84]
 ·rw[if_pos h1];exact h
 rw[if_neg h1];by_cases h2:t=[73]
 ·rw[if_pos h2];exact h
 rw[if_neg h2];by_cases h3:t=[74]
 ·rw[if_pos h3];exact h
 rw[if_neg h3];by_cases h4:t=[78]
 ·rw[if_pos h4];exact h
 rw[if_neg h4]
 cases ht with
 |tag h=>rcases h with h|h|h|h<;>contradiction
 |obj h5 hb hc=>
  rw[if_pos h5];exact(h.cls (arr:=false) hS hc.ok (by rw[hb];rfl) hc.t hc.c).1
 |arr h5 hb hc=>
 rw[if_neg (by rw[h5];simp)];exact((h.need hb 8).cls (arr:=true) hS hc.ok (by rw[hb];simp) hc.t hc.c).1
theorem Good.slots{S:List Mn}(hS:xw S<=1023):∀(l:List (List UInt8)) {s:LW} (_:Good S s) (_:∀t∈l,qc S t),Good S (s.slots l).1
 |[],_,h,_=>h
 |t::l,s,h,hx=>by
  rw[LW.slots];exact Good.slots hS l (h.slot hS (hx t List.mem_cons_self)) (fun y hy=>hx y (List.mem_cons_of_mem _ hy))
theorem Good.place{S:List Mn}{s:LW}(h:Good S s){l:List IN}{n most:Int}(hn:0<=n/\n<=most):Good S (s.place l n most).1:=by
 unfold LW.place;rw[if_neg (by omega)];exact h
structure nM(S:List Mn)(l:List IN)(t:UT):Prop where
 fr:0<=t.fr/\t.fr<=(l.length:Int) -1
 tt:0<=t.tt/\t.tt<=(l.length:Int)
 pl:0<=t.pl/\t.pl<=(l.length:Int) -1
 c:t.cl=[]\/(classB t.cl=true/\tz S t.cl)
theorem Good.trap{S:List Mn}{s:LW}(h:Good S s)(hS:xw S<=1023){l:List IN}{t:UT}(ht:nM S l t):Good S (s.trap l t).1:=by
 unfold LW.trap;have g:=((h.place (l:=l) ht.fr).place (l:=l) ht.tt).place (l:=l) ht.pl;by_cases hc:t.cl=[]
 ·dsimp only;rw[if_pos hc];exact g
 dsimp only;rw[if_neg hc]
 rcases ht.c with h1|⟨h1,h2⟩
 ·exact absurd h1 hc
 exact(g.cls (arr:=false) hS h2.ok (by rw[h1];rfl) h2.t h2.c).1
theorem Good.traps{S:List Mn}(hS:xw S<=1023){c:List IN}:∀(l:List UT) {s:LW} (_:Good S s) (_:∀t∈l,nM S c t),Good S (s.traps c l).1
 |[],_,h,_=>h
 |t::l,s,h,hx=>by
  rw[LW.traps];exact Good.traps hS l (h.trap hS (hx t List.mem_cons_self)) (fun y hy=>hx y (List.mem_cons_of_mem _ hy))
structure qV(S:List Mn)(l:List IN)(m:UP):Prop where
 pl:0<=m.pl/\m.pl<=(l.length:Int) -1
 loc:∀t∈m.loc,qc S t
 stk:∀t∈m.stk,qc S t
 n1:m.loc.length<=64
 n2:m.stk.length<=64
theorem Good.map{S:List Mn}{s:LW}(h:Good S s)(hS:xw S<=1023){l:List IN}{m:UP}(hm:qV S l m):Good S (s.map l m).1:=by
 unfold LW.map;exact Good.slots hS _ (Good.slots hS _ (h.place (l:=l) hm.pl) hm.loc) hm.stk
theorem Good.maps{S:List Mn}(hS:xw S<=1023){c:List IN}:∀(l:List UP) {s:LW} (_:Good S s) (_:∀t∈l,qV S c t),Good S (s.maps c l).1
 |[],_,h,_=>h
 |t::l,s,h,hx=>by
  rw[LW.maps];exact Good.maps hS l (h.map hS (hx t List.mem_cons_self)) (fun y hy=>hx y (List.mem_cons_of_mem _ hy))
structure q8(S:List Mn)(s0:LW)(m:UM):Prop where
 nm:yk m.nm=true
 ds:xY m.ds=true
 t1:uQ S m.nm
 t2:uQ S m.ds
 t3:uQ S wJ
 t4:m.maps≠[]->uQ S wH
 sz:0<=m.sk/\m.sk<=64/\0<=m.lo/\m.lo<=64
 code:kD S s0 m.code
 traps:∀t∈m.traps,nM S m.code t
 maps:∀t∈m.maps,qV S m.code t
 n1:m.traps.length<=255
 n2:m.maps.length<=255
theorem Good.method{S:List Mn}{s:LW}(h:Good S s)(hS:xw S<=1023){s0:LW}{m:UM}(hm:q8 S s0 m)(hs:s0.l<+:s.l):Good S (s.method m).1:=by
 obtain⟨s1,e1⟩:=Z8 (s.need (yk m.nm&&xY m.ds) 8);obtain⟨n,en⟩:=Z8 (s1.text m.nm);obtain⟨d,ed⟩:=Z8 (n.1.text m.ds);obtain⟨c,ec⟩:∃c,c=(d.1.text wJ).1:=⟨_,rfl⟩
 obtain⟨c2,C3⟩:=Z8 (if m.maps=[]then c else(c.text wH).1)
 have e:(s.method m).1=((((c2.code m.code).1.traps m.code m.traps).1).maps m.code m.maps).1:=by subst C3 ec ed en e1;rfl
 rw[e];have g1:Good S s1:=by rw[e1];exact h.need (by rw[hm.nm,hm.ds];rfl) 8
 have l1:LSt s s1:=by rw[e1];exact(LSt.refl s).need8 _
 have g2:Good S n.1:=by rw[en];exact(g1.text hS hm.t1.ok hm.t1.t).1
 have l2:LSt s n.1:=by rw[en];exact l1.text _
 have g3:Good S d.1:=by rw[ed];exact(g2.text hS hm.t2.ok hm.t2.t).1
 have l3:LSt s d.1:=by rw[ed];exact l2.text _
 have g4:Good S c:=by rw[ec];exact(g3.text hS hm.t3.ok hm.t3.t).1
 have l4:LSt s c:=by rw[ec];exact l3.text _
 have g5:Good S c2/\LSt s c2:=by
  rw[C3];split
  ·exact⟨g4,l4⟩
  next ZF=>exact⟨(g4.text hS (hm.t4 ZF).ok (hm.t4 ZF).t).1,l4.text _⟩
 exact Good.maps hS _ (Good.traps hS _ (g5.1.code hS hm.code (hs.trans g5.2.pre)) hm.traps) hm.maps
theorem Good.methods{S:List Mn}(hS:xw S<=1023){s0:LW}:∀(l:List UM) {s:LW} (_:Good S s) (_:∀m∈l,q8 S s0 m) (_:s0.l<+:s.l),Good S (s.methods l).1
 |[],_,h,_,_=>h
 |m::l,s,h,hx,hs=>by
  rw[LW.methods];exact Good.methods hS l (h.method hS (hx m List.mem_cons_self) hs) (fun y hy=>hx y (List.mem_cons_of_mem _ hy)) (hs.trans ((LSt.refl s).method m).pre)
structure nR(S:List Mn)(f:UF):Prop where
 nm:yk f.nm=true
 ds:typeB f.ds=true
 t1:uQ S f.nm
 t2:uQ S f.ds
theorem Good.field{S:List Mn}{s:LW}(h:Good S s)(hS:xw S<=1023){f:UF}(hf:nR S f):Good S (s.field f).1:=by
 unfold LW.field;exact(((h.need (show(yk f.nm&&typeB f.ds)=true by rw[hf.nm,hf.ds];rfl) 8).text hS hf.t1.ok hf.t1.t).1.text hS hf.t2.ok hf.t2.t).1
theorem Good.fields{S:List Mn}(hS:xw S<=1023):∀(l:List UF) {s:LW} (_:Good S s) (_:∀f∈l,nR S f),Good S (s.fields l).1
 |[],_,h,_=>h
 |f::l,s,h,hx=>by
  rw[LW.fields];exact Good.fields hS l (h.field hS (hx f List.mem_cons_self)) (fun y hy=>hx y (List.mem_cons_of_mem _ hy))
theorem Good.consts1{S:List Mn}(hS:xw S<=1023):∀(l:List IN) {s:LW} (_:Good S s) (_:∀x∈l,x.op=18->pW S x),Good S (s.consts1 l)
 |[],_,h,_=>h
 |x::l,s,h,hx=>by
  rw[LW.consts1];refine Good.consts1 hS l ?_ (fun y hy=>hx y (List.mem_cons_of_mem _ hy));split
  ·next VS=>exact h.con hS (hx x List.mem_cons_self VS)
  exact h
theorem tP.con18{S:List Mn}{x:IN}(h:tP S x)(VS:x.op=18):pW S x:=by
 cases h with
 |con h1 h2 h3=>exact h3
 |wide h1=>omega
 |plain h1=>omega
theorem Good.consts{S:List Mn}(hS:xw S<=1023):∀(l:List UM) {s:LW} (_:Good S s) (_:∀m∈l,∀x∈m.code,tP S x),Good S (s.consts l)
 |[],_,h,_=>h
 |m::l,s,h,hx=>by
  rw[LW.consts];exact Good.consts hS l (Good.consts1 hS m.code h (fun x hm VS=>(hx m List.mem_cons_self x hm).con18 VS)) (fun y hy=>hx y (List.mem_cons_of_mem _ hy))
theorem D2m(S:List Mn):Good S ⟨[kz],0⟩:=by
 refine⟨rfl,⟨by simp,rfl,fun i hi _=> ?_,fun i hi t=> ?_,fun i hi=> ?_,fun i hi t=> ?_,fun i j hi hj t _=> ?_⟩,[],List.nodup_nil,fun m hm=>(by cases hm),rfl,fun m=> ?_⟩
 ·left;simp at hi;exact hi
 ·obtain rfl:i=0:=by simpa using hi
  exact absurd t (by decide)
 ·obtain rfl:i=0:=by simpa using hi
  exact eU
 ·obtain rfl:i=0:=by simpa using hi
  exact absurd rfl t
 ·obtain rfl:i=0:=by simpa using hi
  exact absurd rfl t
 constructor
 ·intro h;cases h
 rintro⟨i,hi,t,_⟩;obtain rfl:i=0:=by simpa using hi
 exact absurd rfl t
structure qa(S:List Mn)(u:UU):Prop where
 sum:xw S<=1023
 nm:classB u.nm=true/\tz S u.nm
 su:u.su=[]\/(classB u.su=true/\tz S u.su)
 fields:∀f∈u.fields,nR S f
 fn:u.fields.length<=64
 methods:∀m∈u.methods,q8 S ((⟨[kz],0⟩:LW).consts u.methods) m
 mn:u.methods.length<=64
theorem qa.good{S:List Mn}{u:UU}(h:qa S u):Good S (xi u).1:=by
 obtain⟨s,es⟩:∃s,s=(⟨[kz],0⟩:LW).consts u.methods:=⟨_,rfl⟩;obtain⟨t,et⟩:=Z8 (s.cls u.nm false)
 obtain⟨p,ep⟩:=Z8 (if u.su=[]then(t.1,0)else t.1.cls u.su false)
 have e:(xi u).1=((p.1.fields u.fields).1.methods u.methods).1:=by subst ep et es;rfl
 rw[e];have g1:Good S s:=by rw[es];exact Good.consts h.sum _ (D2m S) (fun m hm=>(h.methods m hm).code.raw)
 have g2:Good S t.1:=by rw[et];exact(g1.cls (arr:=false) h.sum h.nm.2.ok (by rw[h.nm.1];rfl) h.nm.2.t h.nm.2.c).1
 have l2:LSt s t.1:=by rw[et];exact(LSt.refl s).cls _ _
 have g3:Good S p.1/\LSt s p.1:=by
  rw[ep];split
  ·exact⟨g2,l2⟩
  next ZF=>
  rcases h.su with h1|⟨h1,h2⟩
  ·exact absurd h1 ZF
  exact⟨(g2.cls (arr:=false) h.sum h2.ok (by rw[h1];rfl) h2.t h2.c).1,l2.cls _ _⟩
 have g4:=Good.fields h.sum u.fields g3.1 h.fields;exact Good.methods h.sum u.methods g4 (fun m hm=>by rw[es];exact h.methods m hm) (g3.2.fields _).pre
theorem vs.ok{L:List KV}(h:vs L)(hl:L.length<=1024):xP L=true:=by
 have hp:=h.pos;have hz:=h.z;unfold xP;simp only[Bool.and_eq_true,decide_eq_true_eq,List.all_eq_true];refine⟨⟨⟨hp,hl⟩,by rw[hz];rfl⟩,fun i hi=> ?_⟩;have hi:=List.mem_range.1 hi;unfold xS;rw[h.bare i hi,Bool.true_and];unfold yn;dsimp only;by_cases t0:(kAt L i).tag=0
 ·rw[if_pos t0]
  rcases h.pad i hi t0 with h1|h1
  ·simp[h1]
  rw[h1];simp
 rw[if_neg t0];have hd:=h.lead i hi t0;have hn:=h.nxt i hi;unfold tR at hd;generalize kAt L (i:Int)=c at*
 rcases hd with⟨e,h1,h2⟩|e|e|⟨e,h1⟩|⟨e,h1,h2⟩|⟨e,h1,h2⟩
 ·rw[if_pos e,h1];simp[h2]
 ·rw[if_neg (by omega),if_pos e]
 ·obtain⟨n1,n2⟩:=hn e;rw[if_neg (by omega),if_neg (by omega),if_pos e,n2];simp[n1]
 ·rw[if_neg (by omega),if_neg (by omega),if_neg (by omega),if_neg (by omega),if_pos e,h1]
 ·rw[if_neg (by omega),if_neg (by omega),if_neg (by omega),if_pos e,h1,h2];rfl
 rw[if_neg (by omega),if_neg (by omega),if_neg (by omega),if_neg (by omega),if_neg (by omega),if_pos e,h1,h2];rfl
theorem qd{P:List KV}{s:LW}{t:List UInt8}{arr:Bool}(h:Pl P (s.cls t arr).1)(h0:0<s.l.length):clsOk P ((s.cls t arr).2:Int)=true:=by
 unfold clsOk;rw[(tB h h0).1]
theorem E2i{P:List KV}{s:LW}{t:List UInt8}(h:Pl P (s.slot t).1)(h0:0<s.l.length):wT P (s.slot t).2=true:=by
 unfold LW.slot at h⊢;by_cases h1:t=[84]
 ·simp only[if_pos h1];rfl
 simp only[if_neg h1]at h⊢;by_cases h2:t=[73]
 ·simp only[if_pos h2];rfl
 simp only[if_neg h2]at h⊢;by_cases h3:t=[74]
 ·simp only[if_pos h3];rfl
 simp only[if_neg h3]at h⊢;by_cases h4:t=[78]
 ·simp only[if_pos h4];rfl
 simp only[if_neg h4]at h⊢;by_cases h5:vr t=true
 ·simp only[if_pos h5]at h⊢;unfold wT;rw[if_pos rfl];exact qd h h0
 simp only[if_neg h5]at h⊢;unfold wT;rw[if_pos rfl];exact qd h h0
theorem my{P:List KV}:∀(ts:List (List UInt8)) (s:LW),Pl P (s.slots ts).1->0<s.l.length->(s.slots ts).2.all (wT P)=true/\(s.slots ts).2.length=ts.length
 |[],s,h,h0=>⟨rfl,rfl⟩
 |t::ts,s,h,h0=>by
  rw[LW.slots]at h⊢;dsimp only at h⊢;have k1:0<(s.slot t).1.l.length:=((LSt.refl s).slot t).pos h0;have hT:Pl P (s.slot t).1:=h.back ((LSt.refl _).slots ts) k1;have q1:=E2i hT h0;obtain⟨q3,q4⟩:=my ts _ h k1;rw[List.all_cons,q1,q3,List.length_cons,List.length_cons,q4];exact⟨rfl,rfl⟩
theorem D5c(l:List IN)(k:Nat):yx l k<=yx l l.length:=by
 unfold yx;have h:l=l.take k++l.drop k:=(List.take_append_drop k l).symm
 have e:(l.map vH).sum=((l.take k).map vH).sum+((l.drop k).map vH).sum:=by
  rw[<-List.sum_append,<-List.map_append,<-h]
 rw[List.take_of_length_le Z5,e];omega
theorem pz{P:List KV}{s:LW}{l:List IN}{n most:Int}(h:Pl P (s.place l n most).1)(hl:yx l l.length<=4096):xe (s.place l n most).2=true:=by
 obtain⟨_,h2⟩:=qp h;rw[h2];have:=D5c l n.toNat;unfold xe;exact decide_eq_true (by omega)
theorem E4j{P:List KV}{s:LW}{l:List IN}{t:UT}(h:Pl P (s.trap l t).1)(h0:0<s.l.length)(hl:yx l l.length<=4096):we P (s.trap l t).2=true:=by
 obtain⟨a,ha⟩:=Z8 (s.place l t.fr (l.length-1));obtain⟨b,hb⟩:=Z8 (a.1.place l t.tt l.length);obtain⟨c,hc⟩:=Z8 (b.1.place l t.pl (l.length-1))
 have hm:s.trap l t=if t.cl=[]then(c.1,⟨a.2,b.2,c.2,0⟩)else((c.1.cls t.cl false).1,⟨a.2,b.2,c.2,((c.1.cls t.cl false).2:Nat)⟩):=by subst hc hb ha;rfl
 rw[hm]at h⊢;have ka:0<a.1.l.length:=by rw[ha];exact((LSt.refl s).place _ _ _).pos h0
 have kb:0<b.1.l.length:=by rw[hb];exact((LSt.refl a.1).place _ _ _).pos ka
 have kc:0<c.1.l.length:=by rw[hc];exact((LSt.refl b.1).place _ _ _).pos kb
 have hC:Pl P c.1:=by
  split at h
  ·exact h
  exact h.back ((LSt.refl _).cls _ _) kc
 have hB:Pl P b.1:=hC.back (by rw[hc];exact(LSt.refl _).place _ _ _) kb;have hA:Pl P a.1:=hB.back (by rw[hb];exact(LSt.refl _).place _ _ _) ka;have w1:=pz (by rw[<-ha];exact hA) hl;have w2:=pz (by rw[<-hb];exact hB) hl;have w3:=pz (by rw[<-hc];exact hC) hl;rw[<-ha]at w1;rw[<-hb]at w2;rw[<-hc]at w3;unfold we;by_cases ht:t.cl=[]
 ·simp only[if_pos ht,List.all_cons,List.all_nil,w1,w2,w3];rfl
 simp only[if_neg ht]at h⊢;simp only[List.all_cons,List.all_nil,w1,w2,w3,qd h kc];simp
theorem gb{P:List KV}{l:List IN}(hl:yx l l.length<=4096):∀(ts:List UT) (s:LW),Pl P (s.traps l ts).1->0<s.l.length->(s.traps l ts).2.all (we P)=true/\(s.traps l ts).2.length=ts.length
 |[],s,h,h0=>⟨rfl,rfl⟩
 |t::ts,s,h,h0=>by
  rw[LW.traps]at h⊢;dsimp only at h⊢;have k1:0<(s.trap l t).1.l.length:=((LSt.refl s).trap l t).pos h0;have hT:Pl P (s.trap l t).1:=h.back ((LSt.refl _).traps l ts) k1;have q1:=E4j hT h0 hl;obtain⟨q3,q4⟩:=gb hl ts _ h k1;rw[List.all_cons,q1,q3,List.length_cons,List.length_cons,q4];exact⟨rfl,rfl⟩
theorem E7d{S:List Mn}{P:List KV}{s:LW}{l:List IN}{m:UP}(h:Pl P (s.map l m).1)(h0:0<s.l.length)(hl:yx l l.length<=4096)(hm:qV S l m):xc P (s.map l m).2=true:=by
 obtain⟨a,ha⟩:=Z8 (s.place l m.pl (l.length-1));obtain⟨b,hb⟩:=Z8 (a.1.slots m.loc);obtain⟨c,hc⟩:=Z8 (b.1.slots m.stk);have he:s.map l m=(c.1,⟨a.2,none,0,0,b.2,none,0,0,c.2⟩):=by subst hc hb ha;rfl
 rw[he]at h⊢;dsimp only at h⊢;have ka:0<a.1.l.length:=by rw[ha];exact((LSt.refl s).place _ _ _).pos h0
 have kb:0<b.1.l.length:=by rw[hb];exact((LSt.refl a.1).slots _).pos ka
 have hB:Pl P b.1:=h.back (by rw[hc];exact(LSt.refl _).slots _) kb;have hA:Pl P a.1:=hB.back (by rw[hb];exact(LSt.refl _).slots _) ka;have w1:=pz (by rw[<-ha];exact hA) hl;obtain⟨b1,b2⟩:=my m.loc a.1 (by rw[<-hb];exact hB) ka;obtain⟨c1,c2⟩:=my m.stk b.1 (by rw[<-hc];exact h) kb;rw[<-ha]at w1;rw[<-hb]at b1 b2;rw[<-hc]at c1 c2;have n1:=hm.n1;have n2:=hm.n2;unfold xc vx;dsimp only;rw[w1,b1,b2,c1,c2];simp;omega
theorem fN{S:List Mn}{P:List KV}{l:List IN}(hl:yx l l.length<=4096):∀(ts:List UP) (s:LW),Pl P (s.maps l ts).1->0<s.l.length->(∀t∈ts,qV S l t)->(s.maps l ts).2.all (xc P)=true/\(s.maps l ts).2.length=ts.length
 |[],s,h,h0,_=>⟨rfl,rfl⟩
 |t::ts,s,h,h0,hx=>by
  rw[LW.maps]at h⊢;dsimp only at h⊢;have k1:0<(s.map l t).1.l.length:=((LSt.refl s).map l t).pos h0;have hT:Pl P (s.map l t).1:=h.back ((LSt.refl _).maps l ts) k1;have q1:=E7d hT h0 hl (hx t List.mem_cons_self);obtain⟨q3,q4⟩:=fN hl ts _ h k1 (fun y hy=>hx y (List.mem_cons_of_mem _ hy));rw[List.all_cons,q1,q3,List.length_cons,List.length_cons,q4];exact⟨rfl,rfl⟩
theorem gh{P:List KV}(hz:kAt P 0=kz){a:Int}{t:List UInt8}(h1:isT P a 1=true)(h2:yN P a=t):0<xm P t:=by
 obtain⟨k,rfl,hk,tk⟩:=tU h1;rw[sC h1,uZ P k hk]at h2;rw[uZ P k hk]at tk;unfold xm
 have hp:wR t P[k]=true:=by
  unfold wR;exact decide_eq_true ⟨tk,h2⟩
 cases hf:P.findIdx? (wR t)with
 |none=>
  have:=List.findIdx?_eq_none_iff.1 hf _ (List.getElem_mem hk);rw[hp]at this
  cases this
 |some i=>
 obtain⟨hi,he,_⟩:=List.findIdx?_eq_some_iff_getElem.1 hf;show 0<i
 rcases Nat.eq_zero_or_pos i with h0|h0
 ·subst h0;have e0:kAt P ((0:Nat):Int)=P[0]:=uZ P 0 hi;rw[<-e0,show((0:Nat):Int)=0 from rfl,hz]at he;have:=(of_decide_eq_true he).1;exact absurd this (by decide)
 exact h0
theorem fV(st:Bool):xJ st=0\/xJ st=8:=by cases st<;>simp[xJ]
theorem D6m{S:List Mn}{s0:LW}{P:List KV}{s:LW}{m:UM}(h:Pl P (s.method m).1)(h0:0<s.l.length)(hm:q8 S s0 m):xF P (s.method m).2=true:=by
 obtain⟨s1,Yd⟩:=Z8 (s.need (yk m.nm&&xY m.ds) 8);obtain⟨n,hn⟩:=Z8 (s1.text m.nm);obtain⟨d,hd⟩:=Z8 (n.1.text m.ds);obtain⟨z,hz⟩:=Z8 (d.1.text wJ)
 obtain⟨c2,Yz⟩:=Z8 (if m.maps=[]then z.1 else(z.1.text wH).1)
 obtain⟨q,hq⟩:=Z8 (c2.code m.code);obtain⟨t,ht⟩:=Z8 (q.1.traps m.code m.traps);obtain⟨p,hp⟩:=Z8 (t.1.maps m.code m.maps);have he:s.method m=(p.1,⟨xJ m.st,(n.2:Nat),(d.2:Nat),m.sk,m.lo,none,0,0,q.2,none,0,0,t.2,none,0,0,p.2⟩):=by subst hp ht hq Yz hz hd hn Yd;rfl
 rw[he]at h⊢;dsimp only at h⊢;have k1:0<s1.l.length:=by rw[Yd];exact h0
 have kn:0<n.1.l.length:=by rw[hn];exact((LSt.refl _).text _).pos k1
 have kd:0<d.1.l.length:=by rw[hd];exact((LSt.refl _).text _).pos kn
 have kc:0<z.1.l.length:=by rw[hz];exact((LSt.refl _).text _).pos kd
 have NS:LSt z.1 c2:=by
  rw[Yz];split
  ·exact LSt.refl _
  exact(LSt.refl _).text _
 have Ns:=NS.pos kc;have kq:0<q.1.l.length:=by rw[hq];exact((LSt.refl _).code _).pos Ns
 have kt:0<t.1.l.length:=by rw[ht];exact((LSt.refl _).traps _ _).pos kq
 have hT:Pl P t.1:=h.back (by rw[hp];exact(LSt.refl _).maps _ _) kt;have hQ:Pl P q.1:=hT.back (by rw[ht];exact(LSt.refl _).traps _ _) kq;have GS:Pl P c2:=hQ.back (by rw[hq];exact(LSt.refl _).code _) Ns;have hC:Pl P z.1:=GS.back NS kc;have hD:Pl P d.1:=hC.back (by rw[hz];exact(LSt.refl _).text _) kd;have hN:Pl P n.1:=hD.back (by rw[hd];exact(LSt.refl _).text _) kn;obtain⟨n1,n2⟩:=uu (by rw[<-hn];exact hN) k1;obtain⟨d1,d2⟩:=uu (by rw[<-hd];exact hD) kn;obtain⟨z1,z2⟩:=uu (by rw[<-hz];exact hC) kd;rw[<-hn]at n1 n2;rw[<-hd]at d1 d2;rw[<-hz]at z1 z2;have f1:=gh h.z z2 z1
 have f2:p.2.length=0\/0<xm P wH:=by
  by_cases ZF:m.maps=[]
  ·left;rw[hp,ZF];rfl
  right;rw[if_neg ZF]at Yz;obtain⟨y1,y2⟩:=uu (by rw[<-Yz];exact GS) kc;exact gh h.z y2 y1
 have hl:=hm.code.len;have Bi:=hm.code.pos;obtain⟨L,_,_,_,_,g5⟩:=fb hm.code.op (by rw[<-hq];exact hQ) Ns;rw[<-hq]at g5;obtain⟨t1,t2⟩:=gb hl m.traps q.1 (by rw[<-ht];exact hT) kq;obtain⟨p1,p2⟩:=fN hl m.maps t.1 (by rw[<-hp];exact h) kt hm.maps;rw[<-ht]at t1 t2;rw[<-hp]at p1 p2;have n3:=hm.n1;have n4:=hm.n2;have sz:=hm.sz;have hf:=fV m.st;unfold xF xK sZ ur tT;dsimp only;rw[n2,d2,t1,p1,decide_eq_true hf,decide_eq_true sz,decide_eq_true (show 0<q.2.length/\q.2.length<=4096/\t.2.length<=255/\p.2.length<=255 by omega),decide_eq_true (show 0<xm P wJ/\(p.2.length=0\/0<xm P wH)from⟨f1,f2⟩)];rfl
theorem jw{S:List Mn}{s0:LW}{P:List KV}:∀(l:List UM) (s:LW),Pl P (s.methods l).1->0<s.l.length->(∀m∈l,q8 S s0 m)->(s.methods l).2.all (xF P)=true/\(s.methods l).2.length=l.length
 |[],s,h,h0,_=>⟨rfl,rfl⟩
 |m::l,s,h,h0,hx=>by
  rw[LW.methods]at h⊢;dsimp only at h⊢;have k1:0<(s.method m).1.l.length:=((LSt.refl s).method m).pos h0;have hT:Pl P (s.method m).1:=h.back ((LSt.refl _).methods l) k1;have q1:=D6m hT h0 (hx m List.mem_cons_self);obtain⟨q3,q4⟩:=jw l _ h k1 (fun y hy=>hx y (List.mem_cons_of_mem _ hy));rw[List.all_cons,q1,q3,List.length_cons,List.length_cons,q4];exact⟨rfl,rfl⟩
theorem D9b{P:List KV}{s:LW}{f:UF}(h:Pl P (s.field f).1)(h0:0<s.l.length):xK P (s.field f).2.fl (s.field f).2.nm (s.field f).2.ds=true:=by
 obtain⟨s1,Yd⟩:=Z8 (s.need (yk f.nm&&typeB f.ds) 8);obtain⟨n,hn⟩:=Z8 (s1.text f.nm);obtain⟨d,hd⟩:=Z8 (n.1.text f.ds);have hm:s.field f=(d.1,⟨xJ f.st,(n.2:Nat),(d.2:Nat)⟩):=by subst hd hn Yd;rfl
 rw[hm]at h⊢;dsimp only at h⊢;have k1:0<s1.l.length:=by rw[Yd];exact h0
 have kn:0<n.1.l.length:=by rw[hn];exact((LSt.refl _).text _).pos k1
 have hN:Pl P n.1:=h.back (by rw[hd];exact(LSt.refl _).text _) kn;obtain⟨n1,n2⟩:=uu (by rw[<-hn];exact hN) k1;obtain⟨d1,d2⟩:=uu (by rw[<-hd];exact h) kn;rw[<-hn]at n2;rw[<-hd]at d2;unfold xK;rw[n2,d2,decide_eq_true (fV f.st)];rfl
theorem ie{P:List KV}:∀(l:List UF) (s:LW),Pl P (s.fields l).1->0<s.l.length->(s.fields l).2.all (fun d=>xK P d.fl d.nm d.ds)=true/\(s.fields l).2.length=l.length
 |[],s,h,h0=>⟨rfl,rfl⟩
 |f::l,s,h,h0=>by
  rw[LW.fields]at h⊢;dsimp only at h⊢;have k1:0<(s.field f).1.l.length:=((LSt.refl s).field f).pos h0;have hT:Pl P (s.field f).1:=h.back ((LSt.refl _).fields l) k1;have q1:=D9b hT h0;obtain⟨q3,q4⟩:=ie l _ h k1;rw[List.all_cons,q1,q3,List.length_cons,List.length_cons,q4];exact⟨rfl,rfl⟩
theorem qa.low{S:List Mn}{u:UU}(h:qa S u):un u=0:=by
 have hg:=h.good;have ZR:=hg.len;have JG:=h.sum;have UD:=hg.g.ok (by omega);have hP:Pl (xi u).1.l (xi u).1:=⟨List.prefix_refl _,hg.e,hg.g.pos,hg.g.z⟩
 suffices hc:xn (xi u).2=true by
  unfold un;rw[if_pos hg.e,if_pos hc]
 obtain⟨s,hs⟩:∃s,s=(⟨[kz],0⟩:LW).consts u.methods:=⟨_,rfl⟩;obtain⟨t,ht⟩:=Z8 (s.cls u.nm false)
 obtain⟨p,hp⟩:=Z8 (if u.su=[]then(t.1,0)else t.1.cls u.su false)
 obtain⟨d,hd⟩:=Z8 (p.1.fields u.fields);obtain⟨m,hm⟩:=Z8 (d.1.methods u.methods);have hl:xi u=(m.1,⟨none,0,0,m.1.l,(t.2:Nat),(p.2:Nat),none,0,0,d.2,none,0,0,m.2⟩):=by subst hm hd hp ht hs;rfl
 rw[hl]at hP UD⊢;dsimp only at hP UD⊢;have Hy:LSt (⟨[kz],0⟩:LW) s:=by rw[hs];exact(LSt.refl _).consts _
 have ks:0<s.l.length:=Hy.pos (by decide);have ME:LSt s t.1:=by rw[ht];exact(LSt.refl _).cls _ _
 have kt:0<t.1.l.length:=ME.pos ks
 have LX:LSt t.1 p.1:=by
  rw[hp];split
  ·exact LSt.refl _
  exact(LSt.refl _).cls _ _
 have kp:=LX.pos kt;have kd:0<d.1.l.length:=by rw[hd];exact((LSt.refl _).fields _).pos kp
 have hD:Pl m.1.l d.1:=hP.back (by rw[hm];exact(LSt.refl _).methods _) kd;have BM:Pl m.1.l p.1:=hD.back (by rw[hd];exact(LSt.refl _).fields _) kp;have hT:Pl m.1.l t.1:=BM.back LX kt;have c1:=qd (by rw[<-ht];exact hT) ks;rw[<-ht]at c1
 have c2:(decide ((p.2:Int)=0)||clsOk m.1.l (p.2:Int))=true:=by
  by_cases LU:u.su=[]
  ·rw[if_pos LU]at hp;rw[hp];rfl
  rw[if_neg LU]at hp;have:=qd (by rw[<-hp];exact BM) kt;rw[<-hp]at this;rw[this,Bool.or_true]
 obtain⟨f1,f2⟩:=ie u.fields p.1 (by rw[<-hd];exact hD) kp;obtain⟨m1,m2⟩:=jw u.methods d.1 (by rw[<-hm];exact hP) kd h.methods;rw[<-hd]at f1 f2;rw[<-hm]at m1 m2;have n1:=h.fn;have n2:=h.mn;unfold xn;dsimp only;rw[UD,c1,c2,f1,m1,decide_eq_true (show d.2.length<=64/\m.2.length<=64 by omega)];rfl
def wY(K:List KV):List Mn:=(List.range K.length).map fun i=>xE K (kAt K (i:Nat))
theorem E2p(l:List Mn):xw l<=2*l.length:=by
 unfold xw
 induction l with
 |nil=>simp
 |cons a t ih=>
  rw[List.map_cons,List.sum_cons,List.length_cons];have:wtM a<=2:=by unfold wtM;split<;>omega
  omega
theorem ja(K:List KV):xw (wY K)<=2*K.length:=by
 have:=E2p (wY K);unfold wY at this⊢;simpa using this
theorem rt{K:List KV}{a t:Int}(h:isT K a t=true):xE K (kAt K a)∈wY K:=by
 obtain⟨k,rfl,hk,_⟩:=tU h;exact List.mem_map.2 ⟨k,List.mem_range.2 hk,rfl⟩
theorem rr{K:List KV}(hp:xP K=true){a t:Int}(h:isT K a t=true):yM (kAt K a)=true/\(kAt K a).tag=t/\∃k:Nat,a=(k:Int)/\yn K k=true:=by
 obtain⟨k,rfl,hk,tk⟩:=tU h;unfold xP at hp;simp only[Bool.and_eq_true,List.all_eq_true]at hp;have h1:=hp.2 k (List.mem_range.2 hk);unfold xS at h1;rw[Bool.and_eq_true]at h1;exact⟨h1.1,tk,k,rfl,h1.2⟩
theorem te{K:List KV}(hp:xP K=true){a:Int}(h:isT K a 1=true):uQ (wY K) (yN K a):=by
 obtain⟨hb,ht,k,rfl,hl⟩:=rr hp h;have hm:=rt h;obtain⟨b1,b2,b3,b4⟩:=ut hb;rw[sC h];unfold yn at hl;dsimp only at hl;rw[if_neg (by omega),if_pos ht,Bool.and_eq_true,decide_eq_true_eq]at hl;refine⟨⟨hl.1,hl.2⟩,?_⟩
 have e:xE K (kAt K (k:Int))=qU (kAt K (k:Int)).s:=by
  unfold xE qU;rw[if_pos ht,ht,show(kAt K (k:Int)).n=0 by omega]
 rw[<-e];exact hm
theorem jv{K:List KV}(hp:xP K=true){a:Int}(h:isT K a 7=true):tz (wY K) (yQ K a).1:=by
 obtain⟨hb,ht,k,rfl,hl⟩:=rr hp h;have hm:=rt h;obtain⟨b1,b2,b3,b4⟩:=ut hb;rw[sE h];unfold yn at hl;dsimp only at hl;rw[if_neg (by omega),if_neg (by omega),if_neg (by omega),if_neg (by omega),if_neg (by omega),if_pos (.inl ht)]at hl;obtain⟨t1,t2⟩:=te hp hl;refine⟨t1,t2,?_⟩
 have e:xE K (kAt K (k:Int))=qQ (yN K (kAt K (k:Int)).a):=by
  unfold xE qQ;rw[if_neg (by omega),if_pos (.inl ht),ht,show(kAt K (k:Int)).n=0 by omega]
 rw[<-e];exact hm
theorem D7r{K:List KV}(hp:xP K=true){a:Int}(h:isT K a 8=true):uQ (wY K) (yN K (kAt K a).a)/\((8,0,[yN K (kAt K a).a]):Mn)∈wY K:=by
 obtain⟨hb,ht,k,rfl,hl⟩:=rr hp h;have hm:=rt h;obtain⟨b1,b2,b3,b4⟩:=ut hb;unfold yn at hl;dsimp only at hl;rw[if_neg (by omega),if_neg (by omega),if_neg (by omega),if_neg (by omega),if_neg (by omega),if_pos (.inr ht)]at hl;refine⟨te hp hl,?_⟩
 have e:xE K (kAt K (k:Int))=(8,0,[yN K (kAt K (k:Int)).a]):=by
  unfold xE;rw[if_neg (by omega),if_pos (.inr ht),ht,show(kAt K (k:Int)).n=0 by omega]
 rw[<-e];exact hm
theorem fU{K:List KV}{a t:Int}(h:isT K a t=true)(ht:t=3\/t=5):((t,(kAt K a).n,[]):Mn)∈wY K:=by
 have hm:=rt h;have h1:=(of_decide_eq_true h).2.2
 have e:xE K (kAt K a)=(t,(kAt K a).n,[]):=by
  unfold xE;rw[if_neg (by omega),if_neg (by omega),if_neg (by omega),if_neg (by omega),h1]
 rw[<-e];exact hm
theorem E4r{K:List KV}(hp:xP K=true){a:Int}(h:isT K a 12=true):uQ (wY K) (yN K (kAt K a).a)/\uQ (wY K) (yN K (kAt K a).b)/\mNt (yN K (kAt K a).a) (yN K (kAt K a).b)∈wY K:=by
 obtain⟨hb,ht,k,rfl,hl⟩:=rr hp h;have hm:=rt h;obtain⟨b1,b2,b3,b4⟩:=ut hb;unfold yn at hl;dsimp only at hl;rw[if_neg (by omega),if_neg (by omega),if_neg (by omega),if_neg (by omega),if_pos ht,Bool.and_eq_true]at hl;refine⟨te hp hl.1,te hp hl.2,?_⟩
 have e:xE K (kAt K (k:Int))=mNt (yN K (kAt K (k:Int)).a) (yN K (kAt K (k:Int)).b):=by
  unfold xE mNt;rw[if_neg (by omega),if_neg (by omega),if_pos ht,ht,show(kAt K (k:Int)).n=0 by omega]
 rw[<-e];exact hm
theorem D9e{K:List KV}(hp:xP K=true){a t:Int}(h:isT K a t=true)(htt:t=9\/t=10):tz (wY K) (yQ K (kAt K a).a).1/\uQ (wY K) (yN K (kAt K (kAt K a).b).a)/\uQ (wY K) (yN K (kAt K (kAt K a).b).b)/\
  mNt (yN K (kAt K (kAt K a).b).a) (yN K (kAt K (kAt K a).b).b)∈wY K/\qS t (yQ K (kAt K a).a).1 (yN K (kAt K (kAt K a).b).a) (yN K (kAt K (kAt K a).b).b)∈wY K:=by
 obtain⟨hb,ht,k,rfl,hl⟩:=rr hp h;have hm:=rt h;obtain⟨b1,b2,b3,b4⟩:=ut hb;unfold yn at hl;dsimp only at hl;rw[if_neg (by omega),if_neg (by omega),if_neg (by omega),if_neg (by omega),if_neg (by omega),if_neg (by omega),if_pos (by omega),Bool.and_eq_true]at hl;obtain⟨n1,n2,n3⟩:=E4r hp hl.2;refine⟨jv hp hl.1,n1,n2,n3,?_⟩
 have e:xE K (kAt K (k:Int))=qS t (yQ K (kAt K (k:Int)).a).1 (yN K (kAt K (kAt K (k:Int)).b).a) (yN K (kAt K (kAt K (k:Int)).b).b):=by
  unfold xE qS;rw[if_neg (by omega),if_neg (by omega),if_neg (by omega),if_pos (by omega),ht,show(kAt K (k:Int)).n=0 by omega]
 rw[<-e];exact hm
theorem E8b{K:List KV}(hz:kAt K 0=kz){a:Int}{t:Int}(h0:0<=a)(h:(kAt K a).tag=t)(ht:t≠0):isT K a t=true:=by
 refine decide_eq_true ⟨?_,?_,h⟩
 ·rcases Int.lt_or_le 0 a with h1|h1
  ·omega
  obtain rfl:a=0:=by omega
  rw[hz]at h;exact absurd h.symm ht
 rcases Int.lt_or_le a K.length with h1|h1
 ·exact h1
 unfold kAt at h;rw[List.getD_eq_getElem?_getD,List.getElem?_eq_none (by omega)]at h;exact absurd h.symm ht
theorem D6e{K:List KV}(hp:xP K=true)(h:∃L:List KV,K=L):(kAt K 0).tag=0:=by
 unfold xP at hp;simp only[Bool.and_eq_true,decide_eq_true_eq]at hp;exact hp.1.2
theorem nX{K:List KV}(hp:xP K=true){a:Int}{t:Int}(h0:0<=a)(h:(kAt K a).tag=t)(ht:t≠0):isT K a t=true:=by
 refine decide_eq_true ⟨?_,?_,h⟩
 ·rcases Int.lt_or_le 0 a with h1|h1
  ·omega
  obtain rfl:a=0:=by omega
  rw[D6e hp ⟨_,rfl⟩]at h;exact absurd h.symm ht
 rcases Int.lt_or_le a K.length with h1|h1
 ·exact h1
 unfold kAt at h;rw[List.getD_eq_getElem?_getD,List.getElem?_eq_none (by omega)]at h;exact absurd h.symm ht
theorem eE{K:List KV}(hp:xP K=true){r:RW}(Zx:r.op=18\/r.op=20)(hc:xj (xG K (yL r) r.a.toNat)=true):tP (wY K) (xG K (yL r) r.a.toNat):=by
 unfold xj at hc;rw[Bool.and_eq_true]at hc;obtain⟨h1,h2⟩:=hc;unfold xG at h1 h2⊢;have h0:(0:Int)<=((r.a.toNat:Nat):Int):=by omega
 generalize((r.a.toNat:Nat):Int)=a at*;by_cases t3:(kAt K a).tag=3
 ·rw[if_pos t3]at h1 h2⊢;have hi:=nX hp h0 t3 (by decide)
  have VS:r.op=18:=by
   rcases Zx with h|h
   ·exact h
   simp[yL,h]at h2
  obtain⟨hb,_,_⟩:=rr hp hi;obtain⟨b1,b2,b3,b4⟩:=ut hb;have hn:vu (kAt K a).n=true:=decide_eq_true (by omega);exact .con (.inl VS) ⟨rfl,rfl,rfl⟩ (.int rfl VS rfl hn (fU hi (.inl rfl)))
 rw[if_neg t3]at h1 h2⊢;by_cases t5:(kAt K a).tag=5
 ·rw[if_pos t5]at h1 h2⊢;have hi:=nX hp h0 t5 (by decide)
  have WR:r.op=20:=by
   rcases Zx with h|h
   ·simp[yL,h]at h2
   exact h
  exact .con (.inr WR) ⟨rfl,rfl,rfl⟩ (.long rfl WR rfl (fU hi (.inr rfl)))
 rw[if_neg t5]at h1 h2⊢;by_cases t8:(kAt K a).tag=8
 ·rw[if_pos t8]at h1 h2⊢;have hi:=nX hp h0 t8 (by decide)
  have VS:r.op=18:=by
   rcases Zx with h|h
   ·exact h
   simp[yL,h]at h2
  obtain⟨s1,s2⟩:=D7r hp hi;exact .con (.inl VS) ⟨rfl,rfl,rfl⟩ (.str rfl VS rfl s1 s2)
 rw[if_neg t8]at h1;simp[yL]at h1
theorem eq{K:List KV}(hp:xP K=true){q:List UInt8->Bool}{x:IN}{a t:Int}(ht:t=9\/t=10)(h:vJ q K a t=true):nE (wY K) t (vi K x a t)/\classB (vi K x a t).cl=true/\(yk (vi K x a t).nm&&q (vi K x a t).ds)=true:=by
 unfold vJ at h;simp only[Bool.and_eq_true]at h;obtain⟨h1,h2,h3,h4⟩:=h
 have hi:isT K a t=true:=by
  unfold xu at h1;split at h1
  ·next h=>exact h.2.1
  simp at h1
 have e:xu K a t=((yQ K (kAt K a).a).1,yN K (kAt K (kAt K a).b).a,yN K (kAt K (kAt K a).b).b,true):=by
  unfold xu at h1⊢;split at h1
  ·next h=>rw[if_pos h]
  simp at h1
 obtain⟨m1,m2,m3,m4,m5⟩:=D9e hp hi ht;unfold vi;rw[e]at h2 h3 h4⊢;exact⟨⟨m1,m2,m3,m4,m5⟩,h2,by rw[Bool.and_eq_true];exact⟨h3,h4⟩⟩
theorem qf{K:List KV}(hp:xP K=true){a:Int}{arr:Bool}(h:aclsB K a arr=true):tz (wY K) (yQ K a).1/\(classB (yQ K a).1||(arr&&x6 (yQ K a).1))=true:=by
 unfold aclsB at h;rw[Bool.and_eq_true]at h
 have hi:isT K a 7=true:=by
  have:=h.1;unfold yQ at this;split at this
  ·assumption
  simp at this
 exact⟨jv hp hi,h.2⟩
theorem mz{S:List Mn}{r:RW}{n m:Int}(h1:r.op≠18/\r.op≠20)(h2:yX r.op≠6/\yX r.op≠0)(hm:m=0\/yX r.op=8)(hn:vu n=true)(hf:yX r.op≠7->yz ⟨0,r.op,n,m⟩ (yX r.op)=true):tP S ⟨r.op,n,m,[],[],[],[]⟩:=
 .plain h1 h2 (decide_eq_true ⟨hm,rfl,rfl,rfl,rfl⟩) hn hf
end
end Go.Proofs.YtclpkipaehpkdaaGreatDoor
