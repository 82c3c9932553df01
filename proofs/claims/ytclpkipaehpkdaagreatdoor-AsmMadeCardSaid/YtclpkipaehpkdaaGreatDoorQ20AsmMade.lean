/- asm -/
import Derived.Test.YtclpkipaehpkdaaGreatDoorQ19AsmMade
import Derived.Test.YtclpkipaehpkdaaGreatDoorQ15AsmMade
set_option linter.unusedVariables false
set_option linter.unusedSimpArgs false
set_option maxRecDepth 100000
set_option maxHeartbeats 64000000
namespace Go.Proofs.YtclpkipaehpkdaaGreatDoor
section
open Go.ChangeShapes Go.WideShapes Go.ChangeAt Go.RowKit
inductive LSt:LW->LW->Prop
 |refl (s:LW):LSt s s
 |need {s t:LW} (h:LSt s t) (ok:Bool) (k:Int) (hk:k=0\/k=8\/k=2\/k=9):LSt s (t.need ok k)
 |put {s t:LW} (h:LSt s t) (c:KV) (hc:c.tag≠0):LSt s (t.put c).1
theorem LSt.trans{s t u:LW}(h:LSt s t)(k:LSt t u):LSt s u:=by
 induction k with
 |refl=>exact h
 |need k ok n hn ih=>exact ih.need ok n hn
 |put k c hc ih=>exact ih.put c hc
theorem LSt.pre{s t:LW}(h:LSt s t):s.l<+:t.l:=by
 induction h with
 |refl=>exact List.prefix_refl _
 |need h ok k hk ih=>exact ih
 |put h c hc ih=>exact ih.trans (B3k _ c)
theorem E1w{s:LW}{c:KV}(h:(s.put c).1.e=0):s.e=0:=by
 unfold LW.put at h;split at h
 ·exact h
 exact C1h h
theorem LSt.e{s t:LW}(h:LSt s t):t.e=0->s.e=0:=by
 induction h with
 |refl=>exact id
 |need h ok k hk ih=>exact fun he=>ih (C1h he)
 |put h c hc ih=>exact fun he=>ih (E1w he)
def E2j(e:Int):Prop:=e=0\/e=8\/e=2\/e=9
theorem LSt.pos{s t:LW}(h:LSt s t)(h0:0<s.l.length):0<t.l.length:=Nat.lt_of_lt_of_le h0 h.pre.length_le
theorem LSt.text{s t:LW}(h:LSt s t)(x:List UInt8):LSt s (t.text x).1:=h.put _ (show(1:Int)≠0 by decide)
theorem LSt.need8{s t:LW}(h:LSt s t)(ok:Bool):LSt s (t.need ok 8):=h.need ok 8 (.inr (.inl rfl))
theorem LSt.need2{s t:LW}(h:LSt s t)(ok:Bool):LSt s (t.need ok 2):=h.need ok 2 (.inr (.inr (.inl rfl)))
theorem LSt.need9{s t:LW}(h:LSt s t)(ok:Bool):LSt s (t.need ok 9):=h.need ok 9 (.inr (.inr (.inr rfl)))
theorem LSt.cls{s t:LW}(h:LSt s t)(x:List UInt8)(arr:Bool):LSt s (t.cls x arr).1:=((h.need8 _).text x).put _ (show(7:Int)≠0 by decide)
theorem LSt.member{s t:LW}(h:LSt s t)(x:IN)(tag:Int)(p:List UInt8->Bool)(ht:tag≠0):LSt s (t.member x tag p).1:=by
 unfold LW.member;dsimp only;exact(((((h.need8 _).cls _ _).text _).text _).put _ (show(12:Int)≠0 by decide)).put _ ht
theorem LSt.con{s t:LW}(h:LSt s t)(x:IN):LSt s (t.con x).1:=by
 unfold LW.con;split
 ·exact(h.need8 _).put _ (show(3:Int)≠0 by decide)
 split
 ·exact(h.text _).put _ (show(8:Int)≠0 by decide)
 split
 ·exact h.put _ (show(5:Int)≠0 by decide)
 exact h.need8 _
theorem LSt.wide{s t:LW}(h:LSt s t)(x:IN):LSt s (t.wide x).1:=by
 unfold LW.wide;split
 ·exact(h.need8 _).member _ _ _ (by decide)
 split
 ·exact(h.need8 _).member _ _ _ (by decide)
 exact(h.need8 _).cls _ _
theorem LSt.raw{s t:LW}(h:LSt s t)(p:Nat)(x:IN):LSt s (t.raw p x).1:=by
 unfold LW.raw;split
 ·exact((h.need8 _).con x).need9 _
 split
 ·exact h.wide x
 split
 ·exact h.need8 _
 exact(h.need8 _).need8 _
theorem LSt.raws{s t:LW}(h:LSt s t)(p:Nat)(l:List IN):LSt s (t.raws p l).1:=by
 induction l generalizing t p with
 |nil=>exact h
 |cons x l ih=>
  rw[LW.raws];exact ih (h.raw p x) _
theorem LSt.goes{s t:LW}(h:LSt s t)(l k:List IN):LSt s (t.goes l k):=by
 induction k generalizing t with
 |nil=>exact h
 |cons x k ih=>
  rw[LW.goes];split
  ·exact ih (h.need2 _)
  exact ih h
theorem C0g(l:List RW):E2j (A1t l).1:=by
 unfold A1t;split
 ·exact .inr (.inl rfl)
 split
 ·exact .inr (.inr (.inl rfl))
 split
 ·exact .inr (.inr (.inr rfl))
 exact .inl rfl
theorem LSt.code{s t:LW}(h:LSt s t)(l:List IN):LSt s (t.code l).1:=((h.raws 0 l).goes l l).need _ _ (C0g _)
theorem LSt.slot{s t:LW}(h:LSt s t)(x:List UInt8):LSt s (t.slot x).1:=by
 unfold LW.slot;split
 ·exact h
 split
 ·exact h
 split
 ·exact h
 split
 ·exact h
 split
 ·exact h.cls _ _
 exact(h.need8 _).cls _ _
theorem LSt.slots{s t:LW}(h:LSt s t)(l:List (List UInt8)):LSt s (t.slots l).1:=by
 induction l generalizing t with
 |nil=>exact h
 |cons x l ih=>
  rw[LW.slots];exact ih (h.slot x)
theorem LSt.place{s t:LW}(h:LSt s t)(l:List IN)(n most:Int):LSt s (t.place l n most).1:=by
 unfold LW.place;split
 ·exact h.need2 _
 exact h
theorem LSt.trap{s t:LW}(h:LSt s t)(l:List IN)(x:UT):LSt s (t.trap l x).1:=by
 unfold LW.trap;dsimp only;have h3:=((h.place l x.fr (l.length-1)).place l x.tt l.length).place l x.pl (l.length-1);split
 ·exact h3
 exact h3.cls _ _
theorem LSt.traps{s t:LW}(h:LSt s t)(c:List IN)(l:List UT):LSt s (t.traps c l).1:=by
 induction l generalizing t with
 |nil=>exact h
 |cons x l ih=>
  rw[LW.traps];exact ih (h.trap c x)
theorem LSt.map{s t:LW}(h:LSt s t)(l:List IN)(x:UP):LSt s (t.map l x).1:=((h.place l x.pl (l.length-1)).slots _).slots _
theorem LSt.maps{s t:LW}(h:LSt s t)(c:List IN)(l:List UP):LSt s (t.maps c l).1:=by
 induction l generalizing t with
 |nil=>exact h
 |cons x l ih=>
  rw[LW.maps];exact ih (h.map c x)
theorem LSt.method{s t:LW}(h:LSt s t)(m:UM):LSt s (t.method m).1:=by
 unfold LW.method;dsimp only;have h1:=(((h.need8 (A5e m.nm&&A3k m.ds)).text m.nm).text m.ds).text A6z;split
 ·exact((h1.code _).traps _ _).maps _ _
 exact(((h1.text B4t).code _).traps _ _).maps _ _
theorem LSt.methods{s t:LW}(h:LSt s t)(l:List UM):LSt s (t.methods l).1:=by
 induction l generalizing t with
 |nil=>exact h
 |cons x l ih=>
  rw[LW.methods];exact ih (h.method x)
theorem LSt.field{s t:LW}(h:LSt s t)(f:UF):LSt s (t.field f).1:=((h.need8 _).text _).text _
theorem LSt.fields{s t:LW}(h:LSt s t)(l:List UF):LSt s (t.fields l).1:=by
 induction l generalizing t with
 |nil=>exact h
 |cons x l ih=>
  rw[LW.fields];exact ih (h.field x)
theorem LSt.consts1{s t:LW}(h:LSt s t)(l:List IN):LSt s (t.consts1 l):=by
 induction l generalizing t with
 |nil=>exact h
 |cons x l ih=>
  rw[LW.consts1];split
  ·exact ih (h.con x)
  exact ih h
theorem LSt.consts{s t:LW}(h:LSt s t)(l:List UM):LSt s (t.consts l):=by
 induction l generalizing t with
 |nil=>exact h
 |cons x l ih=>
  rw[LW.consts];exact ih (h.consts1 x.code)
structure Pl(P:List KV)(s:LW):Prop where
 l:s.l<+:P
 e:s.e=0
 h:0<s.l.length
 z:kAt P 0=kz
theorem Pl.back{P:List KV}{s t:LW}(h:Pl P t)(hs:LSt s t)(h0:0<s.l.length):Pl P s:=⟨hs.pre.trans h.l,hs.e h.e,h0,h.z⟩
theorem A4v{s:LW}{ok:Bool}{k:Int}(h:(s.need ok k).e=0)(hk:k≠0):s.e=0/\ok=true:=(A1f hk).1 h
theorem C1s{l P:List KV}(h:l<+:P)(i:Nat)(hi:i<l.length):kAt P (i:Int)=l[i]:=by
 have hp:=h.length_le;rw[A6t P i (by omega)];exact(h.getElem hi).symm
theorem B1n{P:List KV}{s:LW}{c:KV}(h:Pl P (s.put c).1)(h0:0<s.l.length)(hc:c.tag≠0):
  1<=(s.put c).2/\(s.put c).2<P.length/\kAt P ((s.put c).2:Int)=c:=by
 have key:(s.put c).2<P.length/\kAt P ((s.put c).2:Int)=c:=by
  have hl:=h.l;have hlt:=A5x s c;have hp:=hl.length_le;refine⟨by omega,?_⟩;rw[C1s hl _ hlt]
  have e:(s.put c).1.l[(s.put c).2]? =some c:=by
   unfold LW.put
   cases hx:B2g s.l c with
   |some i=>
    obtain⟨hi,he,_⟩:=List.findIdx?_eq_some_iff_getElem.1 hx;show s.l[i]? =some c;rw[List.getElem?_eq_getElem hi,A8h.1 he]
   |none=>
   show(A2t s.l c)[s.l.length]? =some c;unfold A2t;rw[List.getElem?_append_left (by simp)];simp
  rw[List.getElem?_eq_getElem hlt]at e;exact Option.some.inj e
 refine⟨?_,key⟩
 rcases Nat.eq_zero_or_pos (s.put c).2 with hz|hz
 ·rw[hz]at key;have h1:=key.2;have h2:=h.z;rw[show((0:Nat):Int)=0 from rfl,h2]at h1;exact absurd (by rw[<-h1];rfl) hc
 exact hz
theorem C0a{P:List KV}{s:LW}{c:KV}(h:Pl P (s.put c).1)(h0:0<s.l.length)(hc:c.tag≠0):isT P ((s.put c).2:Int) c.tag=true:=by
 obtain⟨h1,h2,h3⟩:=B1n h h0 hc;unfold isT;rw[h3];exact decide_eq_true ⟨by omega,by omega,rfl⟩
theorem A4x{P:List KV}{s:LW}{t:List UInt8}(h:Pl P (s.text t).1)(h0:0<s.l.length):A1c P ((s.text t).2:Int)=t/\isT P ((s.text t).2:Int) 1=true:=by
 have h1:=C0a (c:=⟨1,0,0,0,t⟩) h h0 (show(1:Int)≠0 by decide);have h2:=(B1n (c:=⟨1,0,0,0,t⟩) h h0 (show(1:Int)≠0 by decide)).2.2;refine⟨?_,h1⟩;unfold A1c
 rw[show isT P ((s.text t).2:Int) 1=true from h1,if_pos rfl];show(kAt P ((s.put ⟨1,0,0,0,t⟩).2:Int)).s=t;rw[h2]
theorem B0a{P:List KV}{s:LW}{t:List UInt8}{arr:Bool}(h:Pl P (s.cls t arr).1)(h0:0<s.l.length):A0s P ((s.cls t arr).2:Int)=(t,true)/\(A1b t||(arr&&A2g t))=true:=by
 obtain⟨s1,hs1⟩:=exz (s.need (A1b t||(arr&&A2g t)) 8);obtain⟨r,hr⟩:=exz (s1.text t);have hm:s.cls t arr=r.1.put ⟨7,(r.2:Nat),0,0,[]⟩:=by subst hr hs1;rfl
 rw[hm]at h⊢;have k1:0<s1.l.length:=by rw[hs1];exact h0
 have kr:0<r.1.l.length:=by rw[hr];exact((LSt.refl s1).text t).pos k1
 have hR:Pl P r.1:=h.back ((LSt.refl r.1).put _ (show(7:Int)≠0 by decide)) kr;have hS:Pl P s1:=hR.back (by rw[hr];exact(LSt.refl s1).text t) k1
 have hb:=(A4v (by rw[<-hs1];exact hS.e) (show(8:Int)≠0 by decide)).2;obtain⟨t1,t2⟩:=A4x (by rw[<-hr];exact hR) k1;rw[<-hr]at t1 t2;have p1:=C0a h kr (show(7:Int)≠0 by decide)
 have p2:=(B1n h kr (show(7:Int)≠0 by decide)).2.2;refine⟨?_,hb⟩;unfold A0s;rw[show isT P ((r.1.put ⟨7,(r.2:Nat),0,0,[]⟩).2:Int) 7=true from p1,if_pos rfl,p2]
 show(A1c P (r.2:Int),isT P (r.2:Int) 1)=(t,true);rw[t1,t2]
theorem D4j{P:List KV}{s:LW}{t:List UInt8}{arr:Bool}(h:Pl P (s.cls t arr).1)(h0:0<s.l.length):1<=(s.cls t arr).2:=by
 have h1:=(B0a h h0).1;unfold A0s at h1;split at h1
 ·next h2=>have:=B0z h2;omega
 simp at h1
theorem D3h{P:List KV}{s:LW}{t:List UInt8}{arr:Bool}(h:Pl P (s.cls t arr).1)(h0:0<s.l.length):aclsB P ((s.cls t arr).2:Int) arr=true:=by
 obtain⟨h1,h2⟩:=B0a h h0;unfold aclsB;rw[h1];exact h2
theorem C9h{P:List KV}{s:LW}{x:IN}{tag:Int}{p:List UInt8->Bool}(htag:tag=9\/tag=10)(h:Pl P (s.member x tag p).1)(h0:0<s.l.length):
  A1i P ((s.member x tag p).2:Int) tag=(x.cl,x.nm,x.ds,true)/\A5e x.nm=true/\p x.ds=true/\A1b x.cl=true:=by
 have ht0:tag≠0:=by omega
 obtain⟨s1,hs1⟩:=exz (s.need (A5e x.nm&&p x.ds) 8);obtain⟨c,hc⟩:=exz (s1.cls x.cl false);obtain⟨n,hn⟩:=exz (c.1.text x.nm);obtain⟨d,hd⟩:=exz (n.1.text x.ds)
 obtain⟨b,hb⟩:=exz (d.1.put ⟨12,(n.2:Nat),(d.2:Nat),0,[]⟩);have hm:s.member x tag p=b.1.put ⟨tag,(c.2:Nat),(b.2:Nat),0,[]⟩:=by subst hb hd hn hc hs1;rfl
 rw[hm]at h⊢;have k1:0<s1.l.length:=by rw[hs1];exact h0
 have kc:0<c.1.l.length:=by rw[hc];exact((LSt.refl s1).cls x.cl false).pos k1
 have kn:0<n.1.l.length:=by rw[hn];exact((LSt.refl c.1).text x.nm).pos kc
 have kd:0<d.1.l.length:=by rw[hd];exact((LSt.refl n.1).text x.ds).pos kn
 have kb:0<b.1.l.length:=by rw[hb];exact((LSt.refl d.1).put _ (show(12:Int)≠0 by decide)).pos kd
 have hB:Pl P b.1:=h.back ((LSt.refl b.1).put _ ht0) kb;have hD:Pl P d.1:=hB.back (by rw[hb];exact(LSt.refl d.1).put _ (show(12:Int)≠0 by decide)) kd
 have hN:Pl P n.1:=hD.back (by rw[hd];exact(LSt.refl n.1).text _) kn;have hC:Pl P c.1:=hN.back (by rw[hn];exact(LSt.refl c.1).text _) kc
 have hS:Pl P s1:=hC.back (by rw[hc];exact(LSt.refl s1).cls _ _) k1;have hok:=(A4v (by rw[<-hs1];exact hS.e) (show(8:Int)≠0 by decide)).2;simp only[Bool.and_eq_true]at hok
 obtain⟨c1,c2⟩:=B0a (by rw[<-hc];exact hC) k1;obtain⟨n1,n2⟩:=A4x (by rw[<-hn];exact hN) kc;obtain⟨d1,d2⟩:=A4x (by rw[<-hd];exact hD) kn;rw[<-hc]at c1;rw[<-hn]at n1 n2
 rw[<-hd]at d1 d2;have b1:=C0a (s:=d.1) (c:=⟨12,(n.2:Nat),(d.2:Nat),0,[]⟩) (by rw[<-hb];exact hB) kd (show(12:Int)≠0 by decide)
 have b2:=(B1n (s:=d.1) (c:=⟨12,(n.2:Nat),(d.2:Nat),0,[]⟩) (by rw[<-hb];exact hB) kd (show(12:Int)≠0 by decide)).2.2;rw[<-hb]at b1 b2;have p1:=C0a h kb ht0
 have p2:=(B1n h kb ht0).2.2;refine⟨?_,hok.1,hok.2,by simpa using c2⟩;unfold A1i;rw[p2];dsimp only;rw[b2];dsimp only;rw[if_pos ⟨htag,p1,b1,by rw[c1],n2,d2⟩,c1,n1,d1]
theorem D8w{P:List KV}{s:LW}{x:IN}(hx:x.cl=[]/\x.nm=[]/\x.m=0)(h:Pl P (s.con x).1)(h0:0<s.l.length)(r:RW)(hr:r.op=x.op):C4g P (B4g r) (s.con x).2=x/\C0k x=true:=by
 obtain⟨op,n,m,cl,nm,ds,tx⟩:=x;obtain⟨p,o,a,b⟩:=r;dsimp only at hx hr;obtain⟨rfl,rfl,rfl⟩:=hx;subst hr;unfold LW.con at h⊢;dsimp only at h⊢;by_cases h1:ds=[73]/\o=18/\tx=[]
 ·rw[if_pos h1]at h⊢;obtain⟨rfl,rfl,rfl⟩:=h1;have p2:=(B1n h h0 (show(3:Int)≠0 by decide)).2.2;unfold C4g;rw[p2];exact⟨rfl,rfl⟩
 rw[if_neg h1]at h⊢;by_cases h2:ds=[83]/\o=18/\n=0
 ·rw[if_pos h2]at h⊢;obtain⟨rfl,rfl,rfl⟩:=h2;obtain⟨t,ht⟩:=exz (s.text tx);rw[<-ht]at h⊢;have kt:0<t.1.l.length:=by rw[ht];exact((LSt.refl s).text tx).pos h0
  have hT:Pl P t.1:=h.back ((LSt.refl t.1).put _ (show(8:Int)≠0 by decide)) kt;obtain⟨t1,t2⟩:=A4x (by rw[<-ht];exact hT) h0;rw[<-ht]at t1 t2
  have p2:=(B1n h kt (show(8:Int)≠0 by decide)).2.2;unfold C4g;rw[p2];dsimp only;rw[t1];exact⟨rfl,rfl⟩
 rw[if_neg h2]at h⊢;by_cases h3:ds=[74]/\o=20/\tx=[]
 ·rw[if_pos h3]at h⊢;obtain⟨rfl,rfl,rfl⟩:=h3;have p2:=(B1n h h0 (show(5:Int)≠0 by decide)).2.2;unfold C4g;rw[p2];exact⟨rfl,rfl⟩
 rw[if_neg h3]at h;have:=(A4v h.e (show(8:Int)≠0 by decide)).2
 cases this
theorem D5q:∀k:Fin 256,A0g k.val=5->k.val=18:=by decide
theorem B9n{n:Int}(h:A4d n=true):A2y n=n:=by
 unfold A4d at h;have:=of_decide_eq_true h;unfold A2y;omega
structure C5a(P:List KV)(x:IN)(r:RW)(p:Nat):Prop where
 pos:r.pos=(p:Nat)
 op:r.op=x.op
 c:C0j P r=true
 v:A0g x.op≠7->∀L,B4x P L r=x
 b:A0g x.op=7->x={B4g r with n:=x.n}
 f0:A0g x.op≠0
theorem D4y{P:List KV}{s:LW}{x:IN}{tag:Int}{p:List UInt8->Bool}(htag:tag=9\/tag=10)(h:Pl P ((s.need (A3d x) 8).member x tag p).1)(h0:0<s.l.length)(q:Int):
  D7j P (B4g ⟨q,x.op,(((s.need (A3d x) 8).member x tag p).2:Nat),0⟩) (((s.need (A3d x) 8).member x tag p).2:Nat) tag=x/\C6k p P (((s.need (A3d x) 8).member x tag p).2:Nat) tag=true:=by
 have k0:0<(s.need (A3d x) 8).l.length:=h0;have hS:Pl P (s.need (A3d x) 8):=h.back ((LSt.refl _).member x tag p (by omega)) k0;have hb:=(A4v hS.e (show(8:Int)≠0 by decide)).2
 unfold A3d at hb;obtain⟨b1,b2,b3⟩:=of_decide_eq_true hb;obtain⟨m1,m2,m3,m4⟩:=C9h htag h k0;obtain⟨op,n,m,cl,nm,ds,tx⟩:=x;dsimp only at b1 b2 b3;subst b1 b2 b3;refine⟨?_,?_⟩
 ·unfold D7j;rw[m1];rfl
 unfold C6k;rw[m1];dsimp only at m2 m3 m4⊢;rw[m2,m3,m4];rfl
theorem E1e{P:List KV}{s:LW}{x:IN}{p:Nat}(hop:x.op<256)(h:Pl P (s.raw p x).1)(h0:0<s.l.length):C5a P x (s.raw p x).2 p:=by
 unfold LW.raw at h⊢;by_cases h1:x.op=18\/x.op=20
 ·rw[if_pos h1]at h⊢;dsimp only at h⊢;obtain⟨c,hc⟩:∃c,c=(s.need (decide (x.cl=[]/\x.nm=[]/\x.m=0)) 8).con x:=⟨_,rfl⟩;rw[<-hc]at h⊢
  have k0:0<(s.need (decide (x.cl=[]/\x.nm=[]/\x.m=0)) 8).l.length:=h0;have kc:0<c.1.l.length:=by rw[hc];exact((LSt.refl _).con x).pos k0
  have hC:Pl P c.1:=h.back ((LSt.refl _).need9 _) kc;have hS:Pl P (s.need (decide (x.cl=[]/\x.nm=[]/\x.m=0)) 8):=hC.back (by rw[hc];exact(LSt.refl _).con x) k0
  have hb:=(A4v hS.e (show(8:Int)≠0 by decide)).2;obtain⟨q1,q2⟩:=D8w (of_decide_eq_true hb) (by rw[<-hc];exact hC) k0 ⟨p,x.op,(c.2:Nat),0⟩ rfl;rw[<-hc]at q1
  have hv:∀L,B4x P L ⟨p,x.op,(c.2:Nat),0⟩=x:=by
   intro L;unfold B4x;dsimp only
   rcases h1 with h1|h1
   ·rw[h1,if_neg (by decide),if_neg (by decide),if_pos (by decide),<-h1];exact q1
   rw[h1,if_neg (by decide),if_neg (by decide),if_neg (by decide),if_pos (by decide),if_pos (by decide),<-h1];exact q1
  have hcc:C0j P ⟨p,x.op,(c.2:Nat),0⟩=true:=by
   unfold C0j;dsimp only;rw[show((c.2:Nat):Int).toNat=c.2 from Int.toNat_natCast _,q1]
   rcases h1 with h1|h1
   ·rw[h1,if_neg (by decide),if_neg (by decide),if_pos (by decide)];exact q2
   rw[h1,if_neg (by decide),if_neg (by decide),if_neg (by decide),if_pos (by decide),if_pos (by decide)];exact q2
  refine⟨rfl,rfl,hcc,fun _=>hv,fun h7=> ?_,fun hz=> ?_⟩
  ·exact absurd h7 (by rcases h1 with h1|h1<;>rw[h1]<;>decide)
  exact absurd hz (by rcases h1 with h1|h1<;>rw[h1]<;>decide)
 rw[if_neg h1]at h⊢;have n18:x.op≠18:=fun e=>h1 (.inl e)
 have n20:x.op≠20:=fun e=>h1 (.inr e)
 by_cases h6:A0g x.op=6
 ·rw[if_pos h6]at h⊢;unfold LW.wide at h⊢;by_cases hm:A6k x.op=true
  ·simp only[if_pos hm]at h⊢;obtain⟨m1,m2⟩:=D4y (.inl rfl) h h0 (p:Nat);refine⟨rfl,rfl,?_,fun _ L=> ?_,fun h7=>absurd h7 (by rw[h6];decide),by rw[h6];decide⟩
   ·unfold C0j;dsimp only;rw[h6,if_neg (by decide),if_neg (by decide),if_neg (by decide),if_pos rfl,if_neg n20,if_pos hm];exact m2
   unfold B4x;dsimp only;rw[h6,if_neg (by decide),if_neg (by decide),if_neg (by decide),if_pos rfl,if_neg n20,if_pos hm];exact m1
  simp only[if_neg hm]at h⊢;by_cases hv:A9a x.op=true
  ·simp only[if_pos hv]at h⊢;obtain⟨m1,m2⟩:=D4y (.inr rfl) h h0 (p:Nat);refine⟨rfl,rfl,?_,fun _ L=> ?_,fun h7=>absurd h7 (by rw[h6];decide),by rw[h6];decide⟩
   ·unfold C0j;dsimp only;rw[h6,if_neg (by decide),if_neg (by decide),if_neg (by decide),if_pos rfl,if_neg n20,if_neg hm,if_pos hv];exact m2
   unfold B4x;dsimp only;rw[h6,if_neg (by decide),if_neg (by decide),if_neg (by decide),if_pos rfl,if_neg n20,if_neg hm,if_pos hv];exact m1
  simp only[if_neg hv]at h⊢;have k0:0<(s.need (B0x x) 8).l.length:=h0;have hS:Pl P (s.need (B0x x) 8):=h.back ((LSt.refl _).cls _ _) k0;have hb:=(A4v hS.e (show(8:Int)≠0 by decide)).2
  unfold B0x at hb;obtain⟨b1,b2,b3,b4,b5⟩:=of_decide_eq_true hb;have c1:=(B0a h k0).1;have c2:=D3h h k0
  refine⟨rfl,rfl,?_,fun _ L=> ?_,fun h7=>absurd h7 (by rw[h6];decide),by rw[h6];decide⟩
  ·unfold C0j;dsimp only;rw[h6,if_neg (by decide),if_neg (by decide),if_neg (by decide),if_pos rfl,if_neg n20,if_neg hm,if_neg hv];exact c2
  unfold B4x;dsimp only;rw[h6,if_neg (by decide),if_neg (by decide),if_neg (by decide),if_pos rfl,if_neg n20,if_neg hm,if_neg hv,c1];obtain⟨op,n,m,cl,nm,ds,tx⟩:=x;dsimp only at b1 b2 b3 b4 b5
  subst b1 b2 b3 b4 b5;rfl
 rw[if_neg h6]at h⊢;by_cases hz:A0g x.op=0
 ·rw[if_pos hz]at h;have:=(A4v h.e (show(8:Int)≠0 by decide)).2
  cases this
 rw[if_neg hz]at h⊢;unfold LW.small at h⊢;dsimp only at h⊢;have hq:=A4v h.e (show(8:Int)≠0 by decide);have hb:=(A4v hq.1 (show(8:Int)≠0 by decide)).2;have hw:=B9n hq.2
 unfold A8v at hb;obtain⟨b1,b2,b3,b4,b5⟩:=of_decide_eq_true hb;have h5:A0g x.op≠5:=fun e=>n18 (D5q ⟨x.op,hop⟩ e)
 rw[hw];clear h hq hb hw;obtain⟨op,n,m,cl,nm,ds,tx⟩:=x;dsimp only at*;subst b2 b3 b4 b5;refine⟨rfl,rfl,?_,fun h7 L=> ?_,fun h7=> ?_,hz⟩
 ·unfold C0j;dsimp only;split
  ·rfl
  split
  ·rfl
  simp only[if_neg h5,if_neg h6]
 ·unfold B4x;dsimp only;rw[if_neg h7];by_cases h8:A0g op=8
  ·rw[if_pos h8];rfl
  rw[if_neg h8,if_neg h5,if_neg h6]
  rcases b1 with rfl|b1
  ·rfl
  exact absurd b1 h8
 rcases b1 with rfl|b1
 ·rfl
 rw[b1]at h7
 cases h7
theorem B9s(s:LW)(p:Nat)(l:List IN):(s.raws p l).2.length=l.length:=by
 induction l generalizing s p with
 |nil=>rfl
 |cons x l ih=>rw[LW.raws,List.length_cons,List.length_cons,ih]
theorem C9p(x:IN)(l:List IN)(k:Nat):A3q (x::l) (k+1)=A7w x+A3q l k:=by
 unfold A3q;simp
theorem B3i(l:List IN):A3q l 0=0:=by
 unfold A3q;simp
theorem B1f(l:List IN)(k:Nat)(x:IN)(h:l[k]? =some x):A3q l (k+1)=A3q l k+A7w x:=by
 obtain⟨hk,he⟩:=gsz h;unfold A3q;rw[List.take_succ_eq_append_getElem hk,he];simp
theorem C1m{l:List IN}(hs:∀x∈l,1<=A7w x):∀(d i:Nat),i+d+1<=l.length->A3q l i<A3q l (i+d+1)
 |0,i,h=>by
  rw[B1f l (i+0) l[i] (by rw[Nat.add_zero];exact List.getElem?_eq_getElem (by omega))];have:=hs l[i] (List.getElem_mem (by omega));rw[Nat.add_zero];omega
 |d+1,i,h=>by
  have h1:=C1m hs d i (by omega);rw[show i+(d+1)+1=(i+d+1)+1 by omega,B1f l (i+d+1) l[i+d+1] (List.getElem?_eq_getElem (by omega))];omega
theorem C4j{l:List IN}(hs:∀x∈l,1<=A7w x){i j:Nat}(hi:i<=l.length)(hj:j<=l.length)(h:A3q l i=A3q l j):i=j:=by
 rcases Nat.lt_trichotomy i j with h1|h1|h1
 ·have:=C1m hs (j-i-1) i (by omega);rw[show i+(j-i-1)+1=j by omega]at this;omega
 ·exact h1
 have:=C1m hs (i-j-1) j (by omega);rw[show j+(i-j-1)+1=i by omega]at this;omega
theorem B7k{P:List KV}:∀(l:List IN) (s:LW) (p:Nat),(∀x∈l,x.op<256)->Pl P (s.raws p l).1->0<s.l.length->∀(k:Nat) (x:IN),l[k]? =some x->∃r,(s.raws p l).2[k]? =some r/\C5a P x r (p+A3q l k)
 |[],s,p,_,_,_,k,x,hx=>by simp at hx
 |y::l,s,p,hop,h,h0,k,x,hx=>by
  rw[LW.raws]at h⊢;dsimp only at h⊢;have kr:0<(s.raw p y).1.l.length:=((LSt.refl s).raw p y).pos h0
  cases k with
  |zero=>
   simp at hx;subst hx;have hR:Pl P (s.raw p y).1:=h.back ((LSt.refl _).raws _ l) kr;refine⟨_,rfl,?_⟩;rw[B3i];exact E1e (hop y List.mem_cons_self) hR h0
  |succ k=>
  rw[List.getElem?_cons_succ]at hx;obtain⟨r,hr,ho⟩:=B7k l (s.raw p y).1 (p+A7w y) (fun z hz=>hop z (List.mem_cons_of_mem _ hz)) h kr k x hx
  refine⟨r,by rw[List.getElem?_cons_succ];exact hr,?_⟩;rw[C9p,<-Nat.add_assoc];exact ho
theorem C8w(l:List IN):∀(k:List IN) (s:LW),(s.goes l k).e=0->s.e=0/\∀x∈k,A0g x.op=7->inB l x.n=true
 |[],s,h=>⟨h,fun x hx=>by cases hx⟩
 |y::k,s,h=>by
  rw[LW.goes]at h;obtain⟨h1,h2⟩:=C8w l k _ h;by_cases h7:A0g y.op=7
  ·rw[if_pos h7]at h1;obtain⟨h3,h4⟩:=A4v h1 (show(2:Int)≠0 by decide);refine⟨h3,fun x hx hx7=> ?_⟩
   rcases List.mem_cons.1 hx with rfl|hx
   ·exact h4
   exact h2 x hx hx7
  rw[if_neg h7]at h1;refine⟨h1,fun x hx hx7=> ?_⟩
  rcases List.mem_cons.1 hx with rfl|hx
  ·exact absurd hx7 h7
  exact h2 x hx hx7
structure B2s(l:List IN)(L:List RW):Prop where
 n:L.length=l.length
 p:∀(k:Nat) r,L[k]? =some r->r.pos=((A3q l k:Nat):Int)
 s:∀x∈l,1<=A7w x
theorem B2s.ix{l:List IN}{L:List RW}(h:B2s l L){n:Nat}(hn:n<l.length):C2w L ((A3q l n:Nat):Int)=some n:=by
 have hl:=h.n
 have h1:=D4m ((A3q l n:Nat):Int) L 0 n none L[n] (List.getElem?_eq_getElem (by omega)) (h.p n _ (List.getElem?_eq_getElem (by omega))) (fun j r' hj hr'=>by
  have hjl:=(gsz hr').1;rw[h.p j r' hr'];intro e;have:=C4j h.s (i:=j) (j:=n) (by omega) (by omega) (by omega);omega)
 rw[Nat.zero_add]at h1;exact h1
theorem A7v(l:List IN)(x:IN)(r:RW):(A2z l x r).pos=r.pos/\(A2z l x r).op=r.op:=by
 unfold A2z;split<;>exact⟨rfl,rfl⟩
theorem C4u{l:List IN}{rs:List RW}{k:Nat}{x:IN}{r:RW}(hx:l[k]? =some x)(hr:rs[k]? =some r):(A8k l rs)[k]? =some (A2z l x r):=by
 unfold A8k;rw[List.getElem?_map,show(l.zip rs)[k]? =some (x,r)from List.getElem?_zip_eq_some.2 ⟨hx,hr⟩];rfl
theorem B8f{l:List IN}{rs:List RW}(h:rs.length=l.length):(A8k l rs).length=l.length:=by
 unfold A8k;simp[h]
theorem D3b{P:List KV}{l:List IN}{x:IN}{r:RW}{p:Nat}(h:C5a P x r p):C0j P (A2z l x r)=true:=by
 unfold A2z;split
 ·next h7=>
  unfold C0j;dsimp only;rw[h.op,if_pos h7.1]
 exact h.c
theorem C7i{P:List KV}{s:LW}{l:List IN}(hop:∀x∈l,x.op<256)(h:Pl P (s.code l).1)(h0:0<s.l.length):
  ∃L,A2h (s.code l).2=(0,L)/\B2s l L/\L.map (B4x P L)=l/\L.all (C0j P)=true/\(s.code l).2.length=A3q l l.length:=by
 obtain⟨c,hc⟩:=exz (s.raws 0 l);obtain⟨L,hL⟩:=exz (A8k l c.2);have hm:s.code l=((c.1.goes l l).need (decide ((A1t L).1=0)) (A1t L).1,(A1t L).2):=by subst hL hc;rfl
 rw[hm]at h⊢;dsimp only at h⊢;have kc:0<c.1.l.length:=by rw[hc];exact((LSt.refl s).raws 0 l).pos h0
 have kg:0<(c.1.goes l l).l.length:=((LSt.refl c.1).goes l l).pos kc;have hG:Pl P (c.1.goes l l):=h.back ((LSt.refl _).need _ _ (C0g L)) kg
 have hE:(A1t L).1=0:=by
  have h1:A2a (c.1.goes l l).e (decide ((A1t L).1=0)) (A1t L).1=0:=h.e;unfold A2a at h1;split at h1
  ·exact h1
  next h2=>
  rcases Decidable.em ((A1t L).1=0)with h3|h3
  ·exact h3
  exact absurd ⟨decide_eq_false h3,hG.e⟩ h2
 have hC:Pl P c.1:=hG.back ((LSt.refl _).goes l l) kc;have hgo:=(C8w l l c.1 hG.e).2
 have hat:∀(k:Nat) (x:IN),l[k]? =some x->∃r,c.2[k]? =some r/\C5a P x r (A3q l k):=by
  intro k x hx;have:=B7k l s 0 hop (by rw[<-hc];exact hC) h0 k x hx;rw[<-hc,Nat.zero_add]at this;exact this
 have hlen:L.length=l.length:=by rw[hL];exact B8f (by rw[hc];exact B9s s 0 l)
 have hLat:∀(k:Nat) (x:IN),l[k]? =some x->∃r,L[k]? =some (A2z l x r)/\C5a P x r (A3q l k):=by
  intro k x hx;obtain⟨r,hr,ho⟩:=hat k x hx;exact⟨r,by rw[hL];exact C4u hx hr,ho⟩
 have hLr:∀(k:Nat) q,L[k]? =some q->∃x r,l[k]? =some x/\q=A2z l x r/\C5a P x r (A3q l k):=by
  intro k q hq;have hk:=(gsz hq).1;have hx:l[k]? =some l[k]:=List.getElem?_eq_getElem (by omega);obtain⟨r,hr,ho⟩:=hLat k _ hx;rw[hr]at hq;exact⟨_,r,hx,(Option.some.inj hq).symm,ho⟩
 have hw:∀r∈L,r.op<256:=by
  intro q hq;obtain⟨k,hk⟩:=List.getElem?_of_mem hq;obtain⟨x,r,hx,rfl,ho⟩:=hLr k q hk;rw[(A7v l x r).2,ho.op];exact hop x (List.mem_of_getElem? hx)
 obtain⟨hbs,hdec⟩:=B5e hw (show A1t L=(0,(A1t L).2)from Prod.ext hE rfl)
 have hlaid:B2s l L:=⟨hlen,fun k q hq=>by
  obtain⟨x,r,hx,rfl,ho⟩:=hLr k q hq;rw[(A7v l x r).1,ho.pos],fun x hx=>by
  obtain⟨k,hk⟩:=List.getElem?_of_mem hx;obtain⟨r,_,ho⟩:=hLat k x hk;exact B1j ho.f0 (A4z _)⟩
 refine⟨L,hdec,hlaid,?_,?_,?_⟩
 ·refine List.ext_getElem? fun k=> ?_
  rw[List.getElem?_map]
  cases hx:l[k]? with
  |none=>
   have:L[k]? =none:=by
    rw[List.getElem?_eq_none_iff]at hx⊢;omega
   rw[this];rfl
  |some x=>
  obtain⟨r,hr,ho⟩:=hLat k x hx;rw[hr];show some (B4x P L (A2z l x r))=some x;congr 1;by_cases h7:A0g x.op=7
  ·have hin:=hgo x (List.mem_of_getElem? hx) h7;have hx2:=ho.b h7;unfold A2z;rw[if_pos ⟨h7,hin⟩];unfold inB at hin;obtain⟨i1,i2⟩:=of_decide_eq_true hin;unfold B4x;dsimp only
   obtain⟨rp,ro,ra,rb⟩:=r;have ho1:ro=x.op:=ho.op;subst ho1;rw[if_pos h7,hlaid.ix (n:=x.n.toNat) (by omega),Option.getD_some,Int.toNat_of_nonneg i1];exact hx2.symm
  unfold A2z;rw[if_neg (fun hh=>h7 hh.1)];exact ho.v h7 L
 ·rw[List.all_eq_true];intro q hq;obtain⟨k,hk⟩:=List.getElem?_of_mem hq;obtain⟨x,r,hx,rfl,ho⟩:=hLr k q hk;exact D3b ho
 have key:∀k,k<=L.length->(A6s (L.take k)).length=A3q l k:=by
  intro k
  induction k with
  |zero=>intro _;rw[B3i];rfl
  |succ k ih=>
   intro hk;have hq:L[k]? =some L[k]:=List.getElem?_eq_getElem (by omega);obtain⟨x,r,hx,he,ho⟩:=hLr k _ hq
   rw[C0b L k _ hq,List.length_append,ih (by omega),B1f l k x hx,he,A5c _ (by rw[(A7v l x r).2,ho.op];exact ho.f0),(A7v l x r).2,ho.op];rfl
 have:=key L.length nlz;rw[List.take_length,<-hbs,hlen]at this;exact this
theorem B1h{P:List KV}{s:LW}{l:List IN}{n most:Int}(h:Pl P (s.place l n most).1):(0<=n/\n<=most)/\(s.place l n most).2=((A3q l n.toNat:Nat):Int):=by
 unfold LW.place at h⊢;by_cases hb:n<0\/most<n
 ·rw[if_pos hb]at h;have:=(A4v h.e (show(2:Int)≠0 by decide)).2
  cases this
 rw[if_neg hb];exact⟨by omega,rfl⟩
theorem B2s.pl{l:List IN}{L:List RW}(h:B2s l L){n:Int}(h0:0<=n)(h1:n<=(l.length:Int) -1)(cn:Nat):plV L cn ((A3q l n.toNat:Nat):Int) false=n.toNat/\plC L cn ((A3q l n.toNat:Nat):Int) false=true:=by
 have hx:=h.ix (n:=n.toNat) (by omega);unfold plV plC;rw[if_neg (by simp),hx];exact⟨rfl,rfl⟩
theorem B2s.pe{l:List IN}{L:List RW}(h:B2s l L){n:Int}(h0:0<=n)(h1:n<=(l.length:Int)){cn:Nat}(hcn:cn=A3q l l.length):plV L cn ((A3q l n.toNat:Nat):Int) true=n.toNat/\plC L cn ((A3q l n.toNat:Nat):Int) true=true:=by
 unfold plV plC;by_cases he:n.toNat=l.length
 ·rw[he,hcn,if_pos ⟨rfl,rfl⟩];exact⟨h.n,by simp⟩
 have hx:=h.ix (n:=n.toNat) (by omega)
 have hne:¬(((A3q l n.toNat:Nat):Int)=(cn:Int)):=by
  intro e;rw[hcn]at e;exact he (C4j h.s (by omega) nlz (by omega))
 rw[if_neg (fun hh=>hne hh.2),hx];exact⟨rfl,by simp⟩
theorem D7g{P:List KV}{s:LW}{l:List IN}{L:List RW}{t:UT}{cn:Nat}(h:Pl P (s.trap l t).1)(h0:0<s.l.length)(hl:B2s l L)(hcn:cn=A3q l l.length):
  B5d P L cn (s.trap l t).2=t/\B8s P L cn (s.trap l t).2=true:=by
 obtain⟨a,ha⟩:=exz (s.place l t.fr (l.length-1));obtain⟨b,hb⟩:=exz (a.1.place l t.tt l.length);obtain⟨c,hc⟩:=exz (b.1.place l t.pl (l.length-1))
 have hm:s.trap l t=if t.cl=[]then(c.1,⟨a.2,b.2,c.2,0⟩)else((c.1.cls t.cl false).1,⟨a.2,b.2,c.2,((c.1.cls t.cl false).2:Nat)⟩):=by subst hc hb ha;rfl
 rw[hm]at h⊢;have ka:0<a.1.l.length:=by rw[ha];exact((LSt.refl s).place _ _ _).pos h0
 have kb:0<b.1.l.length:=by rw[hb];exact((LSt.refl a.1).place _ _ _).pos ka
 have kc:0<c.1.l.length:=by rw[hc];exact((LSt.refl b.1).place _ _ _).pos kb
 have hC:Pl P c.1:=by
  split at h
  ·exact h
  exact h.back ((LSt.refl _).cls _ _) kc
 have hB:Pl P b.1:=hC.back (by rw[hc];exact(LSt.refl _).place _ _ _) kb;have hA:Pl P a.1:=hB.back (by rw[hb];exact(LSt.refl _).place _ _ _) ka;obtain⟨a1,a2⟩:=B1h (by rw[<-ha];exact hA)
 obtain⟨b1,b2⟩:=B1h (by rw[<-hb];exact hB);obtain⟨c1,c2⟩:=B1h (by rw[<-hc];exact hC);rw[<-ha]at a2;rw[<-hb]at b2;rw[<-hc]at c2;obtain⟨v1,v2⟩:=hl.pl a1.1 a1.2 cn
 obtain⟨v3,v4⟩:=hl.pe b1.1 b1.2 hcn;obtain⟨v5,v6⟩:=hl.pl c1.1 c1.2 cn;have e1:((t.fr.toNat:Nat):Int)=t.fr:=Int.toNat_of_nonneg a1.1
 have e2:((t.tt.toNat:Nat):Int)=t.tt:=Int.toNat_of_nonneg b1.1;have e3:((t.pl.toNat:Nat):Int)=t.pl:=Int.toNat_of_nonneg c1.1;by_cases ht:t.cl=[]
 ·simp only[if_pos ht];unfold B5d B8s;dsimp only;rw[a2,b2,c2,v1,v2,v3,v4,v5,v6,e1,e2,e3,if_pos rfl];obtain⟨x,y,z,cl⟩:=t;dsimp only at ht;subst ht;exact⟨rfl,rfl⟩
 simp only[if_neg ht]at h⊢;have q1:=(B0a h kc).1;have q2:=D3h h kc;have q3:=D4j h kc;have q4:¬((((c.1.cls t.cl false).2:Nat):Int)=0):=by omega
 unfold B5d B8s;dsimp only;rw[a2,b2,c2,v1,v2,v3,v4,v5,v6,e1,e2,e3,if_neg q4,q1,q2];exact⟨rfl,by simp⟩
theorem C3n{P:List KV}{l:List IN}{L:List RW}{cn:Nat}(hl:B2s l L)(hcn:cn=A3q l l.length):∀(ts:List UT) (s:LW),Pl P (s.traps l ts).1->0<s.l.length->
  (s.traps l ts).2.map (B5d P L cn)=ts/\(s.traps l ts).2.all (B8s P L cn)=true
 |[],s,h,h0=>⟨rfl,rfl⟩
 |t::ts,s,h,h0=>by
  rw[LW.traps]at h⊢;dsimp only at h⊢;have k1:0<(s.trap l t).1.l.length:=((LSt.refl s).trap l t).pos h0;have hT:Pl P (s.trap l t).1:=h.back ((LSt.refl _).traps l ts) k1
  obtain⟨q1,q2⟩:=D7g hT h0 hl hcn;obtain⟨q3,q4⟩:=C3n hl hcn ts _ h k1;rw[List.map_cons,List.all_cons,q1,q2,q3,q4];exact⟨rfl,rfl⟩
theorem D0g{c:List UInt8}(h:A1b c=true):A2g c=false:=by
 have hn:=(D3w h).2.1;unfold A2g;rw[Bool.and_eq_false_iff];left;rw[decide_eq_false_iff_not];intro e
 cases c with
 |nil=>cases e
 |cons d t=>
 simp at e;subst e;exact hn List.mem_cons_self
theorem D6t{t:List UInt8}(h:A9w t=true):D5e (B7q t)=t:=by
 unfold B7q;rw[if_pos h];unfold A9w at h;simp only[Bool.and_eq_true,decide_eq_true_eq]at h;obtain⟨h1,h2,h3⟩:=h
 cases t with
 |nil=>cases h2
 |cons c t=>
 simp at h2;subst h2;obtain⟨m,hm⟩:=List.getLast?_eq_some_iff.1 h3
 cases m with
 |nil=>
  simp at hm
 |cons d m=>
 simp only[List.cons_append,List.cons.injEq]at hm;obtain⟨rfl,rfl⟩:=hm;unfold D5e;simp
theorem D6b{P:List KV}{s:LW}{t:List UInt8}(h:Pl P (s.slot t).1)(h0:0<s.l.length):A3x P (s.slot t).2=t/\B0g P (s.slot t).2=true:=by
 unfold LW.slot at h⊢;by_cases h1:t=[84]
 ·simp only[if_pos h1];subst h1;exact⟨rfl,rfl⟩
 simp only[if_neg h1]at h⊢;by_cases h2:t=[73]
 ·simp only[if_pos h2];subst h2;exact⟨rfl,rfl⟩
 simp only[if_neg h2]at h⊢;by_cases h3:t=[74]
 ·simp only[if_pos h3];subst h3;exact⟨rfl,rfl⟩
 simp only[if_neg h3]at h⊢;by_cases h4:t=[78]
 ·simp only[if_pos h4];subst h4;exact⟨rfl,rfl⟩
 simp only[if_neg h4]at h⊢;by_cases h5:A9w t=true
 ·simp only[if_pos h5]at h⊢;obtain⟨q1,q2⟩:=B0a h h0;have q2':A1b (B7q t)=true:=by simpa using q2
  obtain⟨v1,v2⟩:=C3a P ((s.cls (B7q t) false).2:Nat);rw[v1,v2];unfold aclsB;rw[q1];dsimp only;rw[D0g q2',q2',D6t h5];exact⟨rfl,rfl⟩
 simp only[if_neg h5]at h⊢;have k0:0<(s.need (A2g t) 8).l.length:=h0;have hS:Pl P (s.need (A2g t) 8):=h.back ((LSt.refl _).cls _ _) k0;have hb:=(A4v hS.e (show(8:Int)≠0 by decide)).2
 obtain⟨q1,q2⟩:=B0a h k0;obtain⟨v1,v2⟩:=C3a P (((s.need (A2g t) 8).cls t true).2:Nat);rw[v1,v2];unfold aclsB;rw[q1];dsimp only;rw[if_pos hb,hb];exact⟨rfl,by simp⟩
theorem B7g{P:List KV}:∀(ts:List (List UInt8)) (s:LW),Pl P (s.slots ts).1->0<s.l.length->(s.slots ts).2.map (A3x P)=ts/\(s.slots ts).2.all (B0g P)=true
 |[],s,h,h0=>⟨rfl,rfl⟩
 |t::ts,s,h,h0=>by
  rw[LW.slots]at h⊢;dsimp only at h⊢;have k1:0<(s.slot t).1.l.length:=((LSt.refl s).slot t).pos h0;have hT:Pl P (s.slot t).1:=h.back ((LSt.refl _).slots ts) k1;obtain⟨q1,q2⟩:=D6b hT h0
  obtain⟨q3,q4⟩:=B7g ts _ h k1;rw[List.map_cons,List.all_cons,q1,q2,q3,q4];exact⟨rfl,rfl⟩
theorem D6s{P:List KV}{s:LW}{l:List IN}{L:List RW}{m:UP}{cn:Nat}(h:Pl P (s.map l m).1)(h0:0<s.l.length)(hl:B2s l L):
  D5b P L cn (s.map l m).2=m.p/\D2f P L cn (s.map l m).2=true:=by
 obtain⟨a,ha⟩:=exz (s.place l m.pl (l.length-1));obtain⟨b,hb⟩:=exz (a.1.slots m.loc);obtain⟨c,hc⟩:=exz (b.1.slots m.stk)
 have hm:s.map l m=(c.1,⟨a.2,none,0,0,b.2,none,0,0,c.2⟩):=by subst hc hb ha;rfl
 rw[hm]at h⊢;dsimp only at h⊢;have ka:0<a.1.l.length:=by rw[ha];exact((LSt.refl s).place _ _ _).pos h0
 have kb:0<b.1.l.length:=by rw[hb];exact((LSt.refl a.1).slots _).pos ka
 have hB:Pl P b.1:=h.back (by rw[hc];exact(LSt.refl _).slots _) kb;have hA:Pl P a.1:=hB.back (by rw[hb];exact(LSt.refl _).slots _) ka;obtain⟨a1,a2⟩:=B1h (by rw[<-ha];exact hA)
 obtain⟨b1,b2⟩:=B7g m.loc a.1 (by rw[<-hb];exact hB) ka;obtain⟨c1,c2⟩:=B7g m.stk b.1 (by rw[<-hc];exact h) kb;rw[<-ha]at a2;rw[<-hb]at b1 b2;rw[<-hc]at c1 c2
 obtain⟨v1,v2⟩:=hl.pl a1.1 a1.2 cn;have e1:((m.pl.toNat:Nat):Int)=m.pl:=Int.toNat_of_nonneg a1.1;unfold D5b D2f;dsimp only;rw[a2,v1,v2,e1,b1,b2,c1,c2];exact⟨rfl,rfl⟩
theorem C8m{P:List KV}{l:List IN}{L:List RW}{cn:Nat}(hl:B2s l L):∀(ts:List UP) (s:LW),Pl P (s.maps l ts).1->0<s.l.length->
  (s.maps l ts).2.map (D5b P L cn)=ts.map UP.p/\(s.maps l ts).2.all (D2f P L cn)=true
 |[],s,h,h0=>⟨rfl,rfl⟩
 |t::ts,s,h,h0=>by
  rw[LW.maps]at h⊢;dsimp only at h⊢;have k1:0<(s.map l t).1.l.length:=((LSt.refl s).map l t).pos h0;have hT:Pl P (s.map l t).1:=h.back ((LSt.refl _).maps l ts) k1
  obtain⟨q1,q2⟩:=D6s (cn:=cn) hT h0 hl;obtain⟨q3,q4⟩:=C8m hl ts _ h k1;rw[List.map_cons,List.map_cons,List.all_cons,q1,q2,q3,q4];exact⟨rfl,rfl⟩
theorem C4n(st:Bool):decide (A1w st=8)=st:=by cases st<;>rfl
theorem D7d(P:List KV)(L:List RW)(cn:Nat)(l:List KP):l.map (D5b P L cn)=(l.map KP.lp).map (D5b P L cn)/\l.all (D2f P L cn)=(l.map KP.lp).all (D2f P L cn):=by
 rw[List.map_map,List.all_map];exact⟨rfl,rfl⟩
theorem D0d{P:List KV}{s:LW}{m:UM}{k:KM}(hop:∀x∈m.code,x.op<256)(h:Pl P (s.method m).1)(h0:0<s.l.length)(hk:k.lp=(s.method m).2)(hcn:k.cn=k.code.length):B9k P k=m.p/\B9m P k=true:=by
 obtain⟨s1,hs1⟩:=exz (s.need (A5e m.nm&&A3k m.ds) 8);obtain⟨n,hn⟩:=exz (s1.text m.nm);obtain⟨d,hd⟩:=exz (n.1.text m.ds);obtain⟨c,hc⟩:∃c,c=(d.1.text A6z).1:=⟨_,rfl⟩
 obtain⟨c2,hc2⟩:=exz (if m.maps=[]then c else(c.text B4t).1)
 obtain⟨q,hq⟩:=exz (c2.code m.code);obtain⟨t,ht⟩:=exz (q.1.traps m.code m.traps);obtain⟨p,hp⟩:=exz (t.1.maps m.code m.maps)
 have hm:s.method m=(p.1,⟨A1w m.st,(n.2:Nat),(d.2:Nat),m.sk,m.lo,none,0,0,q.2,none,0,0,t.2,none,0,0,p.2⟩):=by subst hp ht hq hc2 hc hd hn hs1;rfl
 rw[hm]at h hk;dsimp only at h hk;have k1:0<s1.l.length:=by rw[hs1];exact h0
 have kn:0<n.1.l.length:=by rw[hn];exact((LSt.refl _).text _).pos k1
 have kd:0<d.1.l.length:=by rw[hd];exact((LSt.refl _).text _).pos kn
 have kc:0<c.l.length:=by rw[hc];exact((LSt.refl _).text _).pos kd
 have sc2:LSt c c2:=by
  rw[hc2];split
  ·exact LSt.refl _
  exact(LSt.refl _).text _
 have kc2:=sc2.pos kc;have kq:0<q.1.l.length:=by rw[hq];exact((LSt.refl _).code _).pos kc2
 have kt:0<t.1.l.length:=by rw[ht];exact((LSt.refl _).traps _ _).pos kq
 have hT:Pl P t.1:=h.back (by rw[hp];exact(LSt.refl _).maps _ _) kt;have hQ:Pl P q.1:=hT.back (by rw[ht];exact(LSt.refl _).traps _ _) kq
 have hC2:Pl P c2:=hQ.back (by rw[hq];exact(LSt.refl _).code _) kc2;have hC:Pl P c:=hC2.back sc2 kc;have hD:Pl P d.1:=hC.back (by rw[hc];exact(LSt.refl _).text _) kd
 have hN:Pl P n.1:=hD.back (by rw[hd];exact(LSt.refl _).text _) kn;have hS:Pl P s1:=hN.back (by rw[hn];exact(LSt.refl _).text _) k1
 have hok:=(A4v (by rw[<-hs1];exact hS.e) (show(8:Int)≠0 by decide)).2;obtain⟨n1,n2⟩:=A4x (by rw[<-hn];exact hN) k1;obtain⟨d1,d2⟩:=A4x (by rw[<-hd];exact hD) kn;rw[<-hn]at n1
 rw[<-hd]at d1;obtain⟨L,g1,g2,g3,g4,g5⟩:=C7i hop (by rw[<-hq];exact hQ) kc2;rw[<-hq]at g1 g5;have hcd:k.code=q.2:=congrArg KM.code hk
 have hcn2:k.cn=A3q m.code m.code.length:=by rw[hcn,hcd,g5]
 obtain⟨t1,t2⟩:=C3n (P:=P) g2 hcn2 m.traps q.1 (by rw[<-ht];exact hT) kq;obtain⟨p1,p2⟩:=C8m (P:=P) (cn:=k.cn) g2 m.maps t.1 (by rw[<-hp];exact h) kt;rw[<-ht]at t1 t2;rw[<-hp]at p1 p2
 have e1:k.fl=A1w m.st:=congrArg KM.fl hk;have e2:k.nm=(n.2:Nat):=congrArg KM.nm hk;have e3:k.ds=(d.2:Nat):=congrArg KM.ds hk;have e4:k.st=m.sk:=congrArg KM.st hk
 have e5:k.lo=m.lo:=congrArg KM.lo hk;have e6:k.traps=t.2:=congrArg KM.traps hk;have e7:k.maps.map KP.lp=p.2:=congrArg KM.maps hk;obtain⟨m1,m2⟩:=D7d P L k.cn k.maps;rw[e7]at m1 m2
 unfold B9k B9m;rw[hcd,g1];dsimp only;rw[m1,m2,p1,p2,e6,t1,t2,g3,g4,e1,e2,e3,e4,e5,C4n,n1,d1,hok];exact⟨rfl,rfl⟩
theorem B5u{P:List KV}:∀(l:List UM) (s:LW) (M:List KM),(∀m∈l,∀x∈m.code,x.op<256)->Pl P (s.methods l).1->0<s.l.length->M.map KM.lp=(s.methods l).2->(∀m∈M,m.cn=m.code.length)->M.map (B9k P)=l.map UM.p/\M.all (B9m P)=true
 |[],s,M,hop,h,h0,hM,hc=>by
  have:M=[]:=List.map_eq_nil_iff.1 hM;subst this;exact⟨rfl,rfl⟩
 |m::l,s,M,hop,h,h0,hM,hc=>by
  rw[LW.methods]at h hM;dsimp only at h hM;obtain⟨k,M',rfl,hk,hM'⟩:=List.map_eq_cons_iff.1 hM;have k1:0<(s.method m).1.l.length:=((LSt.refl s).method m).pos h0
  have hT:Pl P (s.method m).1:=h.back ((LSt.refl _).methods l) k1;obtain⟨q1,q2⟩:=D0d (hop m List.mem_cons_self) hT h0 hk (hc k List.mem_cons_self)
  obtain⟨q3,q4⟩:=B5u l _ M' (fun x hx=>hop x (List.mem_cons_of_mem _ hx)) h k1 hM' (fun x hx=>hc x (List.mem_cons_of_mem _ hx));rw[List.map_cons,List.map_cons,List.all_cons,q1,q2,q3,q4]
  exact⟨rfl,rfl⟩
theorem D1p{P:List KV}{s:LW}{f:UF}(h:Pl P (s.field f).1)(h0:0<s.l.length):B1r P (s.field f).2=f/\B4b P (s.field f).2=true:=by
 obtain⟨s1,hs1⟩:=exz (s.need (A5e f.nm&&typeB f.ds) 8);obtain⟨n,hn⟩:=exz (s1.text f.nm);obtain⟨d,hd⟩:=exz (n.1.text f.ds)
 have hm:s.field f=(d.1,⟨A1w f.st,(n.2:Nat),(d.2:Nat)⟩):=by subst hd hn hs1;rfl
 rw[hm]at h⊢;dsimp only at h⊢;have k1:0<s1.l.length:=by rw[hs1];exact h0
 have kn:0<n.1.l.length:=by rw[hn];exact((LSt.refl _).text _).pos k1
 have hN:Pl P n.1:=h.back (by rw[hd];exact(LSt.refl _).text _) kn;have hS:Pl P s1:=hN.back (by rw[hn];exact(LSt.refl _).text _) k1
 have hok:=(A4v (by rw[<-hs1];exact hS.e) (show(8:Int)≠0 by decide)).2;obtain⟨n1,n2⟩:=A4x (by rw[<-hn];exact hN) k1;obtain⟨d1,d2⟩:=A4x (by rw[<-hd];exact h) kn;rw[<-hn]at n1
 rw[<-hd]at d1;unfold B1r B4b;dsimp only;rw[n1,d1,C4n];exact⟨rfl,hok⟩
theorem B9v{P:List KV}:∀(l:List UF) (s:LW),Pl P (s.fields l).1->0<s.l.length->(s.fields l).2.map (B1r P)=l/\(s.fields l).2.all (B4b P)=true
 |[],s,h,h0=>⟨rfl,rfl⟩
 |f::l,s,h,h0=>by
  rw[LW.fields]at h⊢;dsimp only at h⊢;have k1:0<(s.field f).1.l.length:=((LSt.refl s).field f).pos h0;have hT:Pl P (s.field f).1:=h.back ((LSt.refl _).fields l) k1;obtain⟨q1,q2⟩:=D1p hT h0
  obtain⟨q3,q4⟩:=B9v l _ h k1;rw[List.map_cons,List.all_cons,q1,q2,q3,q4];exact⟨rfl,rfl⟩
theorem D2u(u:UU)(hop:∀m∈u.methods,∀x∈m.code,x.op<256)(he:C5q u=0)(f:KF)(hf:f.lp=(A9x u).2)(hcn:∀m∈f.methods,m.cn=m.code.length):B6t f=true/\C0w f=u.p:=by
 have hee:(A9x u).1.e=0/\A2r (A9x u).2=true:=by
  unfold C5q at he;split at he
  ·next h1=>
   refine⟨h1,?_⟩;split at he
   ·assumption
   exact absurd he (by decide)
  next h1=>exact absurd he h1
 obtain⟨h1,hck⟩:=hee;rw[<-hf,B6k]at hck;obtain⟨s,hs⟩:∃s,s=(⟨[kz],0⟩:LW).consts u.methods:=⟨_,rfl⟩;obtain⟨t,ht⟩:=exz (s.cls u.nm false)
 obtain⟨p,hp⟩:=exz (if u.su=[]then(t.1,0)else t.1.cls u.su false)
 obtain⟨d,hd⟩:=exz (p.1.fields u.fields);obtain⟨m,hm⟩:=exz (d.1.methods u.methods)
 have hl:A9x u=(m.1,⟨none,0,0,m.1.l,(t.2:Nat),(p.2:Nat),none,0,0,d.2,none,0,0,m.2⟩):=by subst hm hd hp ht hs;rfl
 rw[hl]at h1 hf;dsimp only at h1 hf;have st1:LSt (⟨[kz],0⟩:LW) s:=by rw[hs];exact(LSt.refl _).consts _
 have ks:0<s.l.length:=st1.pos (by decide);have st2:LSt s t.1:=by rw[ht];exact(LSt.refl _).cls _ _
 have kt:0<t.1.l.length:=st2.pos ks
 have st3:LSt t.1 p.1:=by
  rw[hp];split
  ·exact LSt.refl _
  exact(LSt.refl _).cls _ _
 have kp:=st3.pos kt;have st4:LSt p.1 d.1:=by rw[hd];exact(LSt.refl _).fields _
 have kd:=st4.pos kp;have st5:LSt d.1 m.1:=by rw[hm];exact(LSt.refl _).methods _
 have km:=st5.pos kd;have hz:kAt m.1.l 0=kz:=C1s ((((st1.trans st2).trans st3).trans st4).trans st5).pre 0 (by decide);have hM:Pl m.1.l m.1:=⟨List.prefix_refl _,h1,km,hz⟩;have hD:=hM.back st5 kd
 have hP:=hD.back st4 kp;have hT:=hP.back st3 kt;have f1:f.pool=m.1.l:=congrArg KF.pool hf;have f2:f.th=(t.2:Nat):=congrArg KF.th hf;have f3:f.su=(p.2:Nat):=congrArg KF.su hf
 have f4:f.fields=d.2:=congrArg KF.fields hf;have f5:f.methods.map KM.lp=m.2:=congrArg KF.methods hf;have c1:=(B0a (by rw[<-ht];exact hT) ks).1;have c2:=D3h (by rw[<-ht];exact hT) ks
 rw[<-ht]at c1 c2;obtain⟨d1,d2⟩:=B9v u.fields p.1 (by rw[<-hd];exact hD) kp;rw[<-hd]at d1 d2
 obtain⟨m1,m2⟩:=B5u u.methods d.1 f.methods hop (by rw[<-hm];exact hM) kd (by rw[<-hm];exact f5) hcn
 have hsu:(if f.su=0 then []else(A0s m.1.l f.su).1)=u.su/\(decide (f.su=0)||aclsB m.1.l f.su false)=true:=by
  rw[f3];by_cases hx:u.su=[]
  ·rw[if_pos hx]at hp;subst hp;exact⟨by rw[hx];rfl,rfl⟩
  rw[if_neg hx]at hp;have q1:=(B0a (by rw[<-hp];exact hP) kt).1;have q2:=D3h (by rw[<-hp];exact hP) kt;have q3:=D4j (by rw[<-hp];exact hP) kt;rw[<-hp]at q1 q2 q3
  rw[if_neg (by omega),q1,q2];exact⟨rfl,by simp⟩
 unfold B6t C0w;rw[hck,f1,f4,f2,c1,c2,d1,d2,m1,m2,hsu.1,hsu.2];exact⟨rfl,rfl⟩
abbrev Mn:=Int×Int×List (List UInt8)
def A6h(L:List KV)(c:KV):Mn:=
 (c.tag,c.n,if c.tag=1 then [c.s]else if c.tag=7\/c.tag=8 then [A1c L c.a]else if c.tag=12 then [A1c L c.a,A1c L c.b]
  else if c.tag=9\/c.tag=10 then [(A0s L c.a).1,A1c L (kAt L c.b).a,A1c L (kAt L c.b).b]else [])
def B2t(L:List KV)(c:KV):Prop:=
 (c.tag=1/\(A4m c.s).isSome=true/\c.s.length<=65535)\/c.tag=3\/c.tag=5\/((c.tag=7\/c.tag=8)/\isT L c.a 1=true)\/
  (c.tag=12/\isT L c.a 1=true/\isT L c.b 1=true)\/((c.tag=9\/c.tag=10)/\isT L c.a 7=true/\isT L c.b 12=true)
structure A8a(L:List KV):Prop where
 pos:0<L.length
 z:kAt L 0=kz
 pad:∀i:Nat,i<L.length->(kAt L i).tag=0->i=0\/(kAt L ((i:Int) -1)).tag=5
 nxt:∀i:Nat,i<L.length->(kAt L i).tag=5->i+1<L.length/\(kAt L ((i:Int)+1)).tag=0
 bare:∀i:Nat,i<L.length->A4r (kAt L i)=true
 lead:∀i:Nat,i<L.length->(kAt L i).tag≠0->B2t L (kAt L i)
 twin:∀i j:Nat,i<L.length->j<L.length->(kAt L i).tag≠0->kAt L i=kAt L j->i=j
theorem A9b{c:KV}(h:A4r c=true):(c.tag=1\/c.s=[])/\((c.tag=5\/c.n=0)\/(c.tag=3/\-2147483648<=c.n/\c.n<=2147483647))/\((c.tag=9\/c.tag=10\/c.tag=12)\/c.b=0)/\((c.tag=9\/c.tag=10\/c.tag=12\/c.tag=7\/c.tag=8)\/c.a=0):=by
 unfold A4r at h;simp only[Bool.and_eq_true,Bool.or_eq_true,decide_eq_true_eq,List.isEmpty_iff]at h;obtain⟨⟨⟨b1,b2⟩,b3⟩,b4⟩:=h;exact⟨b1,b2,b3,b4⟩
theorem A7g{L:List KV}{a t:Int}(h:isT L a t=true):∃k:Nat,a=(k:Int)/\k<L.length/\(kAt L k).tag=t:=by
 have h1:=of_decide_eq_true h;refine⟨a.toNat,by omega,by omega,?_⟩;rw[show((a.toNat:Nat):Int)=a by omega];exact h1.2.2
theorem B9c{c d:KV}(h1:c.tag=d.tag)(h2:c.a=d.a)(h3:c.b=d.b)(h4:c.n=d.n)(h5:c.s=d.s):c=d:=by
 obtain⟨a1,a2,a3,a4,a5⟩:=c;obtain⟨b1,b2,b3,b4,b5⟩:=d;simp only at h1 h2 h3 h4 h5;subst h1 h2 h3 h4 h5;rfl
theorem A7s{L:List KV}{a:Int}(h:isT L a 1=true):A1c L a=(kAt L a).s:=by
 unfold A1c;rw[h,if_pos rfl]
theorem A5p{L:List KV}{a:Int}(h:isT L a 7=true):(A0s L a).1=A1c L (kAt L a).a:=by
 unfold A0s;rw[h,if_pos rfl]
theorem A8a.t1{L:List KV}(h:A8a L){a b:Int}(ha:isT L a 1=true)(hb:isT L b 1=true)(he:A1c L a=A1c L b):a=b:=by
 rw[A7s ha,A7s hb]at he;obtain⟨i,rfl,hi,ti⟩:=A7g ha;obtain⟨j,rfl,hj,tj⟩:=A7g hb;obtain⟨p1,p2,p3,p4⟩:=A9b (h.bare i hi);obtain⟨q1,q2,q3,q4⟩:=A9b (h.bare j hj)
 rw[h.twin i j hi hj (by omega) (B9c (by omega) (by omega) (by omega) (by omega) he)]
theorem A8a.t7{L:List KV}(h:A8a L){a b:Int}(ha:isT L a 7=true)(hb:isT L b 7=true)(he:(A0s L a).1=(A0s L b).1):a=b:=by
 rw[A5p ha,A5p hb]at he;obtain⟨i,rfl,hi,ti⟩:=A7g ha;obtain⟨j,rfl,hj,tj⟩:=A7g hb
 have l1:isT L (kAt L i).a 1=true:=by
  rcases h.lead i hi (by omega)with h|h|h|h|h|h
  ·omega
  ·omega
  ·omega
  ·exact h.2
  ·omega
  omega
 have l2:isT L (kAt L j).a 1=true:=by
  rcases h.lead j hj (by omega)with h|h|h|h|h|h
  ·omega
  ·omega
  ·omega
  ·exact h.2
  ·omega
  omega
 have e1:=h.t1 l1 l2 he;obtain⟨p1,p2,p3,p4⟩:=A9b (h.bare i hi);obtain⟨q1,q2,q3,q4⟩:=A9b (h.bare j hj)
 have s1:(kAt L i).s=[]:=by rcases p1 with h|h;omega;exact h
 have s2:(kAt L j).s=[]:=by rcases q1 with h|h;omega;exact h
 rw[h.twin i j hi hj (by omega) (B9c (by omega) e1 (by omega) (by omega) (by rw[s1,s2]))]
theorem A8a.l12{L:List KV}(h:A8a L){a:Int}(ha:isT L a 12=true):isT L (kAt L a).a 1=true/\isT L (kAt L a).b 1=true:=by
 obtain⟨i,rfl,hi,ti⟩:=A7g ha
 rcases h.lead i hi (by omega)with h|h|h|h|h|h
 ·omega
 ·omega
 ·omega
 ·omega
 ·exact h.2
 omega
theorem A8a.t12{L:List KV}(h:A8a L){a b:Int}(ha:isT L a 12=true)(hb:isT L b 12=true)(he:A1c L (kAt L a).a=A1c L (kAt L b).a)(hf:A1c L (kAt L a).b=A1c L (kAt L b).b):a=b:=by
 have e1:=h.t1 (h.l12 ha).1 (h.l12 hb).1 he;have e2:=h.t1 (h.l12 ha).2 (h.l12 hb).2 hf;obtain⟨i,rfl,hi,ti⟩:=A7g ha;obtain⟨j,rfl,hj,tj⟩:=A7g hb
 obtain⟨p1,p2,p3,p4⟩:=A9b (h.bare i hi);obtain⟨q1,q2,q3,q4⟩:=A9b (h.bare j hj)
 have s1:(kAt L i).s=[]:=by rcases p1 with h|h;omega;exact h
 have s2:(kAt L j).s=[]:=by rcases q1 with h|h;omega;exact h
 rw[h.twin i j hi hj (by omega) (B9c (by omega) e1 e2 (by omega) (by rw[s1,s2]))]
theorem A8a.one{L:List KV}(h:A8a L){c d:KV}(bc:A4r c=true)(bd:A4r d=true)(lc:B2t L c)(ld:B2t L d)(e:A6h L c=A6h L d):c=d:=by
 unfold A6h at e;simp only[Prod.mk.injEq]at e;obtain⟨et,en,es⟩:=e;obtain⟨p1,p2,p3,p4⟩:=A9b bc;obtain⟨q1,q2,q3,q4⟩:=A9b bd;rw[<-et]at es
 have sx:c.tag≠1->c.s=d.s:=fun hn=>by
  have s1:c.s=[]:=by rcases p1 with h|h;omega;exact h
  have s2:d.s=[]:=by rcases q1 with h|h;omega;exact h
  rw[s1,s2]
 unfold B2t at lc ld;by_cases t1:c.tag=1
 ·rw[if_pos t1,if_pos t1]at es;exact B9c et (by omega) (by omega) en (by simpa using es)
 by_cases t7:c.tag=7\/c.tag=8
 ·rw[if_neg t1,if_neg t1,if_pos t7,if_pos t7]at es;simp only[List.cons.injEq,and_true]at es
  have l1:isT L c.a 1=true:=by
   rcases lc with h|h|h|h|h|h
   ·omega
   ·omega
   ·omega
   ·exact h.2
   ·omega
   omega
  have l2:isT L d.a 1=true:=by
   rcases ld with h|h|h|h|h|h
   ·omega
   ·omega
   ·omega
   ·exact h.2
   ·omega
   omega
  exact B9c et (h.t1 l1 l2 es) (by omega) en (sx t1)
 by_cases t12:c.tag=12
 ·rw[if_neg t1,if_neg t1,if_neg t7,if_neg t7,if_pos t12,if_pos t12]at es;simp only[List.cons.injEq,and_true]at es
  have l1:isT L c.a 1=true/\isT L c.b 1=true:=by
   rcases lc with h|h|h|h|h|h
   ·omega
   ·omega
   ·omega
   ·omega
   ·exact h.2
   omega
  have l2:isT L d.a 1=true/\isT L d.b 1=true:=by
   rcases ld with h|h|h|h|h|h
   ·omega
   ·omega
   ·omega
   ·omega
   ·exact h.2
   omega
  exact B9c et (h.t1 l1.1 l2.1 es.1) (h.t1 l1.2 l2.2 es.2) en (sx t1)
 by_cases t9:c.tag=9\/c.tag=10
 ·rw[if_neg t1,if_neg t1,if_neg t7,if_neg t7,if_neg t12,if_neg t12,if_pos t9,if_pos t9]at es;simp only[List.cons.injEq,and_true]at es
  have l1:isT L c.a 7=true/\isT L c.b 12=true:=by
   rcases lc with h|h|h|h|h|h
   ·omega
   ·omega
   ·omega
   ·omega
   ·omega
   exact h.2
  have l2:isT L d.a 7=true/\isT L d.b 12=true:=by
   rcases ld with h|h|h|h|h|h
   ·omega
   ·omega
   ·omega
   ·omega
   ·omega
   exact h.2
  exact B9c et (h.t7 l1.1 l2.1 es.1) (h.t12 l1.2 l2.2 es.2.1 es.2.2) en (sx t1)
 exact B9c et (by omega) (by omega) en (sx t1)
theorem B3e{L P:List KV}(hp:L<+:P){i:Nat}(hi:i<L.length):kAt P (i:Int)=kAt L (i:Int):=by
 rw[C1s hp i hi,A6t L i hi]
theorem A3i{L P:List KV}(hp:L<+:P){a t:Int}(h:isT L a t=true):isT P a t=true/\kAt P a=kAt L a:=by
 have h1:=of_decide_eq_true h;obtain⟨k,rfl,hk,tk⟩:=A7g h;have e:=B3e hp hk;have hl:=hp.length_le;exact⟨decide_eq_true ⟨h1.1,by omega,by rw[e];exact tk⟩,e⟩
theorem A2f{L P:List KV}(hp:L<+:P){a:Int}(h:isT L a 1=true):A1c P a=A1c L a:=by
 obtain⟨h1,h2⟩:=A3i hp h;rw[A7s h,A7s h1,h2]
theorem B8h{L P:List KV}(hp:L<+:P){c:KV}(h:B2t L c):B2t P c:=by
 unfold B2t at h⊢
 rcases h with h|h|h|h|h|h
 ·exact .inl h
 ·exact .inr (.inl h)
 ·exact .inr (.inr (.inl h))
 ·exact .inr (.inr (.inr (.inl ⟨h.1,(A3i hp h.2).1⟩)))
 ·exact .inr (.inr (.inr (.inr (.inl ⟨h.1,(A3i hp h.2.1).1,(A3i hp h.2.2).1⟩))))
 exact .inr (.inr (.inr (.inr (.inr ⟨h.1,(A3i hp h.2.1).1,(A3i hp h.2.2).1⟩))))
theorem A8a.l7{L:List KV}(h:A8a L){a:Int}(ha:isT L a 7=true):isT L (kAt L a).a 1=true:=by
 obtain⟨i,rfl,hi,ti⟩:=A7g ha
 rcases h.lead i hi (by omega)with h|h|h|h|h|h
 ·omega
 ·omega
 ·omega
 ·exact h.2
 ·omega
 omega
theorem B1k{L P:List KV}(hg:A8a L)(hp:L<+:P){c:KV}(h:B2t L c):A6h P c=A6h L c:=by
 unfold A6h;unfold B2t at h;by_cases t1:c.tag=1
 ·rw[if_pos t1,if_pos t1]
 rw[if_neg t1,if_neg t1];by_cases t7:c.tag=7\/c.tag=8
 ·rw[if_pos t7,if_pos t7,A2f hp (show isT L c.a 1=true by
   rcases h with h|h|h|h|h|h
   ·omega
   ·omega
   ·omega
   ·exact h.2
   ·omega
   ·omega)]
 rw[if_neg t7,if_neg t7];by_cases t12:c.tag=12
 ·have l1:isT L c.a 1=true/\isT L c.b 1=true:=by
   rcases h with h|h|h|h|h|h
   ·omega
   ·omega
   ·omega
   ·omega
   ·exact h.2
   omega
  rw[if_pos t12,if_pos t12,A2f hp l1.1,A2f hp l1.2]
 rw[if_neg t12,if_neg t12];by_cases t9:c.tag=9\/c.tag=10
 ·have l1:isT L c.a 7=true/\isT L c.b 12=true:=by
   rcases h with h|h|h|h|h|h
   ·omega
   ·omega
   ·omega
   ·omega
   ·omega
   exact h.2
  obtain⟨m1,m2⟩:=A3i hp l1.1;obtain⟨m3,m4⟩:=A3i hp l1.2
  rw[if_pos t9,if_pos t9,A5p m1,A5p l1.1,m2,m4,A2f hp (hg.l7 l1.1),A2f hp (hg.l12 l1.2).1,A2f hp (hg.l12 l1.2).2]
 rw[if_neg t9,if_neg t9]
theorem C2j(L:List KV)(c:KV)(i:Nat)(hi:i<(A2t L c).length):(i<L.length/\kAt (A2t L c) i=kAt L i)\/(i=L.length/\kAt (A2t L c) i=c)\/(c.tag=5/\i=L.length+1/\kAt (A2t L c) i=kz):=by
 by_cases h1:i<L.length
 ·exact .inl ⟨h1,B3e (B0w L c) h1⟩
 rw[A6t _ i hi];unfold A2t at hi⊢;by_cases h2:i=L.length
 ·subst h2;refine .inr (.inl ⟨rfl,?_⟩);rw[List.getElem_append_left (by simp)];simp
 by_cases h5:c.tag=5
 ·simp only[if_pos h5]at hi⊢;have h3:i=L.length+1:=by simp at hi;omega
  subst h3;refine .inr (.inr ⟨h5,rfl,?_⟩);rw[List.getElem_append_right (by simp)];simp
 simp only[if_neg h5,List.append_nil,List.length_append,List.length_singleton]at hi;omega
theorem C4s(L:List KV)(c:KV):(A2t L c).length=L.length+(if c.tag=5 then 2 else 1):=by
 unfold A2t;split<;>simp
theorem C1q{l:List KV}{c:KV}(h:B2g l c=none)(i:Nat)(hi:i<l.length):kAt l i≠c:=by
 intro he;have h1:=List.findIdx?_eq_none_iff.1 h l[i] (List.getElem_mem hi);rw[A6t l i hi]at he;rw[he]at h1;have h2:eqK c c=true:=A8h.2 rfl;rw[h2]at h1
 cases h1
theorem D1i:A4r kz=true:=by decide
theorem C3k{L:List KV}{a:Int}{i:Nat}(h:a=(i:Int)):kAt L a=kAt L (i:Int):=by rw[h]
theorem A8a.push{L:List KV}(h:A8a L){c:KV}(hc:c.tag≠0)(hb:A4r c=true)(hl:B2t L c)(hn:B2g L c=none):A8a (A2t L c):=by
 have hpre:=B0w L c;have hlen:=C4s L c;have hpos:=h.pos;have hat:=C2j L c
 have h1:kAt (A2t L c) ((L.length:Nat):Int)=c:=by
  have:=hat L.length (by rw[hlen];split<;>omega)
  rcases this with h|h|h
  ·omega
  ·exact h.2
  omega
 have hold:∀i:Nat,i<L.length->kAt (A2t L c) i=kAt L i:=fun i hi=>B3e hpre hi
 refine⟨by rw[hlen];omega,?_,fun i hi t=> ?_,fun i hi t=> ?_,fun i hi=> ?_,fun i hi t=> ?_,fun i j hi hj t e=> ?_⟩
 ·have:=hold 0 hpos;exact this.trans h.z
 ·rcases hat i hi with⟨k,e⟩|⟨k,e⟩|⟨k,q,e⟩
  ·rw[e]at t
   rcases h.pad i k t with h2|h2
   ·exact .inl h2
   by_cases hz:i=0
   ·exact .inl hz
   refine .inr ?_;rw[C3k (show(i:Int) -1=((i-1:Nat):Int) by omega)]at h2⊢;rw[hold (i-1) (by omega)];exact h2
  ·rw[e]at t;exact absurd t hc
  refine .inr ?_;rw[C3k (show(i:Int) -1=((L.length:Nat):Int) by omega),h1];exact k
 ·rcases hat i hi with⟨k,e⟩|⟨k,e⟩|⟨k,q,e⟩
  ·rw[e]at t;obtain⟨h2,h3⟩:=h.nxt i k t;refine⟨by rw[hlen];omega,?_⟩;rw[C3k (show(i:Int)+1=((i+1:Nat):Int) by omega)]at h3⊢;rw[hold (i+1) h2];exact h3
  ·rw[e]at t;rw[if_pos t]at hlen;refine⟨by omega,?_⟩;rw[C3k (show(i:Int)+1=((i+1:Nat):Int) by omega)]
   rcases hat (i+1) (by omega)with⟨k2,e2⟩|⟨k2,e2⟩|⟨k2,q2,e2⟩
   ·omega
   ·omega
   rw[e2];rfl
  rw[e]at t;exact absurd t (by decide)
 ·rcases hat i hi with⟨k,e⟩|⟨k,e⟩|⟨k,q,e⟩
  ·rw[e];exact h.bare i k
  ·rw[e];exact hb
  rw[e];exact D1i
 ·rcases hat i hi with⟨k,e⟩|⟨k,e⟩|⟨k,q,e⟩
  ·rw[e]at t⊢;exact B8h hpre (h.lead i k t)
  ·rw[e];exact B8h hpre hl
  rw[e]at t;exact absurd rfl t
 rcases hat i hi with⟨k,e1⟩|⟨k,e1⟩|⟨k,q,e1⟩
 ·rcases hat j hj with⟨k2,e2⟩|⟨k2,e2⟩|⟨k2,q2,e2⟩
  ·rw[e1]at t;rw[e1,e2]at e;exact h.twin i j k k2 t e
  ·rw[e1,e2]at e;exact absurd e (C1q hn i k)
  rw[e,e2]at t;exact absurd rfl t
 ·rcases hat j hj with⟨k2,e2⟩|⟨k2,e2⟩|⟨k2,q2,e2⟩
  ·rw[e1,e2]at e;exact absurd e.symm (C1q hn j k2)
  ·omega
  rw[e,e2]at t;exact absurd rfl t
 rw[e1]at t;exact absurd rfl t
def wtM(m:Mn):Nat:=if m.1=5 then 2 else 1
def A8x(l:List Mn):Nat:=(l.map wtM).sum
theorem D0i{S:List Mn}{a:Mn}(h:a∈S):A8x S=wtM a+A8x (S.erase a):=by
 induction S with
 |nil=>cases h
 |cons b t ih=>
  by_cases e:b=a
  ·subst e;rw[List.erase_cons_head];rfl
  rw[List.erase_cons_tail (by simpa using e)]
  have h2:a∈t:=by
   rcases List.mem_cons.1 h with h|h
   ·exact absurd h.symm e
   exact h
  have:=ih h2;unfold A8x at this⊢;rw[List.map_cons,List.sum_cons,List.map_cons,List.sum_cons,this];omega
theorem D4k{T:List Mn}:∀{S:List Mn},T.Nodup->(∀m∈T,m∈S)->A8x T<=A8x S:=by
 induction T with
 |nil=>intro S _ _;exact Nat.zero_le _
 |cons a t ih=>
  intro S hn hs;obtain⟨h1,h2⟩:=List.nodup_cons.1 hn;have ha:=hs a List.mem_cons_self
  have h3:=ih (S:=S.erase a) h2 (fun m hm=>by
   have hne:m≠a:=fun e=>h1 (e▸hm)
   exact(List.mem_erase_of_ne hne).2 (hs m (List.mem_cons_of_mem _ hm)))
  rw[D0i ha];unfold A8x at h3⊢;rw[List.map_cons,List.sum_cons];omega
structure Good(S:List Mn)(s:LW):Prop where
 e:s.e=0
 g:A8a s.l
 c:∃T:List Mn,T.Nodup/\(∀m∈T,m∈S)/\s.l.length=1+A8x T/\∀m,m∈T↔∃i:Nat,i<s.l.length/\(kAt s.l i).tag≠0/\A6h s.l (kAt s.l i)=m
theorem Good.len{S:List Mn}{s:LW}(h:Good S s):s.l.length<=1+A8x S:=by
 obtain⟨T,h1,h2,h3,_⟩:=h.c;have:=D4k h1 h2;omega
theorem Good.need{S:List Mn}{s:LW}(h:Good S s){ok:Bool}(hok:ok=true)(k:Int):Good S (s.need ok k):=by
 have:s.need ok k=s:=by
  unfold LW.need;subst hok;have:A2a s.e true k=s.e:=by unfold A2a;simp
  rw[this]
 rw[this];exact h
theorem Good.put{S:List Mn}{s:LW}(h:Good S s){c:KV}(hS:A8x S<=1023)(hc:c.tag≠0)(hb:A4r c=true)(hl:B2t s.l c)(hm:A6h s.l c∈S):Good S (s.put c).1:=by
 unfold LW.put
 cases hx:B2g s.l c with
 |some i=>exact h
 |none=>
 have hg:=h.g.push hc hb hl hx;have hpre:=B0w s.l c;have hlen:=C4s s.l c;obtain⟨T,h1,h2,h3,h4⟩:=h.c
 have hnew:A6h s.l c∉T:=by
  intro hin;obtain⟨i,hi,ti,e⟩:=(h4 _).1 hin;exact C1q hx i hi (h.g.one (h.g.bare i hi) hb (h.g.lead i hi ti) hl e)
 have hT:∀m∈A6h s.l c::T,m∈S:=fun m hm'=>by
  rcases List.mem_cons.1 hm' with rfl|h
  ·exact hm
  exact h2 m h
 have hN:(A6h s.l c::T).Nodup:=List.nodup_cons.2 ⟨hnew,h1⟩
 have hL:(A2t s.l c).length=1+A8x (A6h s.l c::T):=by
  rw[hlen,h3];unfold A8x;rw[List.map_cons,List.sum_cons]
  have:wtM (A6h s.l c)=if c.tag=5 then 2 else 1:=rfl
  rw[this];omega
 have hle:=D4k hN hT;refine Good.need (s:=⟨A2t s.l c,s.e⟩) ⟨h.e,hg,_,hN,hT,hL,fun m=> ?_⟩ (decide_eq_true (by omega)) 9;constructor
 ·intro hin
  rcases List.mem_cons.1 hin with rfl|hin
  ·refine⟨s.l.length,by show _<(A2t s.l c).length;rw[hlen];split<;>omega,?_⟩
   have e:kAt (A2t s.l c) ((s.l.length:Nat):Int)=c:=by
    rcases C2j s.l c s.l.length (by rw[hlen];split<;>omega)with h|h|h
    ·omega
    ·exact h.2
    omega
   show(kAt (A2t s.l c) _).tag≠0/\A6h (A2t s.l c) (kAt (A2t s.l c) _)=_;rw[e];exact⟨hc,B1k h.g hpre hl⟩
  obtain⟨i,hi,ti,e⟩:=(h4 _).1 hin;refine⟨i,by show _<(A2t s.l c).length;omega,?_⟩;show(kAt (A2t s.l c) _).tag≠0/\A6h (A2t s.l c) (kAt (A2t s.l c) _)=_;rw[B3e hpre hi]
  exact⟨ti,(B1k h.g hpre (h.g.lead i hi ti)).trans e⟩
 rintro⟨i,hi,ti,e⟩;change(kAt (A2t s.l c) i).tag≠0 at ti;change A6h (A2t s.l c) (kAt (A2t s.l c) i)=m at e
 rcases C2j s.l c i hi with⟨k,e1⟩|⟨k,e1⟩|⟨k,q,e1⟩
 ·rw[e1]at ti e;rw[B1k h.g hpre (h.g.lead i k ti)]at e;exact List.mem_cons_of_mem _ ((h4 _).2 ⟨i,k,ti,e⟩)
 ·rw[e1,B1k h.g hpre hl]at e;exact e▸List.mem_cons_self
 rw[e1]at ti;exact absurd rfl ti
theorem Good.at{S:List Mn}{s:LW}{c:KV}(h:Good S s)(h2:Good S (s.put c).1)(hc:c.tag≠0):isT (s.put c).1.l ((s.put c).2:Int) c.tag=true/\kAt (s.put c).1.l ((s.put c).2:Int)=c:=by
 have hp:Pl (s.put c).1.l (s.put c).1:=⟨List.prefix_refl _,h2.e,h2.g.pos,h2.g.z⟩;exact⟨C0a hp h.g.pos hc,(B1n hp h.g.pos hc).2.2⟩
def C5z(t:List UInt8):Mn:=(1,0,[t])
def C4q(t:List UInt8):Prop:=(A4m t).isSome=true/\t.length<=65535
theorem Good.text{S:List Mn}{s:LW}(h:Good S s)(hS:A8x S<=1023){t:List UInt8}(ht:C4q t)(hm:C5z t∈S):
  Good S (s.text t).1/\isT (s.text t).1.l ((s.text t).2:Int) 1=true/\A1c (s.text t).1.l ((s.text t).2:Int)=t:=by
 have h2:Good S (s.text t).1:=h.put (c:=⟨1,0,0,0,t⟩) hS (show(1:Int)≠0 by decide) (by unfold A4r;simp) (.inl ⟨rfl,ht.1,ht.2⟩) hm
 obtain⟨h3,h4⟩:=h.at (c:=⟨1,0,0,0,t⟩) h2 (show(1:Int)≠0 by decide);refine⟨h2,h3,?_⟩;refine(A7s h3).trans ?_;show(kAt (s.put ⟨1,0,0,0,t⟩).1.l ((s.put ⟨1,0,0,0,t⟩).2:Int)).s=t
 rw[h4]
def D8i(t:List UInt8):Mn:=(7,0,[t])
theorem Good.cls{S:List Mn}{s:LW}(h:Good S s)(hS:A8x S<=1023){t:List UInt8}{arr:Bool}(ht:C4q t)(hb:(A1b t||(arr&&A2g t))=true)(hm:C5z t∈S)(hn:D8i t∈S):
  Good S (s.cls t arr).1/\isT (s.cls t arr).1.l ((s.cls t arr).2:Int) 7=true/\(A0s (s.cls t arr).1.l ((s.cls t arr).2:Int)).1=t:=by
 obtain⟨s1,hs1⟩:=exz (s.need (A1b t||(arr&&A2g t)) 8);obtain⟨r,hr⟩:=exz (s1.text t);have e:s.cls t arr=r.1.put ⟨7,(r.2:Nat),0,0,[]⟩:=by subst hr hs1;rfl
 rw[e];have g1:Good S s1:=by rw[hs1];exact h.need hb 8
 obtain⟨g2,i2,t2⟩:=g1.text hS ht hm;rw[<-hr]at g2 i2 t2
 have hmean:A6h r.1.l ⟨7,(r.2:Nat),0,0,[]⟩=D8i t:=by
  unfold A6h D8i;simp[t2]
 have g3:=g2.put (c:=⟨7,(r.2:Nat),0,0,[]⟩) hS (show(7:Int)≠0 by decide) (by unfold A4r;simp) (.inr (.inr (.inr (.inl ⟨.inl rfl,i2⟩)))) (by rw[hmean];exact hn)
 obtain⟨h3,h4⟩:=g2.at g3 (show(7:Int)≠0 by decide);refine⟨g3,h3,?_⟩;have hpre:=B3k r.1 ⟨7,(r.2:Nat),0,0,[]⟩;rw[A5p h3,h4]
 show A1c (r.1.put ⟨7,(r.2:Nat),0,0,[]⟩).1.l (r.2:Int)=t;rw[A2f hpre i2,t2]
def mNt(n d:List UInt8):Mn:=(12,0,[n,d])
def D8j(tag:Int)(c n d:List UInt8):Mn:=(tag,0,[c,n,d])
structure B9w(S:List Mn)(z:List UInt8):Prop where
 ok:C4q z
 t:C5z z∈S
 c:D8i z∈S
structure B4z(S:List Mn)(z:List UInt8):Prop where
 ok:C4q z
 t:C5z z∈S
structure D5g(S:List Mn)(tag:Int)(x:IN):Prop where
 c:B9w S x.cl
 n:B4z S x.nm
 d:B4z S x.ds
 nt:mNt x.nm x.ds∈S
 m:D8j tag x.cl x.nm x.ds∈S
theorem Good.member{S:List Mn}{s:LW}(h:Good S s)(hS:A8x S<=1023){x:IN}{tag:Int}{p:List UInt8->Bool}(htag:tag=9\/tag=10)(hb:(A5e x.nm&&p x.ds)=true)(hc:A1b x.cl=true)(hm:D5g S tag x):
  Good S (s.member x tag p).1:=by
 obtain⟨s1,hs1⟩:=exz (s.need (A5e x.nm&&p x.ds) 8);obtain⟨c,ec⟩:=exz (s1.cls x.cl false);obtain⟨n,en⟩:=exz (c.1.text x.nm);obtain⟨d,ed⟩:=exz (n.1.text x.ds)
 obtain⟨b,eb⟩:=exz (d.1.put ⟨12,(n.2:Nat),(d.2:Nat),0,[]⟩);have e:s.member x tag p=b.1.put ⟨tag,(c.2:Nat),(b.2:Nat),0,[]⟩:=by subst eb ed en ec hs1;rfl
 rw[e];have g1:Good S s1:=by rw[hs1];exact h.need hb 8
 obtain⟨g2,i2,t2⟩:=g1.cls (arr:=false) hS hm.c.ok (by rw[hc];rfl) hm.c.t hm.c.c;rw[<-ec]at g2 i2 t2;obtain⟨g3,i3,t3⟩:=g2.text hS hm.n.ok hm.n.t;rw[<-en]at g3 i3 t3
 obtain⟨g4,i4,t4⟩:=g3.text hS hm.d.ok hm.d.t;rw[<-ed]at g4 i4 t4;have p23:c.1.l<+:n.1.l:=by rw[en];exact B3k _ _
 have p34:n.1.l<+:d.1.l:=by rw[ed];exact B3k _ _
 have p45:d.1.l<+:b.1.l:=by rw[eb];exact B3k _ _
 have i3':=(A3i p34 i3).1;have t3':A1c d.1.l (n.2:Int)=x.nm:=(A2f p34 i3).trans t3
 have hm12:A6h d.1.l ⟨12,(n.2:Nat),(d.2:Nat),0,[]⟩=mNt x.nm x.ds:=by
  unfold A6h mNt;simp[t3',t4]
 have g5:=g4.put (c:=⟨12,(n.2:Nat),(d.2:Nat),0,[]⟩) hS (show(12:Int)≠0 by decide) (by unfold A4r;simp) (.inr (.inr (.inr (.inr (.inl ⟨rfl,i3',i4⟩))))) (by rw[hm12];exact hm.nt)
 obtain⟨i5,k5⟩:=g4.at g5 (show(12:Int)≠0 by decide);rw[<-eb]at g5 i5 k5;have i2a:=A3i p23 i2;have i2b:=A3i p34 i2a.1;have i2':=A3i p45 i2b.1
 have t2':(A0s b.1.l (c.2:Int)).1=x.cl:=by
  rw[A5p i2'.1,i2'.2,i2b.2,i2a.2,A2f p45 (A3i p34 (A3i p23 (g2.g.l7 i2)).1).1,A2f p34 (A3i p23 (g2.g.l7 i2)).1,A2f p23 (g2.g.l7 i2),<-A5p i2,t2]
 have hmm:A6h b.1.l ⟨tag,(c.2:Nat),(b.2:Nat),0,[]⟩=D8j tag x.cl x.nm x.ds:=by
  have k5':kAt b.1.l (b.2:Int)=⟨12,(n.2:Nat),(d.2:Nat),0,[]⟩:=k5;have u1:A1c b.1.l (n.2:Int)=x.nm:=(A2f p45 i3').trans t3'
  have u2:A1c b.1.l (d.2:Int)=x.ds:=(A2f p45 i4).trans t4;unfold A6h D8j;dsimp only;rw[if_neg (by omega),if_neg (by omega),if_neg (by omega),if_pos htag,k5',t2',u1,u2]
 exact g5.put (c:=⟨tag,(c.2:Nat),(b.2:Nat),0,[]⟩) hS (show tag≠0 by omega) (by unfold A4r;rcases htag with rfl|rfl<;>simp) (.inr (.inr (.inr (.inr (.inr ⟨htag,i2'.1,i5⟩))))) (by rw[hmm];exact hm.m)
inductive C7n(S:List Mn)(x:IN):Prop where
 |int (h1:x.ds=[73]) (h2:x.op=18) (h3:x.tx=[]) (h4:A4d x.n=true) (h5:((3,x.n,[]):Mn)∈S)
 |str (h1:x.ds=[83]) (h2:x.op=18) (h3:x.n=0) (h4:B4z S x.tx) (h5:((8,0,[x.tx]):Mn)∈S)
 |long (h1:x.ds=[74]) (h2:x.op=20) (h3:x.tx=[]) (h5:((5,x.n,[]):Mn)∈S)
theorem Good.con{S:List Mn}{s:LW}(h:Good S s)(hS:A8x S<=1023){x:IN}(hx:C7n S x):Good S (s.con x).1:=by
 unfold LW.con
 cases hx with
 |int h1 h2 h3 h4 h5=>
  rw[if_pos ⟨h1,h2,h3⟩];have hr:=of_decide_eq_true h4;exact(h.need h4 8).put (c:=⟨3,0,0,x.n,[]⟩) hS (show(3:Int)≠0 by decide) (by unfold A4r;simp[hr.1,hr.2]) (.inr (.inl rfl)) h5
 |str h1 h2 h3 h4 h5=>
  rw[if_neg (fun h=>by rw[h1]at h;exact absurd h.1 (by decide)),if_pos ⟨h1,h2,h3⟩];obtain⟨r,hr⟩:=exz (s.text x.tx);rw[<-hr];obtain⟨g2,i2,t2⟩:=h.text hS h4.ok h4.t;rw[<-hr]at g2 i2 t2
  have hm:A6h r.1.l ⟨8,(r.2:Nat),0,0,[]⟩=(8,0,[x.tx]):=by
   unfold A6h;simp[t2]
  exact g2.put (c:=⟨8,(r.2:Nat),0,0,[]⟩) hS (show(8:Int)≠0 by decide) (by unfold A4r;simp) (.inr (.inr (.inr (.inl ⟨.inr rfl,i2⟩)))) (by rw[hm];exact h5)
 |long h1 h2 h3 h5=>
 rw[if_neg (fun h=>by rw[h1]at h;exact absurd h.1 (by decide)),if_neg (fun h=>by rw[h1]at h;exact absurd h.1 (by decide)),if_pos ⟨h1,h2,h3⟩]
 exact h.put (c:=⟨5,0,0,x.n,[]⟩) hS (show(5:Int)≠0 by decide) (by unfold A4r;simp) (.inr (.inr (.inl rfl))) h5
inductive D4s(S:List Mn)(x:IN):Prop where
 |mem (h1:A6k x.op=true) (h2:A3d x=true) (h3:(A5e x.nm&&typeB x.ds)=true) (h4:A1b x.cl=true) (h5:D5g S 9 x)
 |inv (h0:A6k x.op=false) (h1:A9a x.op=true) (h2:A3d x=true) (h3:(A5e x.nm&&A3k x.ds)=true) (h4:A1b x.cl=true) (h5:D5g S 10 x)
 |cls (h0:A6k x.op=false) (h1:A9a x.op=false) (h2:B0x x=true) (h3:(A1b x.cl||(decide (x.op≠187)&&A2g x.cl))=true) (h5:B9w S x.cl)
theorem Good.wide{S:List Mn}{s:LW}(h:Good S s)(hS:A8x S<=1023){x:IN}(hx:D4s S x):Good S (s.wide x).1:=by
 unfold LW.wide
 cases hx with
 |mem h1 h2 h3 h4 h5=>
  rw[if_pos h1];exact(h.need h2 8).member hS (.inl rfl) h3 h4 h5
 |inv h0 h1 h2 h3 h4 h5=>
  rw[if_neg (by rw[h0];simp),if_pos h1];exact(h.need h2 8).member hS (.inr rfl) h3 h4 h5
 |cls h0 h1 h2 h3 h5=>
 rw[if_neg (by rw[h0];simp),if_neg (by rw[h1];simp)];exact((h.need h2 8).cls hS h5.ok h3 h5.t h5.c).1
inductive B5a(S:List Mn)(x:IN):Prop where
 |con (h1:x.op=18\/x.op=20) (h2:x.cl=[]/\x.nm=[]/\x.m=0) (h3:C7n S x)
 |wide (h1:x.op≠18/\x.op≠20) (h2:A0g x.op=6) (h3:D4s S x)
 |plain (h1:x.op≠18/\x.op≠20) (h2:A0g x.op≠6/\A0g x.op≠0) (h3:A8v x=true) (h4:A4d x.n=true) (h5:A0g x.op≠7->A1h ⟨0,x.op,x.n,x.m⟩ (A0g x.op)=true)
def D9f(S:List Mn)(s0:LW)(x:IN):Prop:=x.op=18->∀t:LW,Good S t->s0.l<+:t.l->(t.con x).2<=255
theorem Good.raw{S:List Mn}{s:LW}(h:Good S s)(hS:A8x S<=1023){x:IN}{p:Nat}(hx:B5a S x){s0:LW}(hn:D9f S s0 x)(hs:s0.l<+:s.l):Good S (s.raw p x).1:=by
 unfold LW.raw
 cases hx with
 |con h1 h2 h3=>
  rw[if_pos h1];have g1:=h.need (decide_eq_true h2) 8;refine(g1.con hS h3).need ?_ 9
  rcases h1 with h1|h1
  ·have:=hn h1 _ g1 hs;simp only[Bool.or_eq_true,decide_eq_true_eq];exact .inr this
  rw[h1];rfl
 |wide h1 h2 h3=>
  rw[if_neg (by omega),if_pos h2];exact h.wide hS h3
 |plain h1 h2 h3 h4 _=>
 rw[if_neg (by omega),if_neg h2.1,if_neg h2.2];exact(h.need h3 8).need h4 8
theorem Good.raws{S:List Mn}(hS:A8x S<=1023){s0:LW}:∀(l:List IN) {s:LW} (_:Good S s) (p:Nat) (_:∀x∈l,B5a S x) (_:∀x∈l,D9f S s0 x) (_:s0.l<+:s.l),Good S (s.raws p l).1
 |[],_,h,_,_,_,_=>h
 |x::l,s,h,p,hx,hn,hs=>by
  rw[LW.raws]
  exact Good.raws hS l (h.raw hS (hx x List.mem_cons_self) (hn x List.mem_cons_self) hs) _ (fun y hy=>hx y (List.mem_cons_of_mem _ hy)) (fun y hy=>hn y (List.mem_cons_of_mem _ hy)) (hs.trans ((LSt.refl s).raw p x).pre)
theorem Good.goes{S:List Mn}(l:List IN):∀(k:List IN) {s:LW} (_:Good S s) (_:∀x∈k,A0g x.op=7->inB l x.n=true),Good S (s.goes l k)
 |[],_,h,_=>h
 |x::k,s,h,hx=>by
  rw[LW.goes];refine Good.goes l k ?_ (fun y hy=>hx y (List.mem_cons_of_mem _ hy));split
  ·next h7=>exact h.need (hx x List.mem_cons_self h7) 2
  exact h
end
end Go.Proofs.YtclpkipaehpkdaaGreatDoor
