/- asm -/
import Derived.Test.YtclpkipaehpkdaaGreatDoorQ24AsmLowers
import Derived.Test.YtclpkipaehpkdaaGreatDoorQ18AsmLowers
set_option linter.unusedVariables false
set_option linter.unusedSimpArgs false
set_option maxRecDepth 100000
set_option maxHeartbeats 64000000
namespace Go.Proofs.YtclpkipaehpkdaaGreatDoor
section
open Go.ChangeShapes Go.WideShapes Go.ChangeAt Go.RowKit
inductive LSt:LW->LW->Prop
 |refl (s:LW):LSt s s
 |need {s t:LW} (h:LSt s t) (ok:Bool) (k:Int) (hk:k=0\/k=8\/k=2\/k=9):LSt s (t.need ok k)
 |put {s t:LW} (h:LSt s t) (c:KV) (hc:c.tag≠0):LSt s (t.put c).1
theorem LSt.trans{s t u:LW}(h:LSt s t)(k:LSt t u):LSt s u:=by
 induction k with
 |refl=>exact h
 |need k ok n hn ih=>exact ih.need ok n hn
 |put k c hc ih=>exact ih.put c hc
theorem LSt.pre{s t:LW}(h:LSt s t):s.l<+:t.l:=by
 induction h with
 |refl=>exact List.prefix_refl _
 |need h ok k hk ih=>exact ih
 |put h c hc ih=>exact ih.trans (E0r _ c)
theorem E4b{s:LW}{c:KV}(h:(s.put c).1.e=0):s.e=0:=by
 unfold LW.put at h;split at h
 ·exact h
 exact C3j h
theorem LSt.e{s t:LW}(h:LSt s t):t.e=0->s.e=0:=by
 induction h with
 |refl=>exact id
 |need h ok k hk ih=>exact fun he=>ih (C3j he)
 |put h c hc ih=>exact fun he=>ih (E4b he)
def D8e(e:Int):Prop:=e=0\/e=8\/e=2\/e=9
theorem D3i{er k:Int}(ok:Bool)(h:D8e er)(hk:D8e k):D8e (A2t er ok k):=by
 unfold A2t;split
 ·exact hk
 exact h
theorem LSt.codes{s t:LW}(h:LSt s t)(hs:D8e s.e):D8e t.e:=by
 induction h with
 |refl=>exact hs
 |need h ok k hk ih=>exact D3i ok ih hk
 |put h c hc ih=>
  unfold LW.put;split
  ·exact ih
  exact D3i _ ih (.inr (.inr (.inr rfl)))
theorem LSt.pos{s t:LW}(h:LSt s t)(h0:0<s.l.length):0<t.l.length:=Nat.lt_of_lt_of_le h0 h.pre.length_le
theorem LSt.text{s t:LW}(h:LSt s t)(x:List UInt8):LSt s (t.text x).1:=h.put _ (show(1:Int)≠0 by decide)
theorem LSt.need8{s t:LW}(h:LSt s t)(ok:Bool):LSt s (t.need ok 8):=h.need ok 8 (.inr (.inl rfl))
theorem LSt.need2{s t:LW}(h:LSt s t)(ok:Bool):LSt s (t.need ok 2):=h.need ok 2 (.inr (.inr (.inl rfl)))
theorem LSt.need9{s t:LW}(h:LSt s t)(ok:Bool):LSt s (t.need ok 9):=h.need ok 9 (.inr (.inr (.inr rfl)))
theorem LSt.cls{s t:LW}(h:LSt s t)(x:List UInt8)(arr:Bool):LSt s (t.cls x arr).1:=((h.need8 _).text x).put _ (show(7:Int)≠0 by decide)
theorem LSt.member{s t:LW}(h:LSt s t)(x:IN)(tag:Int)(p:List UInt8->Bool)(ht:tag≠0):LSt s (t.member x tag p).1:=by
 unfold LW.member;dsimp only;exact(((((h.need8 _).cls _ _).text _).text _).put _ (show(12:Int)≠0 by decide)).put _ ht
theorem LSt.con{s t:LW}(h:LSt s t)(x:IN):LSt s (t.con x).1:=by
 unfold LW.con;split
 ·exact(h.need8 _).put _ (show(3:Int)≠0 by decide)
 split
 ·exact(h.text _).put _ (show(8:Int)≠0 by decide)
 split
 ·exact h.put _ (show(5:Int)≠0 by decide)
 exact h.need8 _
theorem LSt.wide{s t:LW}(h:LSt s t)(x:IN):LSt s (t.wide x).1:=by
 unfold LW.wide;split
 ·exact(h.need8 _).member _ _ _ (by decide)
 split
 ·exact(h.need8 _).member _ _ _ (by decide)
 exact(h.need8 _).cls _ _
theorem LSt.raw{s t:LW}(h:LSt s t)(p:Nat)(x:IN):LSt s (t.raw p x).1:=by
 unfold LW.raw;split
 ·exact((h.need8 _).con x).need9 _
 split
 ·exact h.wide x
 split
 ·exact h.need8 _
 exact(h.need8 _).need8 _
theorem LSt.raws{s t:LW}(h:LSt s t)(p:Nat)(l:List IN):LSt s (t.raws p l).1:=by
 induction l generalizing t p with
 |nil=>exact h
 |cons x l ih=>
  rw[LW.raws];exact ih (h.raw p x) _
theorem LSt.goes{s t:LW}(h:LSt s t)(l k:List IN):LSt s (t.goes l k):=by
 induction k generalizing t with
 |nil=>exact h
 |cons x k ih=>
  rw[LW.goes];split
  ·exact ih (h.need2 _)
  exact ih h
theorem C0b(l:List RW):D8e (A2f l).1:=by
 unfold A2f;split
 ·exact .inr (.inl rfl)
 split
 ·exact .inr (.inr (.inl rfl))
 split
 ·exact .inr (.inr (.inr rfl))
 exact .inl rfl
theorem LSt.code{s t:LW}(h:LSt s t)(l:List IN):LSt s (t.code l).1:=((h.raws 0 l).goes l l).need _ _ (C0b _)
theorem LSt.slot{s t:LW}(h:LSt s t)(x:List UInt8):LSt s (t.slot x).1:=by
 unfold LW.slot;split
 ·exact h
 split
 ·exact h
 split
 ·exact h
 split
 ·exact h
 split
 ·exact h.cls _ _
 exact(h.need8 _).cls _ _
theorem LSt.slots{s t:LW}(h:LSt s t)(l:List (List UInt8)):LSt s (t.slots l).1:=by
 induction l generalizing t with
 |nil=>exact h
 |cons x l ih=>
  rw[LW.slots];exact ih (h.slot x)
theorem LSt.place{s t:LW}(h:LSt s t)(l:List IN)(n most:Int):LSt s (t.place l n most).1:=by
 unfold LW.place;split
 ·exact h.need2 _
 exact h
theorem LSt.trap{s t:LW}(h:LSt s t)(l:List IN)(x:UT):LSt s (t.trap l x).1:=by
 unfold LW.trap;dsimp only;have h3:=((h.place l x.fr (l.length-1)).place l x.tt l.length).place l x.pl (l.length-1);split
 ·exact h3
 exact h3.cls _ _
theorem LSt.traps{s t:LW}(h:LSt s t)(c:List IN)(l:List UT):LSt s (t.traps c l).1:=by
 induction l generalizing t with
 |nil=>exact h
 |cons x l ih=>
  rw[LW.traps];exact ih (h.trap c x)
theorem LSt.map{s t:LW}(h:LSt s t)(l:List IN)(x:UP):LSt s (t.map l x).1:=((h.place l x.pl (l.length-1)).slots _).slots _
theorem LSt.maps{s t:LW}(h:LSt s t)(c:List IN)(l:List UP):LSt s (t.maps c l).1:=by
 induction l generalizing t with
 |nil=>exact h
 |cons x l ih=>
  rw[LW.maps];exact ih (h.map c x)
theorem LSt.method{s t:LW}(h:LSt s t)(m:UM):LSt s (t.method m).1:=by
 unfold LW.method;dsimp only;have h1:=(((h.need8 (A7d m.nm&&A3k m.ds)).text m.nm).text m.ds).text A7n;split
 ·exact((h1.code _).traps _ _).maps _ _
 exact(((h1.text B6s).code _).traps _ _).maps _ _
theorem LSt.methods{s t:LW}(h:LSt s t)(l:List UM):LSt s (t.methods l).1:=by
 induction l generalizing t with
 |nil=>exact h
 |cons x l ih=>
  rw[LW.methods];exact ih (h.method x)
theorem LSt.field{s t:LW}(h:LSt s t)(f:UF):LSt s (t.field f).1:=((h.need8 _).text _).text _
theorem LSt.fields{s t:LW}(h:LSt s t)(l:List UF):LSt s (t.fields l).1:=by
 induction l generalizing t with
 |nil=>exact h
 |cons x l ih=>
  rw[LW.fields];exact ih (h.field x)
theorem LSt.consts1{s t:LW}(h:LSt s t)(l:List IN):LSt s (t.consts1 l):=by
 induction l generalizing t with
 |nil=>exact h
 |cons x l ih=>
  rw[LW.consts1];split
  ·exact ih (h.con x)
  exact ih h
theorem LSt.consts{s t:LW}(h:LSt s t)(l:List UM):LSt s (t.consts l):=by
 induction l generalizing t with
 |nil=>exact h
 |cons x l ih=>
  rw[LW.consts];exact ih (h.consts1 x.code)
structure Pl(P:List KV)(s:LW):Prop where
 l:s.l<+:P
 e:s.e=0
 h:0<s.l.length
 z:kAt P 0=kz
theorem Pl.back{P:List KV}{s t:LW}(h:Pl P t)(hs:LSt s t)(h0:0<s.l.length):Pl P s:=⟨hs.pre.trans h.l,hs.e h.e,h0,h.z⟩
theorem A5w{s:LW}{ok:Bool}{k:Int}(h:(s.need ok k).e=0)(hk:k≠0):s.e=0/\ok=true:=(A1i hk).1 h
theorem D1x{l P:List KV}(h:l<+:P)(i:Nat)(hi:i<l.length):kAt P (i:Int)=l[i]:=by
 have hp:=h.length_le;rw[A8c P i (by omega)];exact(h.getElem hi).symm
theorem B3t{P:List KV}{s:LW}{c:KV}(h:Pl P (s.put c).1)(h0:0<s.l.length)(hc:c.tag≠0):
  1<=(s.put c).2/\(s.put c).2<P.length/\kAt P ((s.put c).2:Int)=c:=by
 have key:(s.put c).2<P.length/\kAt P ((s.put c).2:Int)=c:=by
  have hl:=h.l;have hlt:=A9t s c;have hp:=hl.length_le;refine⟨by omega,?_⟩;rw[D1x hl _ hlt]
  have e:(s.put c).1.l[(s.put c).2]? =some c:=by
   unfold LW.put
   cases hx:B8f s.l c with
   |some i=>
    obtain⟨hi,he,_⟩:=List.findIdx?_eq_some_iff_getElem.1 hx;show s.l[i]? =some c;rw[List.getElem?_eq_getElem hi,A9v.1 he]
   |none=>
   show(A7z s.l c)[s.l.length]? =some c;unfold A7z;rw[List.getElem?_append_left (by simp)];simp
  rw[List.getElem?_eq_getElem hlt]at e;exact Option.some.inj e
 refine⟨?_,key⟩
 rcases Nat.eq_zero_or_pos (s.put c).2 with hz|hz
 ·rw[hz]at key;have h1:=key.2;have h2:=h.z;rw[show((0:Nat):Int)=0 from rfl,h2]at h1;exact absurd (by rw[<-h1];rfl) hc
 exact hz
theorem C5t{P:List KV}{s:LW}{c:KV}(h:Pl P (s.put c).1)(h0:0<s.l.length)(hc:c.tag≠0):isT P ((s.put c).2:Int) c.tag=true:=by
 obtain⟨h1,h2,h3⟩:=B3t h h0 hc;unfold isT;rw[h3];exact decide_eq_true ⟨by omega,by omega,rfl⟩
theorem A9p{P:List KV}{s:LW}{t:List UInt8}(h:Pl P (s.text t).1)(h0:0<s.l.length):A1k P ((s.text t).2:Int)=t/\isT P ((s.text t).2:Int) 1=true:=by
 have h1:=C5t (c:=⟨1,0,0,0,t⟩) h h0 (show(1:Int)≠0 by decide);have h2:=(B3t (c:=⟨1,0,0,0,t⟩) h h0 (show(1:Int)≠0 by decide)).2.2;refine⟨?_,h1⟩;unfold A1k
 rw[show isT P ((s.text t).2:Int) 1=true from h1,if_pos rfl];show(kAt P ((s.put ⟨1,0,0,0,t⟩).2:Int)).s=t;rw[h2]
theorem B2b{P:List KV}{s:LW}{t:List UInt8}{arr:Bool}(h:Pl P (s.cls t arr).1)(h0:0<s.l.length):A0s P ((s.cls t arr).2:Int)=(t,true)/\(classB t||(arr&&A2m t))=true:=by
 obtain⟨s1,hs1⟩:=exz (s.need (classB t||(arr&&A2m t)) 8);obtain⟨r,hr⟩:=exz (s1.text t);have hm:s.cls t arr=r.1.put ⟨7,(r.2:Nat),0,0,[]⟩:=by subst hr hs1;rfl
 rw[hm]at h⊢;have k1:0<s1.l.length:=by rw[hs1];exact h0
 have kr:0<r.1.l.length:=by rw[hr];exact((LSt.refl s1).text t).pos k1
 have hR:Pl P r.1:=h.back ((LSt.refl r.1).put _ (show(7:Int)≠0 by decide)) kr;have hS:Pl P s1:=hR.back (by rw[hr];exact(LSt.refl s1).text t) k1
 have hb:=(A5w (by rw[<-hs1];exact hS.e) (show(8:Int)≠0 by decide)).2;obtain⟨t1,t2⟩:=A9p (by rw[<-hr];exact hR) k1;rw[<-hr]at t1 t2;have p1:=C5t h kr (show(7:Int)≠0 by decide)
 have p2:=(B3t h kr (show(7:Int)≠0 by decide)).2.2;refine⟨?_,hb⟩;unfold A0s;rw[show isT P ((r.1.put ⟨7,(r.2:Nat),0,0,[]⟩).2:Int) 7=true from p1,if_pos rfl,p2]
 show(A1k P (r.2:Int),isT P (r.2:Int) 1)=(t,true);rw[t1,t2]
theorem D7s{P:List KV}{s:LW}{t:List UInt8}{arr:Bool}(h:Pl P (s.cls t arr).1)(h0:0<s.l.length):1<=(s.cls t arr).2:=by
 have h1:=(B2b h h0).1;unfold A0s at h1;split at h1
 ·next h2=>have:=A5a h2;omega
 simp at h1
theorem D4y{P:List KV}{s:LW}{t:List UInt8}{arr:Bool}(h:Pl P (s.cls t arr).1)(h0:0<s.l.length):aclsB P ((s.cls t arr).2:Int) arr=true:=by
 obtain⟨h1,h2⟩:=B2b h h0;unfold aclsB;rw[h1];exact h2
theorem D2d{P:List KV}{s:LW}{x:IN}{tag:Int}{p:List UInt8->Bool}(htag:tag=9\/tag=10)(h:Pl P (s.member x tag p).1)(h0:0<s.l.length):
  A1j P ((s.member x tag p).2:Int) tag=(x.cl,x.nm,x.ds,true)/\A7d x.nm=true/\p x.ds=true/\classB x.cl=true:=by
 have ht0:tag≠0:=by omega
 obtain⟨s1,hs1⟩:=exz (s.need (A7d x.nm&&p x.ds) 8);obtain⟨c,hc⟩:=exz (s1.cls x.cl false);obtain⟨n,hn⟩:=exz (c.1.text x.nm);obtain⟨d,hd⟩:=exz (n.1.text x.ds)
 obtain⟨b,hb⟩:=exz (d.1.put ⟨12,(n.2:Nat),(d.2:Nat),0,[]⟩);have hm:s.member x tag p=b.1.put ⟨tag,(c.2:Nat),(b.2:Nat),0,[]⟩:=by subst hb hd hn hc hs1;rfl
 rw[hm]at h⊢;have k1:0<s1.l.length:=by rw[hs1];exact h0
 have kc:0<c.1.l.length:=by rw[hc];exact((LSt.refl s1).cls x.cl false).pos k1
 have kn:0<n.1.l.length:=by rw[hn];exact((LSt.refl c.1).text x.nm).pos kc
 have kd:0<d.1.l.length:=by rw[hd];exact((LSt.refl n.1).text x.ds).pos kn
 have kb:0<b.1.l.length:=by rw[hb];exact((LSt.refl d.1).put _ (show(12:Int)≠0 by decide)).pos kd
 have hB:Pl P b.1:=h.back ((LSt.refl b.1).put _ ht0) kb;have hD:Pl P d.1:=hB.back (by rw[hb];exact(LSt.refl d.1).put _ (show(12:Int)≠0 by decide)) kd
 have hN:Pl P n.1:=hD.back (by rw[hd];exact(LSt.refl n.1).text _) kn;have hC:Pl P c.1:=hN.back (by rw[hn];exact(LSt.refl c.1).text _) kc
 have hS:Pl P s1:=hC.back (by rw[hc];exact(LSt.refl s1).cls _ _) k1;have hok:=(A5w (by rw[<-hs1];exact hS.e) (show(8:Int)≠0 by decide)).2;simp only[Bool.and_eq_true]at hok
 obtain⟨c1,c2⟩:=B2b (by rw[<-hc];exact hC) k1;obtain⟨n1,n2⟩:=A9p (by rw[<-hn];exact hN) kc;obtain⟨d1,d2⟩:=A9p (by rw[<-hd];exact hD) kn;rw[<-hc]at c1;rw[<-hn]at n1 n2
 rw[<-hd]at d1 d2;have b1:=C5t (s:=d.1) (c:=⟨12,(n.2:Nat),(d.2:Nat),0,[]⟩) (by rw[<-hb];exact hB) kd (show(12:Int)≠0 by decide)
 have b2:=(B3t (s:=d.1) (c:=⟨12,(n.2:Nat),(d.2:Nat),0,[]⟩) (by rw[<-hb];exact hB) kd (show(12:Int)≠0 by decide)).2.2;rw[<-hb]at b1 b2;have p1:=C5t h kb ht0
 have p2:=(B3t h kb ht0).2.2;refine⟨?_,hok.1,hok.2,by simpa using c2⟩;unfold A1j;rw[p2];dsimp only;rw[b2];dsimp only;rw[if_pos ⟨htag,p1,b1,by rw[c1],n2,d2⟩,c1,n1,d1]
theorem E3b{P:List KV}{s:LW}{x:IN}(hx:x.cl=[]/\x.nm=[]/\x.m=0)(h:Pl P (s.con x).1)(h0:0<s.l.length)(r:RW)(hr:r.op=x.op):B0q P (A4b r) (s.con x).2=x/\B1m x=true:=by
 obtain⟨op,n,m,cl,nm,ds,tx⟩:=x;obtain⟨p,o,a,b⟩:=r;dsimp only at hx hr;obtain⟨rfl,rfl,rfl⟩:=hx;subst hr;unfold LW.con at h⊢;dsimp only at h⊢;by_cases h1:ds=[73]/\o=18/\tx=[]
 ·rw[if_pos h1]at h⊢;obtain⟨rfl,rfl,rfl⟩:=h1;have p2:=(B3t h h0 (show(3:Int)≠0 by decide)).2.2;unfold B0q;rw[p2];exact⟨rfl,rfl⟩
 rw[if_neg h1]at h⊢;by_cases h2:ds=[83]/\o=18/\n=0
 ·rw[if_pos h2]at h⊢;obtain⟨rfl,rfl,rfl⟩:=h2;obtain⟨t,ht⟩:=exz (s.text tx);rw[<-ht]at h⊢;have kt:0<t.1.l.length:=by rw[ht];exact((LSt.refl s).text tx).pos h0
  have hT:Pl P t.1:=h.back ((LSt.refl t.1).put _ (show(8:Int)≠0 by decide)) kt;obtain⟨t1,t2⟩:=A9p (by rw[<-ht];exact hT) h0;rw[<-ht]at t1 t2
  have p2:=(B3t h kt (show(8:Int)≠0 by decide)).2.2;unfold B0q;rw[p2];dsimp only;rw[t1];exact⟨rfl,rfl⟩
 rw[if_neg h2]at h⊢;by_cases h3:ds=[74]/\o=20/\tx=[]
 ·rw[if_pos h3]at h⊢;obtain⟨rfl,rfl,rfl⟩:=h3;have p2:=(B3t h h0 (show(5:Int)≠0 by decide)).2.2;unfold B0q;rw[p2];exact⟨rfl,rfl⟩
 rw[if_neg h3]at h;have:=(A5w h.e (show(8:Int)≠0 by decide)).2
 cases this
theorem D9t:∀k:Fin 256,A0q k.val=5->k.val=18:=by decide
theorem D2z{n:Int}(h:A7f n=true):A3v n=n:=by
 unfold A7f at h;have:=of_decide_eq_true h;unfold A3v;omega
structure C8h(P:List KV)(x:IN)(r:RW)(p:Nat):Prop where
 pos:r.pos=(p:Nat)
 op:r.op=x.op
 c:B5y P r=true
 v:A0q x.op≠7->∀L,B1a P L r=x
 b:A0q x.op=7->x={A4b r with n:=x.n}
 f0:A0q x.op≠0
theorem D8b{P:List KV}{s:LW}{x:IN}{tag:Int}{p:List UInt8->Bool}(htag:tag=9\/tag=10)(h:Pl P ((s.need (A4v x) 8).member x tag p).1)(h0:0<s.l.length)(q:Int):
  C8n P (A4b ⟨q,x.op,(((s.need (A4v x) 8).member x tag p).2:Nat),0⟩) (((s.need (A4v x) 8).member x tag p).2:Nat) tag=x/\B9b p P (((s.need (A4v x) 8).member x tag p).2:Nat) tag=true:=by
 have k0:0<(s.need (A4v x) 8).l.length:=h0;have hS:Pl P (s.need (A4v x) 8):=h.back ((LSt.refl _).member x tag p (by omega)) k0;have hb:=(A5w hS.e (show(8:Int)≠0 by decide)).2
 unfold A4v at hb;obtain⟨b1,b2,b3⟩:=of_decide_eq_true hb;obtain⟨m1,m2,m3,m4⟩:=D2d htag h k0;obtain⟨op,n,m,cl,nm,ds,tx⟩:=x;dsimp only at b1 b2 b3;subst b1 b2 b3;refine⟨?_,?_⟩
 ·unfold C8n;rw[m1];rfl
 unfold B9b;rw[m1];dsimp only at m2 m3 m4⊢;rw[m2,m3,m4];rfl
theorem E3d{P:List KV}{s:LW}{x:IN}{p:Nat}(hop:x.op<256)(h:Pl P (s.raw p x).1)(h0:0<s.l.length):C8h P x (s.raw p x).2 p:=by
 unfold LW.raw at h⊢;by_cases h1:x.op=18\/x.op=20
 ·rw[if_pos h1]at h⊢;dsimp only at h⊢;obtain⟨c,hc⟩:∃c,c=(s.need (decide (x.cl=[]/\x.nm=[]/\x.m=0)) 8).con x:=⟨_,rfl⟩;rw[<-hc]at h⊢
  have k0:0<(s.need (decide (x.cl=[]/\x.nm=[]/\x.m=0)) 8).l.length:=h0;have kc:0<c.1.l.length:=by rw[hc];exact((LSt.refl _).con x).pos k0
  have hC:Pl P c.1:=h.back ((LSt.refl _).need9 _) kc;have hS:Pl P (s.need (decide (x.cl=[]/\x.nm=[]/\x.m=0)) 8):=hC.back (by rw[hc];exact(LSt.refl _).con x) k0
  have hb:=(A5w hS.e (show(8:Int)≠0 by decide)).2;obtain⟨q1,q2⟩:=E3b (of_decide_eq_true hb) (by rw[<-hc];exact hC) k0 ⟨p,x.op,(c.2:Nat),0⟩ rfl;rw[<-hc]at q1
  have hv:∀L,B1a P L ⟨p,x.op,(c.2:Nat),0⟩=x:=by
   intro L;unfold B1a;dsimp only
   rcases h1 with h1|h1
   ·rw[h1,if_neg (by decide),if_neg (by decide),if_pos (by decide),<-h1];exact q1
   rw[h1,if_neg (by decide),if_neg (by decide),if_neg (by decide),if_pos (by decide),if_pos (by decide),<-h1];exact q1
  have hcc:B5y P ⟨p,x.op,(c.2:Nat),0⟩=true:=by
   unfold B5y;dsimp only;rw[show((c.2:Nat):Int).toNat=c.2 from Int.toNat_natCast _,q1]
   rcases h1 with h1|h1
   ·rw[h1,if_neg (by decide),if_neg (by decide),if_pos (by decide)];exact q2
   rw[h1,if_neg (by decide),if_neg (by decide),if_neg (by decide),if_pos (by decide),if_pos (by decide)];exact q2
  refine⟨rfl,rfl,hcc,fun _=>hv,fun h7=> ?_,fun hz=> ?_⟩
  ·exact absurd h7 (by rcases h1 with h1|h1<;>rw[h1]<;>decide)
  exact absurd hz (by rcases h1 with h1|h1<;>rw[h1]<;>decide)
 rw[if_neg h1]at h⊢;have n18:x.op≠18:=fun e=>h1 (.inl e)
 have n20:x.op≠20:=fun e=>h1 (.inr e)
 by_cases h6:A0q x.op=6
 ·rw[if_pos h6]at h⊢;unfold LW.wide at h⊢;by_cases hm:A7j x.op=true
  ·simp only[if_pos hm]at h⊢;obtain⟨m1,m2⟩:=D8b (.inl rfl) h h0 (p:Nat);refine⟨rfl,rfl,?_,fun _ L=> ?_,fun h7=>absurd h7 (by rw[h6];decide),by rw[h6];decide⟩
   ·unfold B5y;dsimp only;rw[h6,if_neg (by decide),if_neg (by decide),if_neg (by decide),if_pos rfl,if_neg n20,if_pos hm];exact m2
   unfold B1a;dsimp only;rw[h6,if_neg (by decide),if_neg (by decide),if_neg (by decide),if_pos rfl,if_neg n20,if_pos hm];exact m1
  simp only[if_neg hm]at h⊢;by_cases hv:A9w x.op=true
  ·simp only[if_pos hv]at h⊢;obtain⟨m1,m2⟩:=D8b (.inr rfl) h h0 (p:Nat);refine⟨rfl,rfl,?_,fun _ L=> ?_,fun h7=>absurd h7 (by rw[h6];decide),by rw[h6];decide⟩
   ·unfold B5y;dsimp only;rw[h6,if_neg (by decide),if_neg (by decide),if_neg (by decide),if_pos rfl,if_neg n20,if_neg hm,if_pos hv];exact m2
   unfold B1a;dsimp only;rw[h6,if_neg (by decide),if_neg (by decide),if_neg (by decide),if_pos rfl,if_neg n20,if_neg hm,if_pos hv];exact m1
  simp only[if_neg hv]at h⊢;have k0:0<(s.need (B6q x) 8).l.length:=h0;have hS:Pl P (s.need (B6q x) 8):=h.back ((LSt.refl _).cls _ _) k0;have hb:=(A5w hS.e (show(8:Int)≠0 by decide)).2
  unfold B6q at hb;obtain⟨b1,b2,b3,b4,b5⟩:=of_decide_eq_true hb;have c1:=(B2b h k0).1;have c2:=D4y h k0
  refine⟨rfl,rfl,?_,fun _ L=> ?_,fun h7=>absurd h7 (by rw[h6];decide),by rw[h6];decide⟩
  ·unfold B5y;dsimp only;rw[h6,if_neg (by decide),if_neg (by decide),if_neg (by decide),if_pos rfl,if_neg n20,if_neg hm,if_neg hv];exact c2
  unfold B1a;dsimp only;rw[h6,if_neg (by decide),if_neg (by decide),if_neg (by decide),if_pos rfl,if_neg n20,if_neg hm,if_neg hv,c1];obtain⟨op,n,m,cl,nm,ds,tx⟩:=x;dsimp only at b1 b2 b3 b4 b5
  subst b1 b2 b3 b4 b5;rfl
 rw[if_neg h6]at h⊢;by_cases hz:A0q x.op=0
 ·rw[if_pos hz]at h;have:=(A5w h.e (show(8:Int)≠0 by decide)).2
  cases this
 rw[if_neg hz]at h⊢;unfold LW.small at h⊢;dsimp only at h⊢;have hq:=A5w h.e (show(8:Int)≠0 by decide);have hb:=(A5w hq.1 (show(8:Int)≠0 by decide)).2;have hw:=D2z hq.2
 unfold B6g at hb;obtain⟨b1,b2,b3,b4,b5⟩:=of_decide_eq_true hb;have h5:A0q x.op≠5:=fun e=>n18 (D9t ⟨x.op,hop⟩ e)
 rw[hw];clear h hq hb hw;obtain⟨op,n,m,cl,nm,ds,tx⟩:=x;dsimp only at*;subst b2 b3 b4 b5;refine⟨rfl,rfl,?_,fun h7 L=> ?_,fun h7=> ?_,hz⟩
 ·unfold B5y;dsimp only;split
  ·rfl
  split
  ·rfl
  simp only[if_neg h5,if_neg h6]
 ·unfold B1a;dsimp only;rw[if_neg h7];by_cases h8:A0q op=8
  ·rw[if_pos h8];rfl
  rw[if_neg h8,if_neg h5,if_neg h6]
  rcases b1 with rfl|b1
  ·rfl
  exact absurd b1 h8
 rcases b1 with rfl|b1
 ·rfl
 rw[b1]at h7
 cases h7
theorem D4c(s:LW)(p:Nat)(l:List IN):(s.raws p l).2.length=l.length:=by
 induction l generalizing s p with
 |nil=>rfl
 |cons x l ih=>rw[LW.raws,List.length_cons,List.length_cons,ih]
theorem D3h(x:IN)(l:List IN)(k:Nat):A5x (x::l) (k+1)=C2f x+A5x l k:=by
 unfold A5x;simp
theorem C0d(l:List IN):A5x l 0=0:=by
 unfold A5x;simp
theorem B6e(l:List IN)(k:Nat)(x:IN)(h:l[k]? =some x):A5x l (k+1)=A5x l k+C2f x:=by
 obtain⟨hk,he⟩:=gsz h;unfold A5x;rw[List.take_succ_eq_append_getElem hk,he];simp
theorem C4w{l:List IN}(hs:∀x∈l,1<=C2f x):∀(d i:Nat),i+d+1<=l.length->A5x l i<A5x l (i+d+1)
 |0,i,h=>by
  rw[B6e l (i+0) l[i] (by rw[Nat.add_zero];exact List.getElem?_eq_getElem (by omega))];have:=hs l[i] (List.getElem_mem (by omega));rw[Nat.add_zero];omega
 |d+1,i,h=>by
  have h1:=C4w hs d i (by omega);rw[show i+(d+1)+1=(i+d+1)+1 by omega,B6e l (i+d+1) l[i+d+1] (List.getElem?_eq_getElem (by omega))];omega
theorem C5p{l:List IN}(hs:∀x∈l,1<=C2f x){i j:Nat}(hi:i<=l.length)(hj:j<=l.length)(h:A5x l i=A5x l j):i=j:=by
 rcases Nat.lt_trichotomy i j with h1|h1|h1
 ·have:=C4w hs (j-i-1) i (by omega);rw[show i+(j-i-1)+1=j by omega]at this;omega
 ·exact h1
 have:=C4w hs (i-j-1) j (by omega);rw[show j+(i-j-1)+1=i by omega]at this;omega
theorem C6n{P:List KV}:∀(l:List IN) (s:LW) (p:Nat),(∀x∈l,x.op<256)->Pl P (s.raws p l).1->0<s.l.length->∀(k:Nat) (x:IN),l[k]? =some x->∃r,(s.raws p l).2[k]? =some r/\C8h P x r (p+A5x l k)
 |[],s,p,_,_,_,k,x,hx=>by simp at hx
 |y::l,s,p,hop,h,h0,k,x,hx=>by
  rw[LW.raws]at h⊢;dsimp only at h⊢;have kr:0<(s.raw p y).1.l.length:=((LSt.refl s).raw p y).pos h0
  cases k with
  |zero=>
   simp at hx;subst hx;have hR:Pl P (s.raw p y).1:=h.back ((LSt.refl _).raws _ l) kr;refine⟨_,rfl,?_⟩;rw[C0d];exact E3d (hop y List.mem_cons_self) hR h0
  |succ k=>
  rw[List.getElem?_cons_succ]at hx;obtain⟨r,hr,ho⟩:=C6n l (s.raw p y).1 (p+C2f y) (fun z hz=>hop z (List.mem_cons_of_mem _ hz)) h kr k x hx
  refine⟨r,by rw[List.getElem?_cons_succ];exact hr,?_⟩;rw[D3h,<-Nat.add_assoc];exact ho
theorem D3b(l:List IN):∀(k:List IN) (s:LW),(s.goes l k).e=0->s.e=0/\∀x∈k,A0q x.op=7->inB l x.n=true
 |[],s,h=>⟨h,fun x hx=>by cases hx⟩
 |y::k,s,h=>by
  rw[LW.goes]at h;obtain⟨h1,h2⟩:=D3b l k _ h;by_cases h7:A0q y.op=7
  ·rw[if_pos h7]at h1;obtain⟨h3,h4⟩:=A5w h1 (show(2:Int)≠0 by decide);refine⟨h3,fun x hx hx7=> ?_⟩
   rcases List.mem_cons.1 hx with rfl|hx
   ·exact h4
   exact h2 x hx hx7
  rw[if_neg h7]at h1;refine⟨h1,fun x hx hx7=> ?_⟩
  rcases List.mem_cons.1 hx with rfl|hx
  ·exact absurd hx7 h7
  exact h2 x hx hx7
structure B4d(l:List IN)(L:List RW):Prop where
 n:L.length=l.length
 p:∀(k:Nat) r,L[k]? =some r->r.pos=((A5x l k:Nat):Int)
 s:∀x∈l,1<=C2f x
theorem B4d.ix{l:List IN}{L:List RW}(h:B4d l L){n:Nat}(hn:n<l.length):B7n L ((A5x l n:Nat):Int)=some n:=by
 have hl:=h.n
 have h1:=D1u ((A5x l n:Nat):Int) L 0 n none L[n] (List.getElem?_eq_getElem (by omega)) (h.p n _ (List.getElem?_eq_getElem (by omega))) (fun j r' hj hr'=>by
  have hjl:=(gsz hr').1;rw[h.p j r' hr'];intro e;have:=C5p h.s (i:=j) (j:=n) (by omega) (by omega) (by omega);omega)
 rw[Nat.zero_add]at h1;exact h1
theorem B0u(l:List IN)(x:IN)(r:RW):(A4g l x r).pos=r.pos/\(A4g l x r).op=r.op:=by
 unfold A4g;split<;>exact⟨rfl,rfl⟩
theorem D6r{l:List IN}{rs:List RW}{k:Nat}{x:IN}{r:RW}(hx:l[k]? =some x)(hr:rs[k]? =some r):(A8s l rs)[k]? =some (A4g l x r):=by
 unfold A8s;rw[List.getElem?_map,show(l.zip rs)[k]? =some (x,r)from List.getElem?_zip_eq_some.2 ⟨hx,hr⟩];rfl
theorem D0f{l:List IN}{rs:List RW}(h:rs.length=l.length):(A8s l rs).length=l.length:=by
 unfold A8s;simp[h]
theorem D7a{P:List KV}{l:List IN}{x:IN}{r:RW}{p:Nat}(h:C8h P x r p):B5y P (A4g l x r)=true:=by
 unfold A4g;split
 ·next h7=>
  unfold B5y;dsimp only;rw[h.op,if_pos h7.1]
 exact h.c
theorem E0t{P:List KV}{s:LW}{l:List IN}(hop:∀x∈l,x.op<256)(h:Pl P (s.code l).1)(h0:0<s.l.length):
  ∃L,A1y (s.code l).2=(0,L)/\B4d l L/\L.map (B1a P L)=l/\L.all (B5y P)=true/\(s.code l).2.length=A5x l l.length:=by
 obtain⟨c,hc⟩:=exz (s.raws 0 l);obtain⟨L,hL⟩:=exz (A8s l c.2);have hm:s.code l=((c.1.goes l l).need (decide ((A2f L).1=0)) (A2f L).1,(A2f L).2):=by subst hL hc;rfl
 rw[hm]at h⊢;dsimp only at h⊢;have kc:0<c.1.l.length:=by rw[hc];exact((LSt.refl s).raws 0 l).pos h0
 have kg:0<(c.1.goes l l).l.length:=((LSt.refl c.1).goes l l).pos kc;have hG:Pl P (c.1.goes l l):=h.back ((LSt.refl _).need _ _ (C0b L)) kg
 have hE:(A2f L).1=0:=by
  have h1:A2t (c.1.goes l l).e (decide ((A2f L).1=0)) (A2f L).1=0:=h.e;unfold A2t at h1;split at h1
  ·exact h1
  next h2=>
  rcases Decidable.em ((A2f L).1=0)with h3|h3
  ·exact h3
  exact absurd ⟨decide_eq_false h3,hG.e⟩ h2
 have hC:Pl P c.1:=hG.back ((LSt.refl _).goes l l) kc;have hgo:=(D3b l l c.1 hG.e).2
 have hat:∀(k:Nat) (x:IN),l[k]? =some x->∃r,c.2[k]? =some r/\C8h P x r (A5x l k):=by
  intro k x hx;have:=C6n l s 0 hop (by rw[<-hc];exact hC) h0 k x hx;rw[<-hc,Nat.zero_add]at this;exact this
 have hlen:L.length=l.length:=by rw[hL];exact D0f (by rw[hc];exact D4c s 0 l)
 have hLat:∀(k:Nat) (x:IN),l[k]? =some x->∃r,L[k]? =some (A4g l x r)/\C8h P x r (A5x l k):=by
  intro k x hx;obtain⟨r,hr,ho⟩:=hat k x hx;exact⟨r,by rw[hL];exact D6r hx hr,ho⟩
 have hLr:∀(k:Nat) q,L[k]? =some q->∃x r,l[k]? =some x/\q=A4g l x r/\C8h P x r (A5x l k):=by
  intro k q hq;have hk:=(gsz hq).1;have hx:l[k]? =some l[k]:=List.getElem?_eq_getElem (by omega);obtain⟨r,hr,ho⟩:=hLat k _ hx;rw[hr]at hq;exact⟨_,r,hx,(Option.some.inj hq).symm,ho⟩
 have hw:∀r∈L,r.op<256:=by
  intro q hq;obtain⟨k,hk⟩:=List.getElem?_of_mem hq;obtain⟨x,r,hx,rfl,ho⟩:=hLr k q hk;rw[(B0u l x r).2,ho.op];exact hop x (List.mem_of_getElem? hx)
 obtain⟨hbs,hdec⟩:=B6t hw (show A2f L=(0,(A2f L).2)from Prod.ext hE rfl)
 have hlaid:B4d l L:=⟨hlen,fun k q hq=>by
  obtain⟨x,r,hx,rfl,ho⟩:=hLr k q hq;rw[(B0u l x r).1,ho.pos],fun x hx=>by
  obtain⟨k,hk⟩:=List.getElem?_of_mem hx;obtain⟨r,_,ho⟩:=hLat k x hk;exact A8e ho.f0 (A3s _)⟩
 refine⟨L,hdec,hlaid,?_,?_,?_⟩
 ·refine List.ext_getElem? fun k=> ?_
  rw[List.getElem?_map]
  cases hx:l[k]? with
  |none=>
   have:L[k]? =none:=by
    rw[List.getElem?_eq_none_iff]at hx⊢;omega
   rw[this];rfl
  |some x=>
  obtain⟨r,hr,ho⟩:=hLat k x hx;rw[hr];show some (B1a P L (A4g l x r))=some x;congr 1;by_cases h7:A0q x.op=7
  ·have hin:=hgo x (List.mem_of_getElem? hx) h7;have hx2:=ho.b h7;unfold A4g;rw[if_pos ⟨h7,hin⟩];unfold inB at hin;obtain⟨i1,i2⟩:=of_decide_eq_true hin;unfold B1a;dsimp only
   obtain⟨rp,ro,ra,rb⟩:=r;have ho1:ro=x.op:=ho.op;subst ho1;rw[if_pos h7,hlaid.ix (n:=x.n.toNat) (by omega),Option.getD_some,Int.toNat_of_nonneg i1];exact hx2.symm
  unfold A4g;rw[if_neg (fun hh=>h7 hh.1)];exact ho.v h7 L
 ·rw[List.all_eq_true];intro q hq;obtain⟨k,hk⟩:=List.getElem?_of_mem hq;obtain⟨x,r,hx,rfl,ho⟩:=hLr k q hk;exact D7a ho
 have key:∀k,k<=L.length->(A6s (L.take k)).length=A5x l k:=by
  intro k
  induction k with
  |zero=>intro _;rw[C0d];rfl
  |succ k ih=>
   intro hk;have hq:L[k]? =some L[k]:=List.getElem?_eq_getElem (by omega);obtain⟨x,r,hx,he,ho⟩:=hLr k _ hq
   rw[B2h L k _ hq,List.length_append,ih (by omega),B6e l k x hx,he,A6w _ (by rw[(B0u l x r).2,ho.op];exact ho.f0),(B0u l x r).2,ho.op];rfl
 have:=key L.length nlz;rw[List.take_length,<-hbs,hlen]at this;exact this
theorem B4f{P:List KV}{s:LW}{l:List IN}{n most:Int}(h:Pl P (s.place l n most).1):(0<=n/\n<=most)/\(s.place l n most).2=((A5x l n.toNat:Nat):Int):=by
 unfold LW.place at h⊢;by_cases hb:n<0\/most<n
 ·rw[if_pos hb]at h;have:=(A5w h.e (show(2:Int)≠0 by decide)).2
  cases this
 rw[if_neg hb];exact⟨by omega,rfl⟩
theorem B4d.pl{l:List IN}{L:List RW}(h:B4d l L){n:Int}(h0:0<=n)(h1:n<=(l.length:Int) -1)(cn:Nat):plV L cn ((A5x l n.toNat:Nat):Int) false=n.toNat/\plC L cn ((A5x l n.toNat:Nat):Int) false=true:=by
 have hx:=h.ix (n:=n.toNat) (by omega);unfold plV plC;rw[if_neg (by simp),hx];exact⟨rfl,rfl⟩
theorem B4d.pe{l:List IN}{L:List RW}(h:B4d l L){n:Int}(h0:0<=n)(h1:n<=(l.length:Int)){cn:Nat}(hcn:cn=A5x l l.length):plV L cn ((A5x l n.toNat:Nat):Int) true=n.toNat/\plC L cn ((A5x l n.toNat:Nat):Int) true=true:=by
 unfold plV plC;by_cases he:n.toNat=l.length
 ·rw[he,hcn,if_pos ⟨rfl,rfl⟩];exact⟨h.n,by simp⟩
 have hx:=h.ix (n:=n.toNat) (by omega)
 have hne:¬(((A5x l n.toNat:Nat):Int)=(cn:Int)):=by
  intro e;rw[hcn]at e;exact he (C5p h.s (by omega) nlz (by omega))
 rw[if_neg (fun hh=>hne hh.2),hx];exact⟨rfl,by simp⟩
theorem D9x{P:List KV}{s:LW}{l:List IN}{L:List RW}{t:UT}{cn:Nat}(h:Pl P (s.trap l t).1)(h0:0<s.l.length)(hl:B4d l L)(hcn:cn=A5x l l.length):
  A9n P L cn (s.trap l t).2=t/\A9m P L cn (s.trap l t).2=true:=by
 obtain⟨a,ha⟩:=exz (s.place l t.fr (l.length-1));obtain⟨b,hb⟩:=exz (a.1.place l t.tt l.length);obtain⟨c,hc⟩:=exz (b.1.place l t.pl (l.length-1))
 have hm:s.trap l t=if t.cl=[]then(c.1,⟨a.2,b.2,c.2,0⟩)else((c.1.cls t.cl false).1,⟨a.2,b.2,c.2,((c.1.cls t.cl false).2:Nat)⟩):=by subst hc hb ha;rfl
 rw[hm]at h⊢;have ka:0<a.1.l.length:=by rw[ha];exact((LSt.refl s).place _ _ _).pos h0
 have kb:0<b.1.l.length:=by rw[hb];exact((LSt.refl a.1).place _ _ _).pos ka
 have kc:0<c.1.l.length:=by rw[hc];exact((LSt.refl b.1).place _ _ _).pos kb
 have hC:Pl P c.1:=by
  split at h
  ·exact h
  exact h.back ((LSt.refl _).cls _ _) kc
 have hB:Pl P b.1:=hC.back (by rw[hc];exact(LSt.refl _).place _ _ _) kb;have hA:Pl P a.1:=hB.back (by rw[hb];exact(LSt.refl _).place _ _ _) ka;obtain⟨a1,a2⟩:=B4f (by rw[<-ha];exact hA)
 obtain⟨b1,b2⟩:=B4f (by rw[<-hb];exact hB);obtain⟨c1,c2⟩:=B4f (by rw[<-hc];exact hC);rw[<-ha]at a2;rw[<-hb]at b2;rw[<-hc]at c2;obtain⟨v1,v2⟩:=hl.pl a1.1 a1.2 cn
 obtain⟨v3,v4⟩:=hl.pe b1.1 b1.2 hcn;obtain⟨v5,v6⟩:=hl.pl c1.1 c1.2 cn;have e1:((t.fr.toNat:Nat):Int)=t.fr:=Int.toNat_of_nonneg a1.1
 have e2:((t.tt.toNat:Nat):Int)=t.tt:=Int.toNat_of_nonneg b1.1;have e3:((t.pl.toNat:Nat):Int)=t.pl:=Int.toNat_of_nonneg c1.1;by_cases ht:t.cl=[]
 ·simp only[if_pos ht];unfold A9n A9m;dsimp only;rw[a2,b2,c2,v1,v2,v3,v4,v5,v6,e1,e2,e3,if_pos rfl];obtain⟨x,y,z,cl⟩:=t;dsimp only at ht;subst ht;exact⟨rfl,rfl⟩
 simp only[if_neg ht]at h⊢;have q1:=(B2b h kc).1;have q2:=D4y h kc;have q3:=D7s h kc;have q4:¬((((c.1.cls t.cl false).2:Nat):Int)=0):=by omega
 unfold A9n A9m;dsimp only;rw[a2,b2,c2,v1,v2,v3,v4,v5,v6,e1,e2,e3,if_neg q4,q1,q2];exact⟨rfl,by simp⟩
theorem C5s{P:List KV}{l:List IN}{L:List RW}{cn:Nat}(hl:B4d l L)(hcn:cn=A5x l l.length):∀(ts:List UT) (s:LW),Pl P (s.traps l ts).1->0<s.l.length->
  (s.traps l ts).2.map (A9n P L cn)=ts/\(s.traps l ts).2.all (A9m P L cn)=true
 |[],s,h,h0=>⟨rfl,rfl⟩
 |t::ts,s,h,h0=>by
  rw[LW.traps]at h⊢;dsimp only at h⊢;have k1:0<(s.trap l t).1.l.length:=((LSt.refl s).trap l t).pos h0;have hT:Pl P (s.trap l t).1:=h.back ((LSt.refl _).traps l ts) k1
  obtain⟨q1,q2⟩:=D9x hT h0 hl hcn;obtain⟨q3,q4⟩:=C5s hl hcn ts _ h k1;rw[List.map_cons,List.all_cons,q1,q2,q3,q4];exact⟨rfl,rfl⟩
theorem D3g{c:List UInt8}(h:classB c=true):A2m c=false:=by
 have hn:=(B8q h).2.1;unfold A2m;rw[Bool.and_eq_false_iff];left;rw[decide_eq_false_iff_not];intro e
 cases c with
 |nil=>cases e
 |cons d t=>
 simp at e;subst e;exact hn List.mem_cons_self
theorem D9j{t:List UInt8}(h:B5v t=true):D1j (C6f t)=t:=by
 unfold C6f;rw[if_pos h];unfold B5v at h;simp only[Bool.and_eq_true,decide_eq_true_eq]at h;obtain⟨h1,h2,h3⟩:=h
 cases t with
 |nil=>cases h2
 |cons c t=>
 simp at h2;subst h2;obtain⟨m,hm⟩:=List.getLast?_eq_some_iff.1 h3
 cases m with
 |nil=>
  simp at hm
 |cons d m=>
 simp only[List.cons_append,List.cons.injEq]at hm;obtain⟨rfl,rfl⟩:=hm;unfold D1j;simp
theorem D8s{P:List KV}{s:LW}{t:List UInt8}(h:Pl P (s.slot t).1)(h0:0<s.l.length):A1w P (s.slot t).2=t/\A5u P (s.slot t).2=true:=by
 unfold LW.slot at h⊢;by_cases h1:t=[84]
 ·simp only[if_pos h1];subst h1;exact⟨rfl,rfl⟩
 simp only[if_neg h1]at h⊢;by_cases h2:t=[73]
 ·simp only[if_pos h2];subst h2;exact⟨rfl,rfl⟩
 simp only[if_neg h2]at h⊢;by_cases h3:t=[74]
 ·simp only[if_pos h3];subst h3;exact⟨rfl,rfl⟩
 simp only[if_neg h3]at h⊢;by_cases h4:t=[78]
 ·simp only[if_pos h4];subst h4;exact⟨rfl,rfl⟩
 simp only[if_neg h4]at h⊢;by_cases h5:B5v t=true
 ·simp only[if_pos h5]at h⊢;obtain⟨q1,q2⟩:=B2b h h0;have q2':classB (C6f t)=true:=by simpa using q2
  obtain⟨v1,v2⟩:=B9h P ((s.cls (C6f t) false).2:Nat);rw[v1,v2];unfold aclsB;rw[q1];dsimp only;rw[D3g q2',q2',D9j h5];exact⟨rfl,rfl⟩
 simp only[if_neg h5]at h⊢;have k0:0<(s.need (A2m t) 8).l.length:=h0;have hS:Pl P (s.need (A2m t) 8):=h.back ((LSt.refl _).cls _ _) k0;have hb:=(A5w hS.e (show(8:Int)≠0 by decide)).2
 obtain⟨q1,q2⟩:=B2b h k0;obtain⟨v1,v2⟩:=B9h P (((s.need (A2m t) 8).cls t true).2:Nat);rw[v1,v2];unfold aclsB;rw[q1];dsimp only;rw[if_pos hb,hb];exact⟨rfl,by simp⟩
theorem B9m{P:List KV}:∀(ts:List (List UInt8)) (s:LW),Pl P (s.slots ts).1->0<s.l.length->(s.slots ts).2.map (A1w P)=ts/\(s.slots ts).2.all (A5u P)=true
 |[],s,h,h0=>⟨rfl,rfl⟩
 |t::ts,s,h,h0=>by
  rw[LW.slots]at h⊢;dsimp only at h⊢;have k1:0<(s.slot t).1.l.length:=((LSt.refl s).slot t).pos h0;have hT:Pl P (s.slot t).1:=h.back ((LSt.refl _).slots ts) k1;obtain⟨q1,q2⟩:=D8s hT h0
  obtain⟨q3,q4⟩:=B9m ts _ h k1;rw[List.map_cons,List.all_cons,q1,q2,q3,q4];exact⟨rfl,rfl⟩
theorem D8x{P:List KV}{s:LW}{l:List IN}{L:List RW}{m:UP}{cn:Nat}(h:Pl P (s.map l m).1)(h0:0<s.l.length)(hl:B4d l L):
  C9z P L cn (s.map l m).2=m.p/\C2i P L cn (s.map l m).2=true:=by
 obtain⟨a,ha⟩:=exz (s.place l m.pl (l.length-1));obtain⟨b,hb⟩:=exz (a.1.slots m.loc);obtain⟨c,hc⟩:=exz (b.1.slots m.stk)
 have hm:s.map l m=(c.1,⟨a.2,none,0,0,b.2,none,0,0,c.2⟩):=by subst hc hb ha;rfl
 rw[hm]at h⊢;dsimp only at h⊢;have ka:0<a.1.l.length:=by rw[ha];exact((LSt.refl s).place _ _ _).pos h0
 have kb:0<b.1.l.length:=by rw[hb];exact((LSt.refl a.1).slots _).pos ka
 have hB:Pl P b.1:=h.back (by rw[hc];exact(LSt.refl _).slots _) kb;have hA:Pl P a.1:=hB.back (by rw[hb];exact(LSt.refl _).slots _) ka;obtain⟨a1,a2⟩:=B4f (by rw[<-ha];exact hA)
 obtain⟨b1,b2⟩:=B9m m.loc a.1 (by rw[<-hb];exact hB) ka;obtain⟨c1,c2⟩:=B9m m.stk b.1 (by rw[<-hc];exact h) kb;rw[<-ha]at a2;rw[<-hb]at b1 b2;rw[<-hc]at c1 c2
 obtain⟨v1,v2⟩:=hl.pl a1.1 a1.2 cn;have e1:((m.pl.toNat:Nat):Int)=m.pl:=Int.toNat_of_nonneg a1.1;unfold C9z C2i;dsimp only;rw[a2,v1,v2,e1,b1,b2,c1,c2];exact⟨rfl,rfl⟩
theorem D2y{P:List KV}{l:List IN}{L:List RW}{cn:Nat}(hl:B4d l L):∀(ts:List UP) (s:LW),Pl P (s.maps l ts).1->0<s.l.length->
  (s.maps l ts).2.map (C9z P L cn)=ts.map UP.p/\(s.maps l ts).2.all (C2i P L cn)=true
 |[],s,h,h0=>⟨rfl,rfl⟩
 |t::ts,s,h,h0=>by
  rw[LW.maps]at h⊢;dsimp only at h⊢;have k1:0<(s.map l t).1.l.length:=((LSt.refl s).map l t).pos h0;have hT:Pl P (s.map l t).1:=h.back ((LSt.refl _).maps l ts) k1
  obtain⟨q1,q2⟩:=D8x (cn:=cn) hT h0 hl;obtain⟨q3,q4⟩:=D2y hl ts _ h k1;rw[List.map_cons,List.map_cons,List.all_cons,q1,q2,q3,q4];exact⟨rfl,rfl⟩
theorem C6h(st:Bool):decide (A2w st=8)=st:=by cases st<;>rfl
theorem E0f(P:List KV)(L:List RW)(cn:Nat)(l:List KP):l.map (C9z P L cn)=(l.map KP.lp).map (C9z P L cn)/\l.all (C2i P L cn)=(l.map KP.lp).all (C2i P L cn):=by
 rw[List.map_map,List.all_map];exact⟨rfl,rfl⟩
theorem D1g{P:List KV}{s:LW}{m:UM}{k:KM}(hop:∀x∈m.code,x.op<256)(h:Pl P (s.method m).1)(h0:0<s.l.length)(hk:k.lp=(s.method m).2)(hcn:k.cn=k.code.length):B1g P k=m.p/\A9r P k=true:=by
 obtain⟨s1,hs1⟩:=exz (s.need (A7d m.nm&&A3k m.ds) 8);obtain⟨n,hn⟩:=exz (s1.text m.nm);obtain⟨d,hd⟩:=exz (n.1.text m.ds);obtain⟨c,hc⟩:∃c,c=(d.1.text A7n).1:=⟨_,rfl⟩
 obtain⟨c2,hc2⟩:=exz (if m.maps=[]then c else(c.text B6s).1)
 obtain⟨q,hq⟩:=exz (c2.code m.code);obtain⟨t,ht⟩:=exz (q.1.traps m.code m.traps);obtain⟨p,hp⟩:=exz (t.1.maps m.code m.maps)
 have hm:s.method m=(p.1,⟨A2w m.st,(n.2:Nat),(d.2:Nat),m.sk,m.lo,none,0,0,q.2,none,0,0,t.2,none,0,0,p.2⟩):=by subst hp ht hq hc2 hc hd hn hs1;rfl
 rw[hm]at h hk;dsimp only at h hk;have k1:0<s1.l.length:=by rw[hs1];exact h0
 have kn:0<n.1.l.length:=by rw[hn];exact((LSt.refl _).text _).pos k1
 have kd:0<d.1.l.length:=by rw[hd];exact((LSt.refl _).text _).pos kn
 have kc:0<c.l.length:=by rw[hc];exact((LSt.refl _).text _).pos kd
 have sc2:LSt c c2:=by
  rw[hc2];split
  ·exact LSt.refl _
  exact(LSt.refl _).text _
 have kc2:=sc2.pos kc;have kq:0<q.1.l.length:=by rw[hq];exact((LSt.refl _).code _).pos kc2
 have kt:0<t.1.l.length:=by rw[ht];exact((LSt.refl _).traps _ _).pos kq
 have hT:Pl P t.1:=h.back (by rw[hp];exact(LSt.refl _).maps _ _) kt;have hQ:Pl P q.1:=hT.back (by rw[ht];exact(LSt.refl _).traps _ _) kq
 have hC2:Pl P c2:=hQ.back (by rw[hq];exact(LSt.refl _).code _) kc2;have hC:Pl P c:=hC2.back sc2 kc;have hD:Pl P d.1:=hC.back (by rw[hc];exact(LSt.refl _).text _) kd
 have hN:Pl P n.1:=hD.back (by rw[hd];exact(LSt.refl _).text _) kn;have hS:Pl P s1:=hN.back (by rw[hn];exact(LSt.refl _).text _) k1
 have hok:=(A5w (by rw[<-hs1];exact hS.e) (show(8:Int)≠0 by decide)).2;obtain⟨n1,n2⟩:=A9p (by rw[<-hn];exact hN) k1;obtain⟨d1,d2⟩:=A9p (by rw[<-hd];exact hD) kn;rw[<-hn]at n1
 rw[<-hd]at d1;obtain⟨L,g1,g2,g3,g4,g5⟩:=E0t hop (by rw[<-hq];exact hQ) kc2;rw[<-hq]at g1 g5;have hcd:k.code=q.2:=congrArg KM.code hk
 have hcn2:k.cn=A5x m.code m.code.length:=by rw[hcn,hcd,g5]
 obtain⟨t1,t2⟩:=C5s (P:=P) g2 hcn2 m.traps q.1 (by rw[<-ht];exact hT) kq;obtain⟨p1,p2⟩:=D2y (P:=P) (cn:=k.cn) g2 m.maps t.1 (by rw[<-hp];exact h) kt;rw[<-ht]at t1 t2;rw[<-hp]at p1 p2
 have e1:k.fl=A2w m.st:=congrArg KM.fl hk;have e2:k.nm=(n.2:Nat):=congrArg KM.nm hk;have e3:k.ds=(d.2:Nat):=congrArg KM.ds hk;have e4:k.st=m.sk:=congrArg KM.st hk
 have e5:k.lo=m.lo:=congrArg KM.lo hk;have e6:k.traps=t.2:=congrArg KM.traps hk;have e7:k.maps.map KP.lp=p.2:=congrArg KM.maps hk;obtain⟨m1,m2⟩:=E0f P L k.cn k.maps;rw[e7]at m1 m2
 unfold B1g A9r;rw[hcd,g1];dsimp only;rw[m1,m2,p1,p2,e6,t1,t2,g3,g4,e1,e2,e3,e4,e5,C6h,n1,d1,hok];exact⟨rfl,rfl⟩
theorem B7m{P:List KV}:∀(l:List UM) (s:LW) (M:List KM),(∀m∈l,∀x∈m.code,x.op<256)->Pl P (s.methods l).1->0<s.l.length->M.map KM.lp=(s.methods l).2->(∀m∈M,m.cn=m.code.length)->M.map (B1g P)=l.map UM.p/\M.all (A9r P)=true
 |[],s,M,hop,h,h0,hM,hc=>by
  have:M=[]:=List.map_eq_nil_iff.1 hM;subst this;exact⟨rfl,rfl⟩
 |m::l,s,M,hop,h,h0,hM,hc=>by
  rw[LW.methods]at h hM;dsimp only at h hM;obtain⟨k,M',rfl,hk,hM'⟩:=List.map_eq_cons_iff.1 hM;have k1:0<(s.method m).1.l.length:=((LSt.refl s).method m).pos h0
  have hT:Pl P (s.method m).1:=h.back ((LSt.refl _).methods l) k1;obtain⟨q1,q2⟩:=D1g (hop m List.mem_cons_self) hT h0 hk (hc k List.mem_cons_self)
  obtain⟨q3,q4⟩:=B7m l _ M' (fun x hx=>hop x (List.mem_cons_of_mem _ hx)) h k1 hM' (fun x hx=>hc x (List.mem_cons_of_mem _ hx));rw[List.map_cons,List.map_cons,List.all_cons,q1,q2,q3,q4]
  exact⟨rfl,rfl⟩
theorem D6t{P:List KV}{s:LW}{f:UF}(h:Pl P (s.field f).1)(h0:0<s.l.length):A6t P (s.field f).2=f/\A6u P (s.field f).2=true:=by
 obtain⟨s1,hs1⟩:=exz (s.need (A7d f.nm&&typeB f.ds) 8);obtain⟨n,hn⟩:=exz (s1.text f.nm);obtain⟨d,hd⟩:=exz (n.1.text f.ds)
 have hm:s.field f=(d.1,⟨A2w f.st,(n.2:Nat),(d.2:Nat)⟩):=by subst hd hn hs1;rfl
 rw[hm]at h⊢;dsimp only at h⊢;have k1:0<s1.l.length:=by rw[hs1];exact h0
 have kn:0<n.1.l.length:=by rw[hn];exact((LSt.refl _).text _).pos k1
 have hN:Pl P n.1:=h.back (by rw[hd];exact(LSt.refl _).text _) kn;have hS:Pl P s1:=hN.back (by rw[hn];exact(LSt.refl _).text _) k1
 have hok:=(A5w (by rw[<-hs1];exact hS.e) (show(8:Int)≠0 by decide)).2;obtain⟨n1,n2⟩:=A9p (by rw[<-hn];exact hN) k1;obtain⟨d1,d2⟩:=A9p (by rw[<-hd];exact h) kn;rw[<-hn]at n1
 rw[<-hd]at d1;unfold A6t A6u;dsimp only;rw[n1,d1,C6h];exact⟨rfl,hok⟩
theorem C1e{P:List KV}:∀(l:List UF) (s:LW),Pl P (s.fields l).1->0<s.l.length->(s.fields l).2.map (A6t P)=l/\(s.fields l).2.all (A6u P)=true
 |[],s,h,h0=>⟨rfl,rfl⟩
 |f::l,s,h,h0=>by
  rw[LW.fields]at h⊢;dsimp only at h⊢;have k1:0<(s.field f).1.l.length:=((LSt.refl s).field f).pos h0;have hT:Pl P (s.field f).1:=h.back ((LSt.refl _).fields l) k1;obtain⟨q1,q2⟩:=D6t hT h0
  obtain⟨q3,q4⟩:=C1e l _ h k1;rw[List.map_cons,List.all_cons,q1,q2,q3,q4];exact⟨rfl,rfl⟩
theorem D2x(u:UU):D8e (C2h u):=by
 unfold C2h;split
 ·split
  ·exact .inl rfl
  exact .inr (.inl rfl)
 unfold B1c;dsimp only;have h0:D8e (⟨[kz],0⟩:LW).e:= .inl rfl;have h1:=((LSt.refl (⟨[kz],0⟩:LW)).consts u.methods).cls u.nm false;split
 ·exact((h1.fields u.fields).methods u.methods).codes h0
 exact(((h1.cls u.su false).fields u.fields).methods u.methods).codes h0
theorem D5i(u:UU)(hop:∀m∈u.methods,∀x∈m.code,x.op<256)(he:C2h u=0)(f:KF)(hf:f.lp=(B1c u).2)(hcn:∀m∈f.methods,m.cn=m.code.length):B1n f=true/\B6u f=u.p:=by
 have hee:(B1c u).1.e=0/\A2q (B1c u).2=true:=by
  unfold C2h at he;split at he
  ·next h1=>
   refine⟨h1,?_⟩;split at he
   ·assumption
   exact absurd he (by decide)
  next h1=>exact absurd he h1
 obtain⟨h1,hck⟩:=hee;rw[<-hf,B7x]at hck;obtain⟨s,hs⟩:∃s,s=(⟨[kz],0⟩:LW).consts u.methods:=⟨_,rfl⟩;obtain⟨t,ht⟩:=exz (s.cls u.nm false)
 obtain⟨p,hp⟩:=exz (if u.su=[]then(t.1,0)else t.1.cls u.su false)
 obtain⟨d,hd⟩:=exz (p.1.fields u.fields);obtain⟨m,hm⟩:=exz (d.1.methods u.methods)
 have hl:B1c u=(m.1,⟨none,0,0,m.1.l,(t.2:Nat),(p.2:Nat),none,0,0,d.2,none,0,0,m.2⟩):=by subst hm hd hp ht hs;rfl
 rw[hl]at h1 hf;dsimp only at h1 hf;have st1:LSt (⟨[kz],0⟩:LW) s:=by rw[hs];exact(LSt.refl _).consts _
 have ks:0<s.l.length:=st1.pos (by decide);have st2:LSt s t.1:=by rw[ht];exact(LSt.refl _).cls _ _
 have kt:0<t.1.l.length:=st2.pos ks
 have st3:LSt t.1 p.1:=by
  rw[hp];split
  ·exact LSt.refl _
  exact(LSt.refl _).cls _ _
 have kp:=st3.pos kt;have st4:LSt p.1 d.1:=by rw[hd];exact(LSt.refl _).fields _
 have kd:=st4.pos kp;have st5:LSt d.1 m.1:=by rw[hm];exact(LSt.refl _).methods _
 have km:=st5.pos kd;have hz:kAt m.1.l 0=kz:=D1x ((((st1.trans st2).trans st3).trans st4).trans st5).pre 0 (by decide);have hM:Pl m.1.l m.1:=⟨List.prefix_refl _,h1,km,hz⟩;have hD:=hM.back st5 kd
 have hP:=hD.back st4 kp;have hT:=hP.back st3 kt;have f1:f.pool=m.1.l:=congrArg KF.pool hf;have f2:f.th=(t.2:Nat):=congrArg KF.th hf;have f3:f.su=(p.2:Nat):=congrArg KF.su hf
 have f4:f.fields=d.2:=congrArg KF.fields hf;have f5:f.methods.map KM.lp=m.2:=congrArg KF.methods hf;have c1:=(B2b (by rw[<-ht];exact hT) ks).1;have c2:=D4y (by rw[<-ht];exact hT) ks
 rw[<-ht]at c1 c2;obtain⟨d1,d2⟩:=C1e u.fields p.1 (by rw[<-hd];exact hD) kp;rw[<-hd]at d1 d2
 obtain⟨m1,m2⟩:=B7m u.methods d.1 f.methods hop (by rw[<-hm];exact hM) kd (by rw[<-hm];exact f5) hcn
 have hsu:(if f.su=0 then []else(A0s m.1.l f.su).1)=u.su/\(decide (f.su=0)||aclsB m.1.l f.su false)=true:=by
  rw[f3];by_cases hx:u.su=[]
  ·rw[if_pos hx]at hp;subst hp;exact⟨by rw[hx];rfl,rfl⟩
  rw[if_neg hx]at hp;have q1:=(B2b (by rw[<-hp];exact hP) kt).1;have q2:=D4y (by rw[<-hp];exact hP) kt;have q3:=D7s (by rw[<-hp];exact hP) kt;rw[<-hp]at q1 q2 q3
  rw[if_neg (by omega),q1,q2];exact⟨rfl,by simp⟩
 unfold B1n B6u;rw[hck,f1,f4,f2,c1,c2,d1,d2,m1,m2,hsu.1,hsu.2];exact⟨rfl,rfl⟩
end
end Go.Proofs.YtclpkipaehpkdaaGreatDoor
