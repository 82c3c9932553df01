/- asm: own texts, merged (wip/merge3.py). No condition. -/
import Derived.Test.YtclpkipaehpkdaaGreatDoorQ02AsmLifts
import Derived.OwnWalk
set_option linter.unusedVariables false
set_option linter.unusedSimpArgs false
set_option maxRecDepth 100000
set_option maxHeartbeats 64000000
namespace Go.Proofs.YtclpkipaehpkdaaGreatDoor
section
open Go.RowKit
def A2g:List UInt8→Nat
 |[]=>0
 |c::s=>if c=91 then A2g s+1 else 0
def C1b(d:Nat):List UInt8→Nat
 |[]=>0
 |c::t=>if 8<d then 0 else if c=73∨(c=74∧d=0)∨(c=66∧0<d)then d+1
  else if c=76 then(if(Lib.cut t [59]).2.2=true∧classB (Lib.cut t [59]).1=true then d+(Lib.cut t [59]).1.length+2 else 0)else 0
theorem A4a(d:Nat)(c:UInt8)(t:List UInt8):C1b d (c::t)=if 8<d then 0 else if c=73∨(c=74∧d=0)∨(c=66∧0<d)then d+1
  else if c=76 then(if(Lib.cut t [59]).2.2=true∧classB (Lib.cut t [59]).1=true then d+(Lib.cut t [59]).1.length+2 else 0)else 0:=rfl
def A7x(s:List UInt8):Nat:=C1b (A2g s) (s.drop (A2g s))
def typeB(s:List UInt8):Bool:= !s.isEmpty&&decide (A7x s=s.length)
def A2z(s:List UInt8):Bool:=decide (s.head? =some 91)&&typeB s
def A7v(s:List UInt8):Bool:= !s.contains 47&&classB s
def A9i:Nat→List UInt8→Option (List UInt8)
 |n,s=>if s=[]∨s.head? =some 41 then some s else
  match n with
  |0=>none
  |n+1=>if A7x s=0 then none else A9i n (s.drop (A7x s))
def C1r(o:Option (List UInt8)):Bool:=match o with
 |none=>false
 |some []=>false
 |some (d::t)=>decide (d=41)&&(decide (t=[86])||typeB t)
def A3x(s:List UInt8):Bool:=
 match s with
 |[]=>false
 |c::r=>decide (c=40)&&C1r (A9i 16 r)
def objR(s:List UInt8):Bool:=decide (3≤s.length)&&(decide (s.head? =some 76)&&(decide (s.getLast? =some 59)&&classB ((s.drop 1).take (s.length-2))))
def C1e(s:List UInt8):Bool:=
 if 8<A2g s then false
 else if 0<A2g s∧s.drop (A2g s)=[66]then true
 else decide (s.drop (A2g s)=[73])||((decide (A2g s=0)&&decide (s.drop (A2g s)=[74]))||objR (s.drop (A2g s)))
def B1s:Nat→Nat→List UInt8→Nat
 |0,_,_=>0
 |f+1,n,s=>if C1e (s.take n)=true then n else B1s f (n+1) s
theorem B4g:∀s:List UInt8,A2g s≤s.length
 |[]=>Nat.le_refl _
 |c::s=>by
  unfold A2g;split
  ·have:=B4g s;simp;omega
  ·simp
theorem D0i:∀(s:List UInt8) (i:Nat),i<A2g s→s[i]? =some 91
 |[],i,h=>by simp[A2g]at h
 |c::s,i,h=>by
  unfold A2g at h;split at h
  ·next hc=>
   cases i with
   |zero=>simp[hc]
   |succ i=>simpa using D0i s i (by omega)
  ·omega
theorem B5h:∀(s:List UInt8),s[A2g s]?≠some 91
 |[]=>by simp
 |c::s=>by
  unfold A2g;split
  ·simpa using B5h s
  ·next h=>simpa using h
theorem C9h(s:List UInt8):s.dropWhile (·==91)=s.drop (A2g s):=by
 induction s with
 |nil=>rfl
 |cons c s ih=>
  unfold A2g;by_cases h:c=91
  ·subst h;simpa using ih
  ·rw[if_neg h,List.dropWhile_cons_of_neg (by simpa using h)];rfl
theorem C4c{nm:List UInt8}(h:classB nm=true):(59:UInt8)∉nm∧(91:UInt8)∉nm∧nm≠[]:=by
 rw[B9c]at h;simp only[Bool.and_eq_true,decide_eq_true_eq]at h;obtain⟨_,h⟩:=h
 have key:∀(s:List UInt8) (l:Nat),cls l s=true→∀c∈s,A9p c.toNat=true∨c.toNat=47:=by
  intro s
  induction s with
  |nil=>intro l _ c hc;cases hc
  |cons b s ih=>
   intro l hl c hc;simp only[cls,Bool.and_eq_true,Bool.or_eq_true,decide_eq_true_eq]at hl
   rcases List.mem_cons.1 hc with rfl|hc
   ·rcases hl.1 with h1|h1
    ·exact .inl h1
    ·exact .inr h1.1
   ·exact ih _ hl.2 c hc
 refine⟨fun hm=> ?_,fun hm=> ?_,fun e=> ?_⟩
 ·have:=key nm 47 h _ hm;revert this;decide
 ·have:=key nm 47 h _ hm;revert this;decide
 ·subst e;simp[cls]at h
theorem B4h{nm t:List UInt8}(h:(59:UInt8)∉nm):Lib.cut (nm++59::t) [59]=(nm,t,true):=by
 have hi:Lib.index (nm++59::t) [59]=(nm.length:Nat):=by
  induction nm with
  |nil=>rw[List.nil_append,A5b];simp
  |cons c nm ih=>
   rw[List.cons_append,A5b,if_neg (by rintro rfl;exact h (by simp)),ih (fun hm=>h (by simp[hm]))];rw[if_neg (by omega)];simp
 rw[C2b 59 _ _ hi];simp
theorem B2i{s:List UInt8}(h:(Lib.cut s [59]).2.2=true):s=(Lib.cut s [59]).1++59::(Lib.cut s [59]).2.1∧(59:UInt8)∉(Lib.cut s [59]).1:=by
 by_cases h1:Lib.index s [59]= -1
 ·rw[C4w 59 s h1]at h;cases h
 ·have hg:=Lib.index_ge s [59];obtain⟨i,hi⟩:∃i:Nat,Lib.index s [59]=i:=⟨(Lib.index s [59]).toNat,by omega⟩;rw[C2b 59 s i hi];clear h h1 hg
  induction s generalizing i with
  |nil=>rw[A6q]at hi;omega
  |cons c s ih=>
   rw[A5b]at hi;split at hi
   ·next hc=>
          have:i=0:=by omega
          subst this;subst hc;simp
   ·next hc=>
    have hg:=Lib.index_ge s [59];split at hi
    ·omega
    ·obtain⟨k,rfl⟩:∃k,i=k+1:=⟨i-1,by omega⟩;obtain⟨e1,e2⟩:=ih k (by omega);simp only[List.take_succ_cons,List.drop_succ_cons];refine⟨by simpa using e1,fun hm=> ?_⟩
     rcases List.mem_cons.1 hm with h2|h2
     ·exact hc h2.symm
     ·exact e2 h2
theorem D6s(d:Nat)(b:List UInt8):C1b d b≤d+b.length:=by
 cases b with
 |nil=>simp[C1b]
 |cons c t=>
  rw[A4a];by_cases h8:8<d
  ·rw[if_pos h8];omega
  ·rw[if_neg h8];by_cases h1:c=73∨(c=74∧d=0)∨(c=66∧0<d)
   ·rw[if_pos h1];simp
   ·rw[if_neg h1];by_cases h76:c=76
    ·rw[if_pos h76];by_cases h:(Lib.cut t [59]).2.2=true∧classB (Lib.cut t [59]).1=true
     ·rw[if_pos h];have:=congrArg List.length (B2i h.1).1;simp only[List.length_append,List.length_cons]at this⊢;omega
     ·rw[if_neg h];omega
    ·rw[if_neg h76];omega
theorem B5s(s:List UInt8):A7x s≤s.length:=by
 unfold A7x;have h1:=D6s (A2g s) (s.drop (A2g s));have h2:=B4g s;rw[List.length_drop]at h1;omega
theorem D3i{u v:List UInt8}(h:A2g u<u.length):A2g (u++v)=A2g u:=by
 induction u with
 |nil=>simp at h
 |cons c u ih=>
  rw[List.cons_append];unfold A2g at h⊢;by_cases hc:c=91
  ·rw[if_pos hc]at h⊢;rw[if_pos hc,ih (by simpa using h)]
  ·rw[if_neg hc,if_neg hc]
theorem D6g{u:List UInt8}(hu:typeB u=true)(v:List UInt8):A7x (u++v)=u.length:=by
 unfold typeB at hu;simp only[Bool.and_eq_true,Bool.not_eq_true',List.isEmpty_eq_false_iff,decide_eq_true_eq]at hu;obtain⟨hne,hu⟩:=hu
 have hd:A2g u<u.length:=by
  rcases Nat.lt_or_ge (A2g u) u.length with h|h
  ·exact h
  ·have h2:u.drop (A2g u)=[]:=List.drop_eq_nil_of_le h;unfold A7x at hu;rw[h2]at hu;simp only[C1b]at hu;have:u.length≠0:=fun e=>hne (List.eq_nil_of_length_eq_zero e)
   omega
 have hdr:(u++v).drop (A2g u)=u.drop (A2g u)++v:=List.drop_append_of_le_length (by omega);have e2:(u.drop (A2g u)).length=u.length-A2g u:=List.length_drop;unfold A7x at hu⊢
 rw[D3i hd,hdr];generalize A2g u=d at*;generalize u.drop d=b at*
 cases b with
 |nil=>simp at e2;omega
 |cons c t=>
  rw[List.cons_append];rw[A4a]at hu⊢;split at hu
  ·simp at e2;omega
  ·next h8=>
   rw[if_neg h8];split at hu
   ·next h1=>rw[if_pos h1];exact hu
   ·next h1=>
    rw[if_neg h1];split at hu
    ·next h76=>
     rw[if_pos h76];split at hu
     ·next hc=>
      obtain⟨e3,e4⟩:=B2i hc.1
      have e5:t=(Lib.cut t [59]).1++59::[]:=by
       have h7:=congrArg List.length e3;simp only[List.length_append,List.length_cons]at h7 e2;have h8:(Lib.cut t [59]).2.1=[]:=List.eq_nil_of_length_eq_zero (by omega);rw[h8]at e3
       exact e3
      have e6:Lib.cut (t++v) [59]=((Lib.cut t [59]).1,v,true):=by
       have h9:t++v=(Lib.cut t [59]).1++59::v:=by
        rw[show(Lib.cut t [59]).1++59::v=((Lib.cut t [59]).1++59::[])++v by simp,←e5]
       rw[h9];exact B4h e4
      rw[e6];simp only[true_and];rw[if_pos hc.2];exact hu
     ·simp at e2;omega
    ·simp at e2;omega
theorem D4e{s:List UInt8}(h:A7x s≠0):typeB (s.take (A7x s))=true:=by
 have hl:=B5s s;have hlen:(s.take (A7x s)).length=A7x s:=by rw[List.length_take];omega
 have hd0:A2g s<A7x s:=by
  unfold A7x at h⊢;generalize s.drop (A2g s)=b at*;generalize A2g s=d at*
  cases b with
  |nil=>simp[C1b]at h
  |cons c t=>
   rw[A4a]at h⊢;split at h
   ·exact absurd rfl h
   ·next h8=>
    rw[if_neg h8];split at h
    ·next h1=>rw[if_pos h1];omega
    ·next h1=>
     rw[if_neg h1];split at h
     ·next h76=>
      rw[if_pos h76];split at h
      ·next hc=>rw[if_pos hc];omega
      ·exact absurd rfl h
     ·exact absurd rfl h
 have hdims:A2g (s.take (A7x s))=A2g s:=by
  have key:∀(s:List UInt8) (n:Nat),A2g s<n→A2g (s.take n)=A2g s:=by
   intro s
   induction s with
   |nil=>intro n _;simp
   |cons c s ih=>
    intro n hn
    cases n with
    |zero=>omega
    |succ n=>
     rw[List.take_succ_cons];unfold A2g at hn⊢;by_cases hc:c=91
     ·rw[if_pos hc]at hn⊢;rw[if_pos hc,ih n (by omega)]
     ·rw[if_neg hc,if_neg hc]
  exact key s _ hd0
 unfold typeB;simp only[Bool.and_eq_true,Bool.not_eq_true',List.isEmpty_eq_false_iff,decide_eq_true_eq];refine⟨fun e=>by rw[e]at hlen;simp at hlen;omega,?_⟩;rw[hlen]
 have hds:(s.take (A7x s)).drop (A2g s)=(s.drop (A2g s)).take (A7x s-A2g s):=by rw[List.drop_take]
 unfold A7x;rw[show A2g (s.take (C1b (A2g s) (s.drop (A2g s))))=A2g s from hdims]
 rw[show(s.take (C1b (A2g s) (s.drop (A2g s)))).drop (A2g s)=(s.drop (A2g s)).take (A7x s-A2g s)from hds];have hcl:A7x s=C1b (A2g s) (s.drop (A2g s)):=rfl;rw[←hcl];unfold A7x at h
 rw[hcl]at hd0⊢;generalize s.drop (A2g s)=b at*;generalize A2g s=d at*;clear hl hlen hdims hds hcl
 cases b with
 |nil=>simp[C1b]at h
 |cons c t=>
  have h8:¬8<d:=fun h8=>h (by rw[A4a,if_pos h8])
  by_cases h1:c=73∨(c=74∧d=0)∨(c=66∧0<d)
  ·have e:C1b d (c::t)=d+1:=by rw[A4a,if_neg h8,if_pos h1]
   rw[e,show d+1-d=1 by omega,List.take_succ_cons,List.take_zero];rw[A4a,if_neg h8,if_pos h1]
  ·by_cases h76:c=76
   ·by_cases hc:(Lib.cut t [59]).2.2=true∧classB (Lib.cut t [59]).1=true
    ·have e:C1b d (c::t)=d+(Lib.cut t [59]).1.length+2:=by rw[A4a,if_neg h8,if_neg h1,if_pos h76,if_pos hc]
     obtain⟨e3,e4⟩:=B2i hc.1
     have et:t.take ((Lib.cut t [59]).1.length+1)=(Lib.cut t [59]).1++59::[]:=by
      rw[e3];rw[show(Lib.cut ((Lib.cut t [59]).1++59::(Lib.cut t [59]).2.1) [59]).1=(Lib.cut t [59]).1 by rw[←e3]];rw[List.take_append,List.take_of_length_le (by omega)];simp
     rw[e,show d+(Lib.cut t [59]).1.length+2-d=((Lib.cut t [59]).1.length+1)+1 by omega,List.take_succ_cons,et];rw[A4a,if_neg h8,if_neg h1,if_pos h76,B4h e4]
     simp only[true_and];rw[if_pos hc.2]
    ·exact absurd (by rw[A4a,if_neg h8,if_neg h1,if_pos h76,if_neg hc]) h
   ·exact absurd (by rw[A4a,if_neg h8,if_neg h1,if_neg h76]) h
theorem B4v(c:UInt8)(t:List UInt8):objR (c::t)=(decide (3≤t.length+1)&&(decide (c=76)&&(decide ((c::t).getLast? =some 59)&&classB (t.take (t.length+1-2))))):=by
 unfold objR;simp
theorem D6m(t:List UInt8):objR (76::t)=true↔(Lib.cut t [59]).2.2=true∧classB (Lib.cut t [59]).1=true∧t.length=(Lib.cut t [59]).1.length+1:=by
 rw[B4v];simp only[Bool.and_eq_true,decide_eq_true_eq,true_and];constructor
 ·rintro⟨h3,hl,hc⟩;have hne:t≠[]:=fun e=>by subst e;simp at h3
  have hl2:t.getLast? =some 59:=by
   rw[List.getLast?_cons]at hl
   cases h:t.getLast? with
   |none=>rw[List.getLast?_eq_none_iff]at h;exact absurd h hne
   |some x=>rw[h]at hl;simpa using hl
  obtain⟨m,hm⟩:=List.getLast?_eq_some_iff.1 hl2
  have hmt:t.take (t.length+1-2)=m:=by
   rw[hm];simp
  rw[hmt]at hc
  have e:Lib.cut t [59]=(m,[],true):=by
   rw[hm];exact B4h (C4c hc).1
  rw[e];exact⟨rfl,hc,by rw[hm];simp⟩
 ·rintro⟨h1,h2,h3⟩;obtain⟨e3,e4⟩:=B2i h1;have hne:=(C4c h2).2.2;generalize(Lib.cut t [59]).1=nm at*
  have e5:t=nm++[59]:=by
   have h7:=congrArg List.length e3;simp only[List.length_append,List.length_cons]at h7;have h8:(Lib.cut t [59]).2.1=[]:=List.eq_nil_of_length_eq_zero (by omega);rw[h8]at e3;exact e3
  subst e5;have:0<nm.length:=List.length_pos_iff.2 hne;refine⟨by simp;omega,by rw[←List.cons_append,List.getLast?_append];rfl,?_⟩;simpa using h2
theorem B7k(s:List UInt8):C1e s=typeB s:=by
 have hd:=B4g s;have hst:=B5h s;have hlen:s.length=A2g s+(s.drop (A2g s)).length:=by rw[List.length_drop];omega
 have hemp:s.isEmpty=decide (s.length=0):=by cases s<;>simp
 unfold C1e typeB A7x;rw[hemp,hlen];generalize s.drop (A2g s)=b at*;generalize A2g s=d at*;clear hd hst hlen hemp;by_cases h8:8<d
 ·rw[if_pos h8]
  have:C1b d b=0:=by
   cases b with
   |nil=>rfl
   |cons c t=>rw[A4a,if_pos h8]
  rw[this];have h1:decide (0=d+b.length)=false:=decide_eq_false (by omega);rw[h1];simp
 ·rw[if_neg h8]
  cases b with
  |nil=>
   have hc0:C1b d []=0:=rfl;rw[hc0];by_cases h0:d=0
   ·subst h0;simp[objR]
   ·have h1:decide (0=d+([]:List UInt8).length)=false:=decide_eq_false (by simp;omega);rw[h1];simp[objR]
  |cons c t=>
   have hz:decide (d+(c::t).length=0)=false:=decide_eq_false (by simp);have hne1:decide (0=d+(t.length+1))=false:=decide_eq_false (by omega)
   have hlt:(decide (d+1=d+(t.length+1)))=decide (t=[]):=by
    apply decide_eq_decide.2;rw[←List.length_eq_zero_iff];omega
   rw[hz,A4a,if_neg h8,B4v];simp only[Bool.not_false,Bool.true_and,List.length_cons,List.cons.injEq];by_cases h73:c=73
   ·subst h73;have a1:¬(0<d∧(73:UInt8)=66∧t=[]):=fun h=>absurd h.2.1 (by decide)
    rw[if_pos (Or.inl rfl),hlt,if_neg a1];simp
   ·by_cases h74:c=74
    ·subst h74;have a1:¬(0<d∧(74:UInt8)=66∧t=[]):=fun h=>absurd h.2.1 (by decide)
     rw[if_neg a1];by_cases h0:d=0
     ·subst h0;rw[if_pos (Or.inr (Or.inl ⟨rfl,rfl⟩)),hlt];simp
     ·have a2:¬((74:UInt8)=73∨((74:UInt8)=74∧d=0)∨((74:UInt8)=66∧0<d)):=by
       rintro(h|⟨_,h⟩|⟨h,_⟩)
       ·exact absurd h (by decide)
       ·exact h0 h
       ·exact absurd h (by decide)
      have a3:¬((74:UInt8)=76):=by decide
      rw[if_neg a2,if_neg a3,hne1];simp[h0]
    ·by_cases h66:c=66
     ·subst h66;have a3:¬((66:UInt8)=76):=by decide
      by_cases h0:0<d
      ·rw[if_pos (Or.inr (Or.inr ⟨rfl,h0⟩)),hlt];by_cases ht:t=[]
       ·rw[if_pos ⟨h0,rfl,ht⟩];simp[ht]
       ·have a4:¬(0<d∧(66:UInt8)=66∧t=[]):=fun h=>ht h.2.2
        rw[if_neg a4];simp[ht]
      ·have a2:¬((66:UInt8)=73∨((66:UInt8)=74∧d=0)∨((66:UInt8)=66∧0<d)):=by
        rintro(h|⟨h,_⟩|⟨_,h⟩)
        ·exact absurd h (by decide)
        ·exact absurd h (by decide)
        ·exact h0 h
       have a4:¬(0<d∧(66:UInt8)=66∧t=[]):=fun h=>h0 h.1
       rw[if_neg a2,if_neg a3,if_neg a4,hne1];simp
     ·have a2:¬(c=73∨(c=74∧d=0)∨(c=66∧0<d)):=by
       rintro(h|⟨h,_⟩|⟨h,_⟩)
       ·exact h73 h
       ·exact h74 h
       ·exact h66 h
      have a4:¬(0<d∧c=66∧t=[]):=fun h=>h66 h.2.1
      rw[if_neg a2,if_neg a4];by_cases h76:c=76
      ·subst h76;rw[if_pos rfl];have hb:=D6m t;rw[B4v]at hb
       have hb2:(decide ((76:UInt8)=73∧t=[])||(decide (d=0)&&decide ((76:UInt8)=74∧t=[])))=false:=by simp
       rw[←Bool.or_assoc,hb2,Bool.false_or,Bool.eq_iff_iff,hb,decide_eq_true_iff];constructor
       ·rintro⟨b1,b2,b3⟩;rw[if_pos ⟨b1,b2⟩];omega
       ·intro h;by_cases hc:(Lib.cut t [59]).2.2=true∧classB (Lib.cut t [59]).1=true
        ·rw[if_pos hc]at h;exact⟨hc.1,hc.2,by omega⟩
        ·rw[if_neg hc]at h;omega
      ·rw[if_neg h76,hne1];simp[h73,h74,h76]
theorem C9z{s:List UInt8}{k:Nat}(hk:k≤s.length)(h:typeB (s.take k)=true):A7x s=k:=by
 have:=D6g h (s.drop k);rw[List.take_append_drop,List.length_take]at this;omega
theorem B9f:∀(f n:Nat) (s:List UInt8),n+f=s.length+1→(A7x s=0∨n≤A7x s)→B1s f n s=A7x s
 |0,n,s,hn,h=>by
  have:=B5s s;simp only[B1s]
  rcases h with h|h<;>omega
 |f+1,n,s,hn,h=>by
  unfold B1s;rw[B7k];by_cases ht:typeB (s.take n)=true
  ·rw[if_pos ht];exact(C9z (by omega) ht).symm
  ·rw[if_neg ht];refine B9f f (n+1) s (by omega) ?_
   rcases h with h|h
   ·exact .inl h
   ·rcases Nat.lt_or_ge n (A7x s)with h1|h1
    ·exact .inr h1
    ·have:n=A7x s:=by omega
     by_cases h0:A7x s=0
     ·exact .inl h0
     ·exact absurd (by rw[this];exact D4e h0) ht
theorem D2a(s:List UInt8):B1s s.length 1 s=A7x s:=B9f s.length 1 s (by omega) (by omega)
end
section
open Go.ChangeShapes Go.WideShapes Go.ChangeAt Go.RowKit
theorem A4m(s:List UInt8):(⟨s.toArray⟩:ByteArray).size=s.length:=by simp[ByteArray.size]
theorem C4d(w:World)(s:List UInt8)(n:Nat)(h:n≤s.length)(hs:s.length≤281474976710656):
  (Instr.slice 9 (.string ⟨s.toArray⟩) none (some (.int .i64 (n:Nat))) none).run Tryz.prog w= .ok (.string ⟨(s.take n).toArray⟩) w:=by
 rw[run_slice_string_to_if w 9 _ .i64 _ Tryz.underlying9,if_pos (by rw[A4m];omega)];congr 2;apply ByteArray.ext;rw[Int.toNat_natCast];apply Array.toList_inj.1;rw[Lib.extract_data];simp
theorem A6r(w:World)(s:List UInt8)(n:Nat)(h:n≤s.length)(hs:s.length≤281474976710656):
  (Instr.slice 9 (.string ⟨s.toArray⟩) (some (.int .i64 (n:Nat))) none none).run Tryz.prog w= .ok (.string ⟨(s.drop n).toArray⟩) w:=by
 rw[run_slice_string_from_if w 9 _ .i64 _ Tryz.underlying9,if_pos (by rw[A4m];omega)];congr 2;apply ByteArray.ext;rw[Int.toNat_natCast];apply Array.toList_inj.1;rw[Lib.extract_data];simp
 rw[A4m,List.take_of_length_le (by rw[List.length_drop];omega)]
theorem B9w(w:World)(s:List UInt8)(n m:Nat)(h:n≤m)(hm:m≤s.length)(hs:s.length≤281474976710656):
  (Instr.slice 9 (.string ⟨s.toArray⟩) (some (.int .i64 (n:Nat))) (some (.int .i64 (m:Nat))) none).run Tryz.prog w= .ok (.string ⟨((s.take m).drop n).toArray⟩) w:=by
 rw[run_slice_string w 9 _ .i64 .i64 _ _ Tryz.underlying9 (by omega) (by omega) (by rw[A4m];omega)];congr 2;apply ByteArray.ext;rw[Int.toNat_natCast,Int.toNat_natCast];apply Array.toList_inj.1
 rw[Lib.extract_data];simp;rw[List.drop_take]
theorem D7n(t:List UInt8):(Lib.cut t [59]).1.length≤t.length:=by
 by_cases h:(Lib.cut t [59]).2.2=true
 ·have:=congrArg List.length (B2i h).1;simp only[List.length_append,List.length_cons]at this;omega
 ·by_cases h1:Lib.index t [59]= -1
  ·rw[C4w 59 t h1];exact Nat.le_refl _
  ·have hg:=Lib.index_ge t [59];obtain⟨i,hi⟩:∃i:Nat,Lib.index t [59]=i:=⟨(Lib.index t [59]).toNat,by omega⟩;rw[C2b 59 t i hi]at h;exact absurd rfl h
theorem D0r(w:World)(s:List UInt8)(hl:s.length≤65536)(hv:VW w):Calls Tryz.prog 51 #[.string ⟨s.toArray⟩] w fun e w'=>e= .returned (.string ⟨(s.take (A7x s)).toArray⟩)∧Below w.heap.size w w':=by
 obtain⟨d,hd⟩:∃d,d=A2g s:=⟨_,rfl⟩;obtain⟨B,hB⟩:∃B,B=s.drop d:=⟨_,rfl⟩;have hdl:d≤s.length:=by rw[hd];exact B4g s
 have hBl:B.length=s.length-d:=by rw[hB,List.length_drop]
 have hcut:A7x s=C1b d B:=by unfold A7x;rw[hB,hd]
 have HT:=Lib.hid (show Calls Tryz.prog 95 #[.string ⟨s.toArray⟩,.string ⟨#[91]⟩] w fun e w'=>e= .returned (.string ⟨B.toArray⟩)∧w'=w by
  have:=Tryz.strings_TrimLeft_one ⟨s.toArray⟩ 91 (by decide) w;rw[show Lib.trimLeftB (⟨s.toArray⟩:ByteArray).data.toList 91=B by unfold Lib.trimLeftB;rw[hB,hd];exact C9h s]at this;exact this)
 have hto:=fun w' n (h:n≤s.length)=>C4d w' s n h (by omega)
 have hsub:(s.length:Int) -(B.length:Int)=(d:Int):=by omega
 have hv0:=hv;have HV:=Lib.hid hv;have HB0:=Lib.hid (Below.refl w.heap.size w);have HBL:=Lib.hid hBl;rw[hcut];clear hv hcut hd hBl
 cases B with
 |nil=>
  clear hto hB;go_enter Tryz.func51,Tryz.ntmps51
  go_wp2_with fail
  refine HT.out.mono ?_;rintro e w1 ⟨rfl,rfl⟩
  go_wp2_with fail
  go_ret;exact⟨rfl,HB0.out⟩
 |cons c t=>
  have htl:t.length+1=s.length-d:=HBL.out;have hsub2:(s.length:Int) -((t.length:Int)+1)=(d:Int):=by omega
  have hto1:=fun w'=>show(Instr.slice 9 (.string ⟨s.toArray⟩) none (some (.int .i64 ((d:Int)+1))) none).run Tryz.prog w'= .ok (.string ⟨(s.take (d+1)).toArray⟩) w' from hto w' (d+1) (by omega)
  have hfr:=fun w'=>show(Instr.slice 9 (.string ⟨(c::t).toArray⟩) (some (.int .i64 1)) none none).run Tryz.prog w'= .ok (.string ⟨t.toArray⟩) w' from A6r w' (c::t) 1 (by simp) (by simp;omega)
  have htl2:t.length≤65536:=by omega
  have hix:(({data:=(c::t).toArray}:ByteArray)[0]'(by rw[A4m];simp)).toNat=c.toNat:=rfl;have HTO:=Lib.hid hto;have HTL:=Lib.hid htl;rw[A4a]
  have hne:∀k:Nat,k<256→c≠UInt8.ofNat k→((c.toNat:Int)==(k:Int))=false:=fun k hk h=>by
   rw[beq_eq_false_iff_ne];intro e;apply h;apply UInt8.toNat_inj.1;rw[UInt8.toNat_ofNat_of_lt' (by simpa using hk)];omega
  clear hto hB htl hsub;by_cases h8:8<d
  ·rw[if_pos h8];have d8:(8:Int)<d:=by omega
   clear h8 hne hto1 hfr;go_enter Tryz.func51,Tryz.ntmps51
   go_wp2_with fail
   refine HT.out.mono ?_;rintro e w1 ⟨rfl,rfl⟩
   go_wp2_with fail
   go_ret;exact⟨rfl,HB0.out⟩
  ·rw[if_neg h8];have d8:¬(8:Int)<d:=by omega
   have d9:(d:Int)≤8:=by omega
   have d0:(0:Int)≤d:=by omega
   have hyes:∀k:Nat,k<256→c=UInt8.ofNat k→((c.toNat:Int)==(k:Int))=true:=fun k hk h=>by
    rw[beq_iff_eq,h,UInt8.toNat_ofNat_of_lt' (by simpa using hk)]
   have hto2:=fun(h:d=0) w'=>show(Instr.slice 9 (.string ⟨s.toArray⟩) none (some (.int .i64 1)) none).run Tryz.prog w'= .ok (.string ⟨(s.take (d+1)).toArray⟩) w' from by
    have:=HTO.out w' (d+1) (by omega);subst h;exact this
   by_cases h1:c=73∨(c=74∧d=0)∨(c=66∧0<d)
   ·rw[if_pos h1];by_cases h73:c=73
    ·have q73:((c.toNat:Int)==73)=true:=hyes 73 (by decide) h73;clear h8 h1 h73 hne hyes hfr hto2;go_enter Tryz.func51,Tryz.ntmps51
     go_wp2_with fail
     refine HT.out.mono ?_;rintro e w1 ⟨rfl,rfl⟩
     go_wp2_with fail
     go_ret;exact⟨rfl,HB0.out⟩
    ·have q73:((c.toNat:Int)==73)=false:=hne 73 (by decide) h73;by_cases h74:c=74∧d=0
     ·have q74:((c.toNat:Int)==74)=true:=hyes 74 (by decide) h74.1;have z0:((d:Int)==0)=true:=by rw[h74.2];rfl
      clear h8 h1 h73 h74 hne hyes hfr hto2;go_enter Tryz.func51,Tryz.ntmps51
      go_wp2_with fail
      refine HT.out.mono ?_;rintro e w1 ⟨rfl,rfl⟩
      go_wp2_with fail
      go_ret;exact⟨rfl,HB0.out⟩
     ·have h66:c=66∧0<d:=by
       rcases h1 with h|h|h
       ·exact absurd h h73
       ·exact absurd h h74
       ·exact h
      have q74:((c.toNat:Int)==74)=false:=hne 74 (by decide) (by rw[h66.1];decide);have q66:((c.toNat:Int)==66)=true:=hyes 66 (by decide) h66.1;have d1:(0:Int)<d:=by omega
      clear h8 h1 h73 h74 h66 hne hyes hfr hto2;go_enter Tryz.func51,Tryz.ntmps51
      go_wp2_with fail
      refine HT.out.mono ?_;rintro e w1 ⟨rfl,rfl⟩
      go_wp2_with fail
      go_ret;exact⟨rfl,HB0.out⟩
   ·rw[if_neg h1];have q73:((c.toNat:Int)==73)=false:=hne 73 (by decide) (fun h=>h1 (.inl h))
    have HN74:=Lib.hid (fun(h:¬d=0)=>show((d:Int)==0)=false by rw[beq_eq_false_iff_ne];omega);by_cases h76:c=76
    ·rw[if_pos h76];have q76:((c.toNat:Int)==76)=true:=hyes 76 (by decide) h76;have q74:((c.toNat:Int)==74)=false:=hne 74 (by decide) (by rw[h76];decide)
     have q66:((c.toNat:Int)==66)=false:=hne 66 (by decide) (by rw[h76];decide);have hcut:=D6a w t 59 (by omega) hv0;have hnl:=D7n t
     have hyl:=fun h=>congrArg List.length (@B2i t h).1
     obtain⟨⟨nm,r,ok⟩,hct⟩:∃R,Lib.cut t [59]=R:=⟨_,rfl⟩;rw[hct]at hcut hnl hyl⊢;simp only[List.length_append,List.length_cons]at hcut hnl hyl⊢;have HCT:=Lib.hid hcut
     have HIC:=Lib.hid (fun w h=>A7b w nm (by omega) h);clear hcut hct
     cases ok with
     |false=>
      rw[if_neg (fun h=>absurd h.1 (by decide))];clear h8 h1 h76 hne hyes hyl hto2 HIC;go_enter Tryz.func51,Tryz.ntmps51
      go_wp2_with fail
      refine HT.out.mono ?_;rintro e w1 ⟨rfl,rfl⟩
      go_wp2_with fail
      refine HCT.out.mono ?_;rintro e w2 ⟨rfl,hb2,_⟩;have HB2:=Lib.hid hb2;clear hb2
      go_wp2_with fail
      go_ret;exact⟨rfl,HB2.out⟩
     |true=>
      have hy:=hyl rfl
      cases hcb:classB nm with
      |false=>
       rw[hcb]at HIC;rw[if_neg (fun h=>absurd h.2 (by decide))];clear h8 h1 h76 hne hyes hyl hto2 hcb hy;go_enter Tryz.func51,Tryz.ntmps51
       go_wp2_with fail
       refine HT.out.mono ?_;rintro e w1 ⟨rfl,rfl⟩
       go_wp2_with fail
       refine HCT.out.mono ?_;rintro e w2 ⟨rfl,hb2,_⟩;have HB2:=Lib.hid hb2;clear hb2
       go_wp2_with fail
       refine(HIC.out w2 (HV.out.below HB2.out)).mono ?_;rintro e w3 ⟨rfl,hb3⟩;have HB3:=Lib.hid (HB2.out.trans (hb3.mono HB2.out.size));clear hb3
       go_wp2_with fail
       go_ret;exact⟨rfl,HB3.out⟩
      |true=>
       rw[hcb]at HIC;rw[if_pos ⟨rfl,rfl⟩]
       have hto3:=fun w'=>show(Instr.slice 9 (.string ⟨s.toArray⟩) none (some (.int .i64 ((d:Int)+(nm.length:Int)+2))) none).run Tryz.prog w'= .ok (.string ⟨(s.take (d+nm.length+2)).toArray⟩) w' from HTO.out w' (d+nm.length+2) (by have:=HTL.out;omega)
       have b1:(nm.length:Int)≤65536:=by omega
       clear h8 h1 h76 hne hyes hyl hto2 hto1 hcb hy;go_enter Tryz.func51,Tryz.ntmps51
       go_wp2_with fail
       refine HT.out.mono ?_;rintro e w1 ⟨rfl,rfl⟩
       go_wp2_with fail
       refine HCT.out.mono ?_;rintro e w2 ⟨rfl,hb2,_⟩;have HB2:=Lib.hid hb2;clear hb2
       go_wp2_with fail
       refine(HIC.out w2 (HV.out.below HB2.out)).mono ?_;rintro e w3 ⟨rfl,hb3⟩;have HB3:=Lib.hid (HB2.out.trans (hb3.mono HB2.out.size));clear hb3
       go_wp2_with fail
       go_ret;exact⟨rfl,HB3.out⟩
    ·rw[if_neg h76];have q76:((c.toNat:Int)==76)=false:=hne 76 (by decide) h76;by_cases h74:c=74
     ·have q74:((c.toNat:Int)==74)=true:=hyes 74 (by decide) h74;have z0:=HN74.out (fun h=>h1 (.inr (.inl ⟨h74,h⟩)))
      have q66:((c.toNat:Int)==66)=false:=hne 66 (by decide) (by rw[h74];decide);clear h8 h1 h74 h76 hne hyes hfr hto1 hto2;go_enter Tryz.func51,Tryz.ntmps51
      go_wp2_with fail
      refine HT.out.mono ?_;rintro e w1 ⟨rfl,rfl⟩
      go_wp2_with fail
      go_ret;exact⟨rfl,HB0.out⟩
     ·have q74:((c.toNat:Int)==74)=false:=hne 74 (by decide) h74;by_cases h66:c=66
      ·have q66:((c.toNat:Int)==66)=true:=hyes 66 (by decide) h66;have d1:¬(0:Int)<d:=fun h=>h1 (.inr (.inr ⟨h66,by omega⟩))
       clear h8 h1 h74 h76 h66 hne hyes hfr hto1 hto2;go_enter Tryz.func51,Tryz.ntmps51
       go_wp2_with fail
       refine HT.out.mono ?_;rintro e w1 ⟨rfl,rfl⟩
       go_wp2_with fail
       go_ret;exact⟨rfl,HB0.out⟩
      ·have q66:((c.toNat:Int)==66)=false:=hne 66 (by decide) h66;clear h8 h1 h74 h76 h66 hne hyes hfr hto1 hto2;go_enter Tryz.func51,Tryz.ntmps51
       go_wp2_with fail
       refine HT.out.mono ?_;rintro e w1 ⟨rfl,rfl⟩
       go_wp2_with fail
       go_ret;exact⟨rfl,HB0.out⟩
def A7h(x:List UInt8):Value:= .string ⟨x.toArray⟩
theorem D5y(s:List UInt8)(n:Nat)(h:n≤s.length):(s.take n==s)=decide (n=s.length):=by
 rw[Bool.eq_iff_iff,beq_iff_eq,decide_eq_true_iff];constructor
 ·intro e;have:=congrArg List.length e;rw[List.length_take]at this;omega
 ·intro e;rw[e,List.take_length]
theorem A3q(w:World)(s:List UInt8)(hl:s.length≤65536)(hv:VW w):Calls Tryz.prog 23 #[.string ⟨s.toArray⟩] w fun e w'=>e= .returned (.bool (typeB s))∧Below w.heap.size w w':=by
 have HC:=Lib.hid (D0r w s hl hv);have HB0:=Lib.hid (Below.refl w.heap.size w);have he:=D5y s (A7x s) (B5s s)
 cases s with
 |nil=>
  clear he;go_enter Tryz.func23,Tryz.ntmps23
  go_wp2_with fail
  go_ret;exact⟨rfl,HB0.out⟩
 |cons c t=>
  obtain⟨r,hr⟩:∃r,r=decide (A7x (c::t)=(c::t).length):=⟨_,rfl⟩;have HT:=Lib.hid (show typeB (c::t)=r by rw[hr];rfl);rw[←hr]at he;clear hr hl
  generalize(c::t).take (A7x (c::t))=u at*;go_enter Tryz.func23,Tryz.ntmps23
  go_wp2_with fail
  refine HC.out.mono ?_;rintro e w1 ⟨rfl,hb1⟩;have HB1:=Lib.hid hb1;clear hb1
  go_wp2_with fail
  go_ret;exact⟨A2n HT.out.symm,HB1.out⟩
theorem A9z(n:Nat)(s:List UInt8)(h:s=[]∨s.head? =some 41):A9i n s=some s:=by
 unfold A9i;rw[if_pos h]
theorem A9y(c:UInt8)(t:List UInt8)(h:¬c=41):A9i 0 (c::t)=none:=by
 have:¬(c::t=[]∨(c::t).head? =some 41):=by simp[h]
 unfold A9i;rw[if_neg this]
theorem B0a(n:Nat)(c:UInt8)(t:List UInt8)(h:¬c=41):A9i (n+1) (c::t)=if A7x (c::t)=0 then none else A9i n ((c::t).drop (A7x (c::t))):=by
 have:¬(c::t=[]∨(c::t).head? =some 41):=by simp[h]
 rw[A9i,if_neg this]
theorem B6v(r:List UInt8):A3x (40::r)=C1r (A9i 16 r):=by
 simp[A3x]
def C9u(b:Bool)(w:World)(e:Ending)(w':World):Prop:=(∃v1 v2,e= .returned (.tuple #[v1,v2,.int .i64 (if b then 0 else 8)]))∧Below w.heap.size w w'
theorem C4u:C9e 86 9 (.string ⟨#[]⟩) 16:=⟨Tryz.underlying86,by kernel_rfl,rfl⟩
theorem C6x(w:World)(s:List UInt8)(hl:s.length≤65536)(hv:VW w):Calls Tryz.prog 97 #[.string ⟨s.toArray⟩] w (C9u (A3x s) w):=by
 have HV:=Lib.hid hv;have HB0:=Lib.hid (Below.refl w.heap.size w);have HP:=Lib.hid (fun w (s:List UInt8)=>Tryz.strings_CutPrefix ⟨s.toArray⟩ ⟨#[40]⟩ w)
 have HP2:=Lib.hid (fun w (s:List UInt8)=>Tryz.strings_CutPrefix ⟨s.toArray⟩ ⟨#[41]⟩ w);clear hv;by_cases h40:s.head? =some 40
 ·obtain⟨r,rfl⟩:∃r,s=40::r:=by
   cases s with
   |nil=>simp at h40
   |cons c r=>simp at h40;exact⟨r,by rw[h40]⟩
  rw[B6v];have hp:=HP.out w (40::r)
  rw[show Lib.trimPrefix (⟨(40::r).toArray⟩:ByteArray).data.toList (⟨#[40]⟩:ByteArray).data.toList=r by simp[Lib.trimPrefix,Lib.hasPrefix],show Lib.hasPrefix (⟨(40::r).toArray⟩:ByteArray).data.toList (⟨#[40]⟩:ByteArray).data.toList=true by simp[Lib.hasPrefix]]at hp
  have HP1:=Lib.hid hp;have hrl:r.length≤65536:=by simp at hl;omega
  obtain⟨A0,hA0⟩:∃A0,A0=A9i 16 r:=⟨_,rfl⟩;have HA0:=Lib.hid hA0;rw[←hA0];obtain⟨T,hT⟩:∃T,T=C1r A0:=⟨_,rfl⟩;have HT0:=Lib.hid hT;rw[←hT];clear hp HP h40 hl hA0 hT
  go_enter Tryz.func97,Tryz.ntmps97
  go_wp2_with fail
  refine HP1.out.mono ?_;rintro e w1 ⟨rfl,rfl⟩
  go_wp2_with fail
  go_loopg [5,7] 17 (fun gn sv av wr=>∃(k:Nat) (r:List UInt8) (L:List (List UInt8)) (a:Option Addr) (c:Nat),k≤16∧gn=17-k∧sv= .string ⟨r.toArray⟩∧av= .slice a k c∧r.length≤65536∧Hid (A9i (16-k) r=A0)∧Hid (wr.ownsRow w1.heap.size 9 1 (.slice a k c) k (L.map A7h))∧Hid (Below w1.heap.size w1 wr))
  case atStart=>exact⟨0,r,[],none,0,by omega,by omega,rfl,rfl,hrl,Lib.hid HA0.out.symm,Lib.hid (World.ownsRow_nil _ _ _ _),HB0⟩
  case round=>
   obtain⟨k,r,L,a,c,hk,rfl,rfl,rfl,hrl,HA,HO,HB⟩:=hrel
   cases r with
   |nil=>
    have hT:T=false:=by rw[HT0.out,←HA.out,A9z _ _ (.inl rfl)];rfl
    subst hT;have hp:=HP2.out wr []
    rw[show Lib.trimPrefix (⟨([]:List UInt8).toArray⟩:ByteArray).data.toList (⟨#[41]⟩:ByteArray).data.toList=[]from rfl,show Lib.hasPrefix (⟨([]:List UInt8).toArray⟩:ByteArray).data.toList (⟨#[41]⟩:ByteArray).data.toList=false from rfl]at hp
    have HP3:=Lib.hid hp;clear hp HP2
    go_wp2_with fail
    refine HP3.out.mono ?_;rintro e w2 ⟨rfl,rfl⟩
    go_wp2_with fail
    go_ret3;exact⟨⟨_,_,rfl⟩,HB.out⟩
   |cons d t=>
    have hix:(({data:=(d::t).toArray}:ByteArray)[0]'(by rw[A4m];simp)).toNat=d.toNat:=rfl;by_cases h41:d=41
    ·have q41:((d.toNat:Int)==41)=true:=by rw[h41];rfl
     have hA:A0=some (d::t):=by rw[←HA.out,A9z _ _ (.inr (by rw[h41];rfl))]
     have hp:=HP2.out wr (d::t)
     rw[show Lib.trimPrefix (⟨(d::t).toArray⟩:ByteArray).data.toList (⟨#[41]⟩:ByteArray).data.toList=t by subst h41;simp[Lib.trimPrefix,Lib.hasPrefix],show Lib.hasPrefix (⟨(d::t).toArray⟩:ByteArray).data.toList (⟨#[41]⟩:ByteArray).data.toList=true by subst h41;simp[Lib.hasPrefix]]at hp
     have HP3:=Lib.hid hp;have HTB:=Lib.hid (show T=(decide (t=[86])||typeB t) by rw[HT0.out,hA,h41];simp[C1r]);have htl:t.length≤65536:=by simp at hrl;omega
     have HTY:=Lib.hid (fun w h=>A3q w t htl h);obtain⟨y,hy⟩:∃y,y=typeB t:=⟨_,rfl⟩;rw[←hy]at HTB HTY;clear hp HP2 hA h41 hrl hy;by_cases h86:t=[86]
     ·have hT:T=true:=by rw[HTB.out,decide_eq_true h86,Bool.true_or]
      subst hT h86
      go_wp2_with fail
      refine HP3.out.mono ?_;rintro e w2 ⟨rfl,rfl⟩
      go_wp2_with fail
      go_ret3;exact⟨⟨_,_,rfl⟩,HB.out⟩
     ·have hT:T=y:=by rw[HTB.out,decide_eq_false h86,Bool.false_or]
      subst hT;have he:(t==[86])=false:=by simpa using h86
      clear h86
      go_wp2_with fail
      refine HP3.out.mono ?_;rintro e w2 ⟨rfl,rfl⟩
      go_wp2_with fail
      refine(HTY.out w2 (HV.out.below HB.out)).mono ?_;rintro e w3 ⟨rfl,hb3⟩;have HB3:=Lib.hid (HB.out.trans (hb3.mono HB.out.size));clear hb3
      cases T
      ·go_wp2_with fail
       go_ret3;exact⟨⟨_,_,rfl⟩,HB3.out⟩
      ·go_wp2_with fail
       go_ret3;exact⟨⟨_,_,rfl⟩,HB3.out⟩
    ·have q41:((d.toNat:Int)==41)=false:=by
      rw[beq_eq_false_iff_ne];intro h;exact h41 (UInt8.toNat_inj.1 (by rw[show(41:UInt8).toNat=41 from rfl];omega))
     obtain⟨m,hm⟩:∃m,m=A7x (d::t):=⟨_,rfl⟩;have hml:=B5s (d::t);have HCU:=Lib.hid (D0r wr (d::t) hrl (HV.out.below HB.out));rw[←hm]at HCU hml;by_cases h0:m=0
     ·have hT:T=false:=by
       rw[HT0.out,←HA.out];by_cases hk6:k=16
       ·subst hk6;rw[A9y d t h41];rfl
       ·rw[show 16-k=(15-k)+1 by omega,B0a _ d t h41,←hm,if_pos h0];rfl
      subst hT;rw[h0,List.take_zero]at HCU;clear HA hm hml h0 h41 HP2
      go_wp2_with fail
      refine HCU.out.mono ?_;rintro e w2 ⟨rfl,hb2⟩;have HB2:=Lib.hid (HB.out.trans (hb2.mono HB.out.size));clear hb2
      go_wp2_with fail
      go_ret3;exact⟨⟨_,_,rfl⟩,HB2.out⟩
     ·obtain⟨m1,hm1⟩:∃m1,m=m1+1:=⟨m-1,by omega⟩;have HU:=Lib.hid (show(d::t).take m=d::t.take m1 by rw[hm1,List.take_succ_cons]);rw[HU.out]at HCU
      have HUL:=Lib.hid (show(t.take m1).length=m1 by rw[List.length_take];simp at hml;omega);by_cases hk6:k=16
      ·have hT:T=false:=by
        rw[HT0.out,←HA.out];subst hk6;rw[A9y d t h41];rfl
       subst hT;have k16:((k:Int)==16)=true:=by rw[hk6];rfl
       generalize t.take m1=u at*;clear HA hm hml h0 h41 HP2 hk6 hk
       go_wp2_with fail
       refine HCU.out.mono ?_;rintro e w2 ⟨rfl,hb2⟩;have HB2:=Lib.hid (HB.out.trans (hb2.mono HB.out.size));clear hb2
       go_wp2_with fail
       go_ret3;exact⟨⟨_,_,rfl⟩,HB2.out⟩
      ·have k16:((k:Int)==16)=false:=by rw[beq_eq_false_iff_ne];omega
       have HA2:=Lib.hid (show A9i (16-(k+1)) ((d::t).drop m)=A0 by
        rw[←HA.out,show 16-k=(16-(k+1))+1 by omega,B0a _ d t h41,←hm,if_neg h0])
       have hfr:=fun w'=>show(Instr.slice 9 (.string ⟨(d::t).toArray⟩) (some (.int .i64 ((m1:Int)+1))) none none).run Tryz.prog w'= .ok (.string ⟨((d::t).drop m).toArray⟩) w' from by
        have:=A6r w' (d::t) m hml (by omega);subst hm1;exact this
       have HDL:=Lib.hid (show((d::t).drop m).length≤65536 by rw[List.length_drop];omega);have HOD:=Lib.hid (fun W=>(A1n (w':=W) HO.out));have hul:=HUL.out
       generalize(d::t).drop m=r2 at*;generalize t.take m1=u at*;subst hul;have k15:k≤15:=by omega
       have hk0:(0:Int)≤(u.length:Int)+1:=by omega
       clear hm hml h0 h41 HP2 hk6 hk hm1 HA HU HUL
       go_wp2_with fail
       refine HCU.out.mono ?_;rintro e w2 ⟨rfl,hb2⟩;have HB2:=Lib.hid (HB.out.trans (hb2.mono HB.out.size));have HO2:=Lib.hid (HOD.out w2 hb2);clear hb2 HOD
       go_wp2_with fail
       go_region_law ((refine A9m C4u (by rfl) _ _ (by rfl) w1.heap.size _ _ _ (by rfl) HO2.out.drew _ 1 _ (by rfl) (by rfl) (by rfl) (by omega) (by unfold maxLen;omega) HB2.out.size ?_;intro v3 w3 hown3 hg3 hb3))
       obtain⟨a3,c3,rfl,_,_⟩:=Sl.ofOwn (enc:=A7h) (xs:=L++[d::u]) (by rw[List.map_append];exact hown3)
       have HO3:=Lib.hid (show w3.ownsRow w1.heap.size 9 1 (.slice a3 (k+1) c3) (k+1) ((L++[d::u]).map A7h) by rw[List.map_append];exact hown3)
       have HB3:=Lib.hid (HB2.out.trans (((Below.refl _ _).drew).trans hb3));clear hown3 hg3 hb3
       go_wp2_with fail
       go_roundg (17-(k+1))
       case measure=>omega
       case rel=>exact⟨k+1,r2,L++[d::u],a3,c3,by omega,rfl,rfl,rfl,HDL.out,HA2,HO3,HB3⟩
 ·have hT:A3x s=false:=by
   cases s with
   |nil=>rfl
   |cons c r=>
    have:¬c=40:=fun h=>h40 (by rw[h];rfl)
    simp[A3x,this]
  rw[hT];have hp:=HP.out w s
  rw[show Lib.hasPrefix (⟨s.toArray⟩:ByteArray).data.toList (⟨#[40]⟩:ByteArray).data.toList=false by
   cases s with
   |nil=>rfl
   |cons c r=>
    have:¬c=40:=fun h=>h40 (by rw[h];rfl)
    simp[Lib.hasPrefix,List.isPrefixOf,Ne.symm this]]at hp
  have HP1:=Lib.hid hp;clear hp HP hT h40;go_enter Tryz.func97,Tryz.ntmps97
  go_wp2_with fail
  refine HP1.out.mono ?_;rintro e w1 ⟨rfl,rfl⟩
  go_wp2_with fail
  go_ret3;exact⟨⟨_,_,rfl⟩,HB0.out⟩
def D1n(c:List UInt8):List UInt8:=76::(c++[59])
def B8t(t:List UInt8):Bool:=decide (2≤t.length)&&(decide (t.head? =some 76)&&decide (t.getLast? =some 59))
def D1m(t:List UInt8):List UInt8:=if B8t t then(t.take (t.length-1)).drop 1 else []
theorem D0b(s:List UInt8)(c:UInt8):Lib.hasPrefix s [c]=decide (s.head? =some c):=by
 cases s with
 |nil=>rfl
 |cons d t=>
  rw[Bool.eq_iff_iff];simp[Lib.hasPrefix,List.isPrefixOf];exact eq_comm
theorem D7k(s:List UInt8)(c:UInt8):Lib.hasSuffix s [c]=decide (s.getLast? =some c):=by
 rw[Bool.eq_iff_iff,decide_eq_true_iff,Lib.hasSuffix,List.isSuffixOf_iff_suffix];constructor
 ·rintro⟨q,rfl⟩;simp
 ·intro h;obtain⟨q,hq⟩:=List.getLast?_eq_some_iff.1 h;exact⟨q,hq.symm⟩
theorem C6y(w:World)(s:List UInt8)(hl:s.length≤65536):Calls Tryz.prog 105 #[.string ⟨s.toArray⟩] w fun e w'=>e= .returned (.string ⟨(D1n s).toArray⟩)∧w'=w:=by
 have n1:¬9223372036854775807<1+s.length:=by omega
 have n2:¬9223372036854775807<1+s.length+1:=by omega
 have he:((⟨#[76]⟩:ByteArray)++(⟨s.toArray⟩:ByteArray))++(⟨#[59]⟩:ByteArray)=⟨(D1n s).toArray⟩:=by
  rw[show(⟨#[76]⟩:ByteArray)=⟨[76].toArray⟩from rfl,show(⟨#[59]⟩:ByteArray)=⟨[59].toArray⟩from rfl,B7x,B7x];rfl
 have HE:=Lib.hid he;clear he;go_enter Tryz.func105,Tryz.ntmps105
 go_wp2_with fail
 go_ret;exact⟨by rw[←HE.out];rfl,rfl⟩
theorem A8r(w:World)(s:List UInt8)(hl:s.length≤65536)(hv:VW w):Calls Tryz.prog 49 #[.string ⟨s.toArray⟩] w fun e w'=>e= .returned (.bool (A2z s))∧Below w.heap.size w w':=by
 have hp:=Tryz.strings_HasPrefix ⟨s.toArray⟩ ⟨#[91]⟩ w;rw[show Lib.hasPrefix (⟨s.toArray⟩:ByteArray).data.toList (⟨#[91]⟩:ByteArray).data.toList=decide (s.head? =some 91)from D0b s 91]at hp
 obtain⟨y,hy⟩:∃y,y=decide (s.head? =some 91):=⟨_,rfl⟩;have HR:=Lib.hid (show A2z s=(y&&typeB s) by rw[hy];rfl);rw[←hy]at hp;have HP:=Lib.hid hp;have HT:=Lib.hid (A3q w s hl hv)
 have HB0:=Lib.hid (Below.refl w.heap.size w);generalize A2z s=R at*;generalize typeB s=T at*;clear hp hy hv;go_enter Tryz.func49,Tryz.ntmps49
 go_wp2_with fail
 refine HP.out.mono ?_;rintro e w1 ⟨rfl,rfl⟩
 cases y
 ·go_wp2_with fail
  go_ret;exact⟨A2n (by rw[HR.out];rfl),HB0.out⟩
 ·go_wp2_with fail
  refine HT.out.mono ?_;rintro e w2 ⟨rfl,hb2⟩;have HB2:=Lib.hid hb2;clear hb2
  go_wp2_with fail
  go_ret;exact⟨A2n (by rw[HR.out];rfl),HB2.out⟩
theorem A5k(w:World)(s:List UInt8)(hl:s.length≤65536)(hv:VW w):Calls Tryz.prog 52 #[.string ⟨s.toArray⟩] w fun e w'=>e= .returned (.bool (A3x s))∧Below w.heap.size w w':=by
 have HM:=Lib.hid (C6x w s hl hv);generalize A3x s=T at*;clear hv hl
 cases T
 ·go_enter Tryz.func52,Tryz.ntmps52
  go_wp2_with fail
  refine HM.out.mono ?_;rintro e w1 ⟨⟨v1,v2,rfl⟩,hb⟩;simp only[Bool.false_eq_true,if_false]
  go_wp2_with fail
  go_ret;exact⟨rfl,hb⟩
 ·go_enter Tryz.func52,Tryz.ntmps52
  go_wp2_with fail
  refine HM.out.mono ?_;rintro e w1 ⟨⟨v1,v2,rfl⟩,hb⟩;simp only[if_true]
  go_wp2_with fail
  go_ret;exact⟨rfl,hb⟩
theorem C0p:∀(s:List UInt8),decide (0≤Lib.indexByte s 47)=s.contains 47
 |[]=>rfl
 |c::s=>by
  have ih:=C0p s;have hg:=Lib.indexByte_ge s 47;rw[List.contains_cons,←ih,Lib.indexByte];by_cases h:c=47
  ·subst h;simp
  ·have h1:(c==47)=false:=by simpa using h
   have h2:((47:UInt8)==c)=false:=by simpa using Ne.symm h
   rw[h1,h2,Bool.false_or];simp only[Bool.false_eq_true,if_false];by_cases h3:Lib.indexByte s 47= -1
   ·rw[h3];rfl
   ·rw[if_neg (by simpa using h3)];apply decide_eq_decide.2;omega
theorem A5m(w:World)(s:List UInt8)(hl:s.length≤65536)(hv:VW w):Calls Tryz.prog 17 #[.string ⟨s.toArray⟩] w fun e w'=>e= .returned (.bool (A7v s))∧Below w.heap.size w w':=by
 have hp:=Tryz.strings_Contains_one ⟨s.toArray⟩ 47 w;rw[show decide (0≤Lib.indexByte (⟨s.toArray⟩:ByteArray).data.toList 47)=s.contains 47 from C0p s]at hp
 obtain⟨y,hy⟩:∃y,y=s.contains 47:=⟨_,rfl⟩;have HR:=Lib.hid (show A7v s=(!y&&classB s) by rw[hy];rfl);rw[←hy]at hp;have HP:=Lib.hid hp;have HT:=Lib.hid (A7b w s (by omega) hv)
 have HB0:=Lib.hid (Below.refl w.heap.size w);generalize A7v s=R at*;generalize classB s=T at*;clear hp hy hv;go_enter Tryz.func17,Tryz.ntmps17
 go_wp2_with fail
 refine HP.out.mono ?_;rintro e w1 ⟨rfl,rfl⟩
 cases y
 ·go_wp2_with fail
  refine HT.out.mono ?_;rintro e w2 ⟨rfl,hb2⟩;have HB2:=Lib.hid hb2;clear hb2
  go_wp2_with fail
  go_ret;exact⟨A2n (by rw[HR.out];rfl),HB2.out⟩
 ·go_wp2_with fail
  go_ret;exact⟨A2n (by rw[HR.out];rfl),HB0.out⟩
theorem C2z(w:World)(s:List UInt8)(hl:s.length≤65536):Calls Tryz.prog 124 #[.string ⟨s.toArray⟩] w fun e w'=>e= .returned (.tuple #[.string ⟨(D1m s).toArray⟩,.bool (B8t s)])∧w'=w:=by
 have hp:=fun w=>Tryz.strings_HasPrefix ⟨s.toArray⟩ ⟨#[76]⟩ w
 rw[show Lib.hasPrefix (⟨s.toArray⟩:ByteArray).data.toList (⟨#[76]⟩:ByteArray).data.toList=decide (s.head? =some 76)from D0b s 76]at hp
 have hq:=fun w=>Tryz.strings_HasSuffix ⟨s.toArray⟩ ⟨#[59]⟩ w (by rw[A4m];omega)
 rw[show Lib.hasSuffix (⟨s.toArray⟩:ByteArray).data.toList (⟨#[59]⟩:ByteArray).data.toList=decide (s.getLast? =some 59)from D7k s 59]at hq
 have HK:B8t s=(decide (2≤s.length)&&(decide (s.head? =some 76)&&decide (s.getLast? =some 59))):=rfl;generalize decide (s.head? =some 76)=p1 at*;generalize decide (s.getLast? =some 59)=p2 at*
 have HP:=Lib.hid hp;have HQ:=Lib.hid hq;by_cases h2:s.length<2
 ·have n2:(s.length:Int)<2:=by omega
  have hk:B8t s=false:=by rw[HK,decide_eq_false (by omega)];rfl
  have hvv:D1m s=[]:=by unfold D1m;rw[hk];rfl
  rw[hk,hvv];clear hp hq HK h2 hk hvv;go_enter Tryz.func124,Tryz.ntmps124
  go_wp2_with fail
  go_ret2;exact⟨rfl,rfl⟩
 ·have n2:¬(s.length:Int)<2:=by omega
  rw[decide_eq_true (by omega),Bool.true_and]at HK
  have hmd:=fun w'=>show(Instr.slice 9 (.string ⟨s.toArray⟩) (some (.int .i64 1)) (some (.int .i64 ((s.length:Int) -1))) none).run Tryz.prog w'= .ok (.string ⟨((s.take (s.length-1)).drop 1).toArray⟩) w' from by
   have:=B9w w' s 1 (s.length-1) (by omega) (by omega) (by omega);rw[show(((s.length-1:Nat)):Int)=(s.length:Int) -1 by omega]at this;exact this
  have hvv:D1m s=if B8t s then(s.take (s.length-1)).drop 1 else []:=rfl
  generalize D1m s=V at*;generalize B8t s=B at*;generalize(s.take (s.length-1)).drop 1=M at*;clear hp hq h2
  cases p1
  ·have hB:B=false:=HK;subst hB;simp only[Bool.false_eq_true,if_false]at hvv;subst hvv;clear HK;go_enter Tryz.func124,Tryz.ntmps124
   go_wp2_with fail
   refine(HP.out w).mono ?_;rintro e w1 ⟨rfl,rfl⟩
   go_wp2_with fail
   go_ret2;exact⟨rfl,rfl⟩
  ·cases p2
   ·have hB:B=false:=HK;subst hB;simp only[Bool.false_eq_true,if_false]at hvv;subst hvv;clear HK;go_enter Tryz.func124,Tryz.ntmps124
    go_wp2_with fail
    refine(HP.out w).mono ?_;rintro e w1 ⟨rfl,rfl⟩
    go_wp2_with fail
    refine(HQ.out w1).mono ?_;rintro e w2 ⟨rfl,rfl⟩
    go_wp2_with fail
    go_ret2;exact⟨rfl,rfl⟩
   ·have hB:B=true:=HK;subst hB;simp only[if_true]at hvv;subst hvv;clear HK;go_enter Tryz.func124,Tryz.ntmps124
    go_wp2_with fail
    refine(HP.out w).mono ?_;rintro e w1 ⟨rfl,rfl⟩
    go_wp2_with fail
    refine(HQ.out w1).mono ?_;rintro e w2 ⟨rfl,rfl⟩
    go_wp2_with fail
    go_ret2;exact⟨rfl,rfl⟩
end
end Go.Proofs.YtclpkipaehpkdaaGreatDoor
