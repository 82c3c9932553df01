/- asm: own texts, merged (wip/merge3.py). No condition. -/
import Derived.Test.YtclpkipaehpkdaaGreatDoorQ19AsmLifts
import Derived.Test.YtclpkipaehpkdaaGreatDoorQ20AsmLifts
import Derived.Test.YtclpkipaehpkdaaGreatDoorQ22AsmLifts
import Derived.Test.YtclpkipaehpkdaaGreatDoorQ01AsmLifts
set_option linter.unusedVariables false
set_option linter.unusedSimpArgs false
set_option maxRecDepth 100000
set_option maxHeartbeats 64000000
namespace Go.Proofs.YtclpkipaehpkdaaGreatDoor
section
open Go.RowKit
theorem C3x(x n:Nat):A6t (x%256^n) n=A6t x n:=by
 have h:=D1c (A6t x n);rw[D7b,A1z]at h;exact h
theorem A6e{x y n:Nat}(h:x%256^n=y%256^n):A6t x n=A6t y n:=by
 rw[←C3x x n,h,C3x]
theorem D6x(bs:List UInt8)(p f:Nat)(hf:2≤A2m f)(h3:A2m f≤3)(h:p+A2m f≤bs.length):A2d bs p f=((B5z ((bs.drop (p+1)).take (A2m f-1)):Nat):Int):=by
 unfold A2d;have hm:max (A2m f-1) 1=A2m f-1:=by omega
 rw[hm];unfold A5s;rw[if_neg (by omega),if_neg (by omega)];simp only;rw[show((p:Int)+1).toNat=p+1 by omega,Int.toNat_natCast]
theorem D3n(bs:List UInt8)(p s:Nat)(h:p+s≤bs.length):((bs.drop (p+1)).take (s-1)).length=s-1:=by
 simp;omega
theorem D5x(bs:List UInt8)(p s:Nat)(hs:1≤s)(h:p+s≤bs.length):(bs.drop p).take s=[UInt8.ofNat (A3u bs p)]++(bs.drop (p+1)).take (s-1):=by
 have hp:p<bs.length:=by omega
 have e:UInt8.ofNat (A3u bs p)=bs[p]:=by
  unfold A3u;simp[List.getD,hp]
 obtain⟨k,rfl⟩:∃k,s=k+1:=⟨s-1,by omega⟩;rw[e,List.drop_eq_getElem_cons hp,List.take_succ_cons];rfl
theorem D7f(bs:List UInt8)(p:Nat)(h0:A0q (A3u bs p)≠0)(h:p+A2m (A0q (A3u bs p))≤bs.length):A6j (A7q bs p)=(bs.drop p).take (A2m (A0q (A3u bs p))):=by
 have h9:=A4j (A3u bs p);have h1:=A9s h0 h9;rw[D5x bs p _ h1 h];have hte:=D6x bs p (A0q (A3u bs p));have hrl:=D3n bs p (A2m (A0q (A3u bs p))) h
 have hpg:=D1c ((bs.drop (p+1)).take (A2m (A0q (A3u bs p)) -1));have hgl:=B7e ((bs.drop (p+1)).take (A2m (A0q (A3u bs p)) -1));rw[hrl]at hpg hgl;have hs3:=B1r (A0q (A3u bs p))
 unfold A7q A6j;simp only;generalize A0q (A3u bs p)=f at*;generalize(bs.drop (p+1)).take (A2m f-1)=cs at*;generalize B5z cs=v at*
 have hfc:f=1∨f=2∨f=3∨f=4∨f=5∨f=6∨f=7∨f=8∨f=9:=by omega
 rw[show(UInt8.ofNat (A3u bs p)::(if f=7 then A6t (B0q (A1s bs p f-p)) 2 else if f=8 then A6t (B0q (A1s bs p f)) 1++A6t (B0q (A2f bs p f)) 1 else A6t (B0q (A1s bs p f)) (A2m f-1)))=[UInt8.ofNat (A3u bs p)]++(if f=7 then A6t (B0q (A1s bs p f-p)) 2 else if f=8 then A6t (B0q (A1s bs p f)) 1++A6t (B0q (A2f bs p f)) 1 else A6t (B0q (A1s bs p f)) (A2m f-1))from rfl]
 congr 1;unfold A1s A2f
 rcases hfc with rfl|rfl|rfl|rfl|rfl|rfl|rfl|rfl|rfl
 ·rw[←hpg];rfl
 all_goals
  have hv:=hte (by decide) (by decide) h
  first
   |(rw[show A2m 2=2 from rfl]at hpg hgl⊢)
   |(rw[show A2m 3=2 from rfl]at hpg hgl⊢)
   |(rw[show A2m 4=3 from rfl]at hpg hgl⊢)
   |(rw[show A2m 5=2 from rfl]at hpg hgl⊢)
   |(rw[show A2m 6=3 from rfl]at hpg hgl⊢)
   |(rw[show A2m 7=3 from rfl]at hpg hgl⊢)
   |(rw[show A2m 8=3 from rfl]at hpg hgl⊢)
   |(rw[show A2m 9=2 from rfl]at hpg hgl⊢)
  rw[hv];clear hte hv hs3
 ·simp only[Nat.reduceSub,Nat.reducePow,reduceIte,Nat.reduceEqDiff]at hpg hgl⊢;rw[←hpg];exact A6e (by unfold B0q;omega)
 ·simp only[Nat.reduceSub,Nat.reducePow,reduceIte,Nat.reduceEqDiff]at hpg hgl⊢;rw[←hpg,show A2p (v:Int) 1=((v:Int)+128)%256-128 from rfl];exact A6e (by unfold B0q;omega)
 ·simp only[Nat.reduceSub,Nat.reducePow,reduceIte,Nat.reduceEqDiff]at hpg hgl⊢;rw[←hpg,show A2p (v:Int) 2=((v:Int)+32768)%65536-32768 from rfl];exact A6e (by unfold B0q;omega)
 ·simp only[Nat.reduceSub,Nat.reducePow,reduceIte,Nat.reduceEqDiff]at hpg hgl⊢;rw[←hpg];exact A6e (by unfold B0q;omega)
 ·simp only[Nat.reduceSub,Nat.reducePow,reduceIte,Nat.reduceEqDiff]at hpg hgl⊢;rw[←hpg];exact A6e (by unfold B0q;omega)
 ·simp only[Nat.reduceSub,Nat.reducePow,reduceIte,Nat.reduceEqDiff]at hpg hgl⊢;rw[←hpg,show A2p (v:Int) 2=((v:Int)+32768)%65536-32768 from rfl];exact A6e (by unfold B0q;omega)
 ·simp only[Nat.reduceSub,Nat.reducePow,reduceIte,Nat.reduceEqDiff]at hpg hgl⊢;rw[←hpg,show A2p (v:Int) 1=((v:Int)+128)%256-128 from rfl,B1f v 1];congr 1
  ·exact A6e (by unfold B0q;omega)
  ·rw[B1f _ 0];simp[A6t];congr 1;unfold B0q;omega
 ·simp only[Nat.reduceSub,Nat.reducePow,reduceIte,Nat.reduceEqDiff]at hpg hgl⊢;rw[←hpg];exact A6e (by unfold B0q;omega)
theorem D4g(bs:List UInt8)(p f:Nat)(hs:A2m f≤2):A2d bs p f<256:=by
 have h:=A1x bs ((p:Int)+1) ((max (A2m f-1) 1:Nat):Int) 1 (by omega) (by decide);rw[show((256^1:Nat):Int)=256 from rfl]at h;exact h
theorem D2q(bs:List UInt8)(p:Nat)(h0:A0q (A3u bs p)≠0)(hb:A2b bs p (A0q (A3u bs p))=false):A2j (A7q bs p) (A0q (A3u bs p))=true:=by
 have h9:=A4j (A3u bs p);have hv:=B0v bs p (A0q (A3u bs p));have h1:=D4g bs p (A0q (A3u bs p));unfold A7q A2j;simp only;generalize A0q (A3u bs p)=f at*
 have hfc:f=1∨f=2∨f=3∨f=4∨f=5∨f=6∨f=7∨f=8∨f=9:=by omega
 unfold A2b at hb;unfold A1s at hb⊢;unfold A2f
 rcases hfc with rfl|rfl|rfl|rfl|rfl|rfl|rfl|rfl|rfl
 ·simp
 ·have h2:=h1 (by decide);simp;omega
 ·have h2:=B2s (A2d bs p 3);simp;omega
 ·have h2:=B5e (A2d bs p 4);simp;omega
 ·have h2:=h1 (by decide);simp;omega
 ·simp;omega
 ·simp
 ·have h2:=B2s (A2d bs p 8);simp;omega
 ·simp at hb⊢;by_cases h8:A2d bs p 9=8
  ·exact .inl h8
  ·exact .inr (hb h8)
theorem C1x(l:List RW)(r:RW)(k:Nat)(h:k<l.length):A5c (l++[r]) k=A5c l k:=by
 unfold A5c;rw[List.getElem?_append_left h,List.take_append_of_le_length (by omega)]
theorem D2c(bs:List UInt8):∀(fuel p:Nat) (acc l:List RW),bs.length<fuel+p→p≤bs.length→A9d acc=bs.take p→(∀k,k<acc.length→A5c acc k=true)→A9b bs fuel p acc=(0,l)→A9d l=bs∧∀k,k<l.length→A5c l k=true:=by
 intro fuel
 induction fuel with
 |zero=>intro p acc l h1 h2;omega
 |succ fuel ih=>
  intro p acc l h1 h2 he hg hd;by_cases hp:bs.length≤p
  ·rw[B3w bs _ p acc hp]at hd
   cases hd
   exact⟨by rw[he,List.take_of_length_le hp],hg⟩
  ·have hpl:p<bs.length:=by omega
   by_cases h0:A0q (A3u bs p)=0
   ·rw[B2a bs fuel p acc hpl h0]at hd;cases hd
   by_cases hs:bs.length-p<A2m (A0q (A3u bs p))
   ·rw[A9w bs fuel p acc hpl h0 hs]at hd;cases hd
   cases hb:A2b bs p (A0q (A3u bs p))
   ·rw[B1q bs fuel p acc hpl h0 hs hb]at hd;have hsp:=A9s h0 (A4j (A3u bs p));refine ih _ _ _ (by omega) (by omega) ?_ (fun k hk=> ?_) hd
    ·unfold A9d at he⊢;rw[List.flatMap_append,he];simp only[List.flatMap_cons,List.flatMap_nil,List.append_nil];rw[D7f bs p h0 (by omega),←List.take_add]
    ·by_cases hk2:k<acc.length
     ·rw[C1x _ _ _ hk2];exact hg k hk2
     ·have hke:k=acc.length:=by simp at hk;omega
      subst hke;rw[B4m (acc++[A7q bs p]) acc.length (A7q bs p) (by simp),List.take_left,he];have h3:=D2q bs p h0 hb;have h4:(A7q bs p).op=A3u bs p:=rfl;rw[h4,h3]
      unfold A7q;simp;omega
   ·rw[B3y bs fuel p acc hpl h0 hs hb]at hd;cases hd
theorem B8c(bs:List UInt8)(l:List RW)(h:A1g bs=(0,l)):A4b l=(0,bs):=by
 unfold A1g at h;by_cases h4:4096<bs.length
 ·rw[if_pos h4]at h;cases h
 rw[if_neg h4]at h;by_cases he:(A9b bs (bs.length+1) 0 []).1≠0
 ·rw[if_pos he]at h;simp only[Prod.mk.injEq]at h;exact absurd h.1 he
 rw[if_neg he]at h
 cases hg:A7y (A9b bs (bs.length+1) 0 []).2
 ·rw[hg,if_neg (by decide)]at h;cases h
 rw[hg,if_pos rfl]at h;simp only[Prod.mk.injEq,true_and]at h
 have hd:A9b bs (bs.length+1) 0 []=(0,l):=by
  rw[←h];have:(A9b bs (bs.length+1) 0 []).1=0:=by simpa using he
  exact Prod.ext this rfl
 obtain⟨h5,h6⟩:=D2c bs (bs.length+1) 0 [] l (by omega) (by omega) rfl (fun k hk=>by simp at hk) hd;rw[B9e h6 (by rw[←h];exact hg) (by rw[h5];exact h4),h5]
theorem C8w(bs:List UInt8):∀(fuel p:Nat) (acc:List RW),acc.length≤p→p≤bs.length→(A9b bs fuel p acc).2.length≤bs.length:=by
 intro fuel
 induction fuel with
 |zero=>intro p acc h1 h2;show acc.length≤_;omega
 |succ fuel ih=>
  intro p acc h1 h2;by_cases hp:bs.length≤p
  ·rw[B3w bs _ p acc hp];show acc.length≤_;omega
  ·have hpl:p<bs.length:=by omega
   by_cases h0:A0q (A3u bs p)=0
   ·rw[B2a bs fuel p acc hpl h0];exact Nat.zero_le _
   by_cases hs:bs.length-p<A2m (A0q (A3u bs p))
   ·rw[A9w bs fuel p acc hpl h0 hs];exact Nat.zero_le _
   cases hb:A2b bs p (A0q (A3u bs p))
   ·rw[B1q bs fuel p acc hpl h0 hs hb];have hsp:=A9s h0 (A4j (A3u bs p));exact ih _ _ (by simp;omega) (by omega)
   ·rw[B3y bs fuel p acc hpl h0 hs hb];exact Nat.zero_le _
theorem C0v(bs:List UInt8):(A1g bs).2.length≤bs.length:=by
 unfold A1g;by_cases h4:4096<bs.length
 ·rw[if_pos h4];exact Nat.zero_le _
 rw[if_neg h4];by_cases he:(A9b bs (bs.length+1) 0 []).1≠0
 ·rw[if_pos he];exact Nat.zero_le _
 rw[if_neg he];by_cases hg:A7y (A9b bs (bs.length+1) 0 []).2=true
 ·rw[if_pos hg];exact C8w bs _ 0 [] (Nat.zero_le _) (Nat.zero_le _)
 ·rw[if_neg hg];exact Nat.zero_le _
theorem C7k(pre suf:List RW):A9d (pre++suf)=A9d pre++A9d suf:=by unfold A9d;rw[List.flatMap_append]
theorem C8a(r:RW):A2j r 0=false:=by unfold A2j;simp
theorem D6w(l:List RW):l.length≤(A9d l).length:=by
 induction l with
 |nil=>exact Nat.zero_le _
 |cons r l ih=>
  rw[show A9d (r::l)=A6j r++A9d l from rfl,List.length_append];have:1≤(A6j r).length:=by unfold A6j;simp
  simp only[List.length_cons];omega
end
section
open Go.ChangeShapes Go.WideShapes Go.ChangeAt Go.RowKit
theorem B7w(p:Int):∀(L:List RW) (i:Nat) (acc:Option Nat),(∀r∈L,r.pos≠p)→ixF p L i acc=acc
 |[],i,acc,_=>rfl
 |r::L,i,acc,h=>by
  rw[ixF,if_neg (h r List.mem_cons_self)];exact B7w p L (i+1) acc (fun x hx=>h x (List.mem_cons_of_mem _ hx))
theorem D5p(p:Int):∀(L:List RW) (i k:Nat) (acc:Option Nat) (r:RW),L[k]? =some r→r.pos=p→(∀(j:Nat) r',k<j→L[j]? =some r'→r'.pos≠p)→ixF p L i acc=some (i+k)
 |[],i,k,acc,r,h,_,_=>by simp at h
 |q::L,i,0,acc,r,h,hr,hn=>by
  simp at h;subst h;rw[ixF,if_pos hr];refine B7w p L (i+1) _ (fun x hx=> ?_);obtain⟨j,hj⟩:=List.getElem?_of_mem hx;exact hn (j+1) x (by omega) (by rw[List.getElem?_cons_succ];exact hj)
 |q::L,i,k+1,acc,r,h,hr,hn=>by
  rw[List.getElem?_cons_succ]at h;rw[ixF,D5p p L (i+1) k _ r h hr (fun j r' hj hr'=>hn (j+1) r' (by omega) (by rw[List.getElem?_cons_succ];exact hr'))];congr 1;omega
def C0j(L:List RW):Prop:=∀(i j:Nat) r q,L[i]? =some r→L[j]? =some q→r.pos=q.pos→i=j
theorem C0j.first{L:List RW}(h:C0j L)(p:Int):(∃k:Nat,k<L.length∧A5q L p=(k:Nat)∧B5t L p=some k)∨(A5q L p= -1∧B5t L p=none):=by
 rcases Classical.em (∃(k:Nat) (r:RW),L[k]? =some r∧r.pos=p)with⟨k,r,hr,hp⟩|hn
 ·refine .inl ⟨k,(List.getElem?_eq_some_iff.1 hr).1,B8s hr hp (fun j q hj hq e=> ?_),?_⟩
  ·have:=h j k q r hq hr (by rw[e,hp]);omega
  ·have h1:=D5p p L 0 k none r hr hp (fun j q hj hq e=>by
    have:=h j k q r hq hr (by rw[e,hp]);omega)
   rw[Nat.zero_add]at h1;exact h1
 ·exact .inr ⟨B9i (fun k r hr e=>hn ⟨k,r,hr,e⟩),B7w p L 0 none (fun r hr e=>by
   obtain⟨k,hk⟩:=List.getElem?_of_mem hr;exact hn ⟨k,r,hk,e⟩)⟩
def E1b(L:List RW)(r:RW):Prop:=A0q r.op=7→A5q L r.a=(((B5t L r.a).getD 0:Nat):Int)
theorem A6u{bs:List UInt8}{L:List RW}(h:A1g bs=(0,L)):(∀(k:Nat) r,L[k]? =some r→r.pos=((A9d (L.take k)).length:Nat)∧A2j r (A0q r.op)=true)∧A7y L=true∧A9d L=bs∧bs.length≤4096:=by
 have he:=B8c bs L h;unfold A4b at he;split at he
 ·cases he
 ·next h1=>
  split at he
  ·cases he
  ·next h2=>
   split at he
   ·cases he
   ·next h3=>
    have h4:A9d L=bs:=(Prod.mk.inj he).2;refine⟨fun k r hr=> ?_,by simpa using h2,h4,by rw[←h4];omega⟩;have hk:=(List.getElem?_eq_some_iff.1 hr).1
    have h5:(List.range L.length).all (A5c L)=true:=by simpa using h1
    have h6:=List.all_eq_true.1 h5 k (List.mem_range.2 hk);rw[B4m L k r hr]at h6;simp only[Bool.and_eq_true,decide_eq_true_eq]at h6;exact⟨h6.2,h6.1⟩
theorem D1s{bs:List UInt8}{L:List RW}(h:A1g bs=(0,L)):∀r∈L,A0q r.op≠0:=by
 intro r hr h0;obtain⟨k,hk⟩:=List.getElem?_of_mem hr;have h1:=((A6u h).1 k r hk).2;rw[h0,C8a]at h1
 cases h1
theorem B2t(L:List RW):∀(d i:Nat),i+d+1≤L.length→(A9d (L.take i)).length<(A9d (L.take (i+d+1))).length
 |0,i,h=>by
  have hr:L[i]? =some L[i]:=List.getElem?_eq_getElem (by omega);rw[Nat.add_zero,B5k L i _ hr,List.length_append];have:1≤(A6j L[i]).length:=by unfold A6j;simp
  omega
 |d+1,i,h=>by
  have h1:=B2t L d i (by omega);have hr:L[i+d+1]? =some L[i+d+1]:=List.getElem?_eq_getElem (by omega)
  rw[show i+(d+1)+1=(i+d+1)+1 by omega,B5k L (i+d+1) _ hr,List.length_append];omega
theorem C8r{bs:List UInt8}{L:List RW}(h:A1g bs=(0,L)):C0j L:=by
 intro i j r q hr hq e;have h1:=((A6u h).1 i r hr).1;have h2:=((A6u h).1 j q hq).1;have hi:=(List.getElem?_eq_some_iff.1 hr).1;have hj:=(List.getElem?_eq_some_iff.1 hq).1
 rcases Nat.lt_trichotomy i j with h3|h3|h3
 ·have:=B2t L (j-i-1) i (by omega);rw[show i+(j-i-1)+1=j by omega]at this;omega
 ·exact h3
 ·have:=B2t L (i-j-1) j (by omega);rw[show j+(i-j-1)+1=i by omega]at this;omega
theorem D8m{bs:List UInt8}{L:List RW}(h:A1g bs=(0,L)):∀r∈L,E1b L r:=by
 intro r hr h7;have hg:=(A6u h).2.1;unfold A7y at hg;have h2:=List.all_eq_true.1 hg r hr;rw[h7]at h2;simp only[beq_self_eq_true,Bool.not_true,Bool.false_or]at h2;unfold thereB at h2
 obtain⟨q,hq,h3⟩:=List.any_eq_true.1 h2
 rcases(C8r h).first r.a with⟨k,_,h4,h5⟩|⟨h4,h5⟩
 ·rw[h4,h5];rfl
 ·obtain⟨k,hk⟩:=List.getElem?_of_mem hq;exfalso
  have h6:A5q L r.a≠-1:=by
   intro e;unfold A5q at e
   cases hx:L.findIdx? (fun r'=>r'.pos==r.a)with
   |some i=>rw[hx]at e;simp only at e;omega
   |none=>
    have:=List.findIdx?_eq_none_iff.1 hx q hq;rw[h3]at this
    cases this
  exact h6 h4
structure RiS(w wx:World)(a:Option Addr)(n:Nat)(K:List KV)(la:Option Addr)(ln:Nat)(L:List RW)(r:RW)(x:IN):Prop where
 r:wx.heap[w.heap.size]? =some (.cells r.cells.toArray 118 (0,0))
 z:A3w (w.heap.size+1) ⟨0,0,0,[],[],[],[]⟩ wx
 x:A3w (w.heap.size+1+1) x wx
 k:Ks wx a n K
 l:Rs wx la ln L
 b:Below w.heap.size w wx
theorem RiS.below{w wx w9:World}{a:Option Addr}{n:Nat}{K:List KV}{la:Option Addr}{ln:Nat}{L:List RW}{r:RW}{x:IN}(h:RiS w wx a n K la ln L r x)(hb:Below wx.heap.size wx w9):RiS w w9 a n K la ln L r x:=
 ⟨A0c h.r hb,h.z.below hb,h.x.below hb,h.k.below hb,h.l.below hb,h.b.trans (hb.mono h.b.size)⟩
theorem RiS.put{w wx:World}{a:Option Addr}{n:Nat}{K:List KV}{la:Option Addr}{ln:Nat}{L:List RW}{r:RW}{x x':IN}(h:RiS w wx a n K la ln L r x)(hK:Ks w a n K)(hL:Rs w la ln L)(o:Nat)(v:Value)(hi:A3w (w.heap.size+1+1) x' (wx.setCell ⟨w.heap.size+1+1,o,none⟩ v)):RiS w (wx.setCell ⟨w.heap.size+1+1,o,none⟩ v) a n K la ln L r x':=by
 have hb:Below w.heap.size w (wx.setCell ⟨w.heap.size+1+1,o,none⟩ v):=h.b.setCell (show w.heap.size≤w.heap.size+1+1 by omega) v
 exact⟨A1c h.r (by omega) o v,A1c h.z (by omega) o v,hi,hK.below hb,hL.below hb,hb⟩
theorem RiS.done{w wx:World}{a:Option Addr}{n:Nat}{K:List KV}{la:Option Addr}{ln:Nat}{L:List RW}{r:RW}{x:IN}(h:RiS w wx a n K la ln L r x)(cs:Array Value):Below w.heap.size w (wx.setRow (w.heap.size+1) cs):=
 (A0j.setrow (A0j.refl (fun k=>k=w.heap.size+1) wx) (.inl rfl) cs).below h.b (Nat.le_refl _) (fun k hk=>by omega)
def QI(s b o:Nat)(r:RW)(v:Int)(w:World):Prop:=w.heap[s]? =some (.cells r.cells.toArray 118 (0,0))∧w.cell? ⟨b,o,none⟩=some (.int .i64 v)
theorem D8u{K:List KV}{r:RW}(h5:A0q r.op=5)(hop:r.op<256):r.op≠20:=by
 intro e;rw[e]at h5;revert h5;decide
theorem D8x{K:List KV}{r:RW}(h20:r.op≠20)(h3:(kAt K r.a.toNat).tag=3):B0n K (A3y r) r.a.toNat={A3y r with ds:=[73],n:=(kAt K r.a.toNat).n}∧B1d (B0n K (A3y r) r.a.toNat)=true:=by
 have e:B0n K (A3y r) r.a.toNat={A3y r with ds:=[73],n:=(kAt K r.a.toNat).n}:=by
  unfold B0n;rw[if_pos h3]
 refine⟨e,?_⟩;rw[e];simp[B1d,A3y,h20]
theorem D9x{K:List KV}{r:RW}(h20:r.op≠20)(h8:(kAt K r.a.toNat).tag=8):B0n K (A3y r) r.a.toNat={A3y r with ds:=[83],tx:=A1p K (kAt K r.a.toNat).a}∧B1d (B0n K (A3y r) r.a.toNat)=true:=by
 have e:B0n K (A3y r) r.a.toNat={A3y r with ds:=[83],tx:=A1p K (kAt K r.a.toNat).a}:=by
  unfold B0n;rw[if_neg (by omega),if_neg (by omega),if_pos h8]
 refine⟨e,?_⟩;rw[e];simp[B1d,A3y,h20]
theorem D5b{K:List KV}{r:RW}(h20:r.op≠20)(h3:(kAt K r.a.toNat).tag≠3)(h8:(kAt K r.a.toNat).tag≠8):B1d (B0n K (A3y r) r.a.toNat)=false:=by
 unfold B0n;rw[if_neg h3];by_cases h5:(kAt K r.a.toNat).tag=5
 ·rw[if_pos h5];simp[B1d,A3y,h20]
 ·rw[if_neg h5,if_neg h8];simp[B1d,A3y]
def D6u(K:List KV):Prop:=∀i:Int,(kAt K i).tag=8→isT K (kAt K i).a 1=true
theorem D4b(w:World)(a:Option Addr)(n cap:Nat)(K:List KV)(la:Option Addr)(ln lc:Nat)(L:List RW)(r:RW)(hs:Ks w a n K)(hn:n≤65536)(htx:∀i:Int,(kAt K i).s.length≤65536)(hst:D6u K)(hl:Rs w la ln L)(hln:ln≤65536)(hix:E1b L r)(hop:r.op<256)(hf0:A0q r.op≠0)(hra:A0q r.op=5∨A0q r.op=6→0≤r.a∧r.a<1048576):
  Calls Tryz.prog 67 #[.slice a n cap,.slice la ln lc,.agg #[.int .i64 r.pos,.int .u8 (r.op:Nat),.int .i64 r.a,.int .i64 r.b]] w (C9c (B3r K L r) (C6j K r) w):=by
 have HKS:=Lib.hid hs;have HLS:=Lib.hid hl;have HNN:=Lib.hid hn;have HLN:=Lib.hid hln;have HTX:=Lib.hid htx;have HST:=Lib.hid hst;have HIX:=Lib.hid hix;have HRA:=Lib.hid hra
 have HOP:=Lib.hid hop;have HFM:=Lib.hid (fun w=>A8k w r.op hop);have h9:=A4j r.op
 have hb0:Below w.heap.size w (((w.alloc (.cells #[.int .i64 r.pos,.int .u8 (r.op:Nat),.int .i64 r.a,.int .i64 r.b] 118)).alloc (.cells #[.int .u8 0,.int .i64 0,.int .i64 0,.string ⟨#[]⟩,.string ⟨#[]⟩,.string ⟨#[]⟩,.string ⟨#[]⟩] A1f)).alloc (.cells #[.int .u8 (r.op:Nat),.int .i64 0,.int .i64 0,.string ⟨#[]⟩,.string ⟨#[]⟩,.string ⟨#[]⟩,.string ⟨#[]⟩] A1f)):=(((Below.refl w.heap.size w).alloc (Nat.le_refl _) _).alloc (by simp) _).alloc (by simp;omega) _
 have HS0:=Lib.hid (show RiS w (((w.alloc (.cells #[.int .i64 r.pos,.int .u8 (r.op:Nat),.int .i64 r.a,.int .i64 r.b] 118)).alloc (.cells #[.int .u8 0,.int .i64 0,.int .i64 0,.string ⟨#[]⟩,.string ⟨#[]⟩,.string ⟨#[]⟩,.string ⟨#[]⟩] A1f)).alloc (.cells #[.int .u8 (r.op:Nat),.int .i64 0,.int .i64 0,.string ⟨#[]⟩,.string ⟨#[]⟩,.string ⟨#[]⟩,.string ⟨#[]⟩] A1f)) a n K la ln L r (A3y r)from⟨by
  rw[Below.heap_alloc _ _ _ (by simp;omega),Below.heap_alloc _ _ _ (by simp)];exact heap_alloc_last w _,by
  unfold A3w;rw[Below.heap_alloc _ _ _ (by simp)]
  have h:=heap_alloc_last (w.alloc (.cells #[.int .i64 r.pos,.int .u8 (r.op:Nat),.int .i64 r.a,.int .i64 r.b] 118)) (.cells #[.int .u8 0,.int .i64 0,.int .i64 0,.string ⟨#[]⟩,.string ⟨#[]⟩,.string ⟨#[]⟩,.string ⟨#[]⟩] A1f)
  have h2:((w.alloc (.cells #[.int .i64 r.pos,.int .u8 (r.op:Nat),.int .i64 r.a,.int .i64 r.b] 118)).alloc (.cells #[.int .u8 0,.int .i64 0,.int .i64 0,.string ⟨#[]⟩,.string ⟨#[]⟩,.string ⟨#[]⟩,.string ⟨#[]⟩] A1f)).heap[w.heap.size+1]? =some (.cells #[.int .u8 0,.int .i64 0,.int .i64 0,.string ⟨#[]⟩,.string ⟨#[]⟩,.string ⟨#[]⟩,.string ⟨#[]⟩] A1f):=by simpa using h
  exact h2,by
  have h:=heap_alloc_last ((w.alloc (.cells #[.int .i64 r.pos,.int .u8 (r.op:Nat),.int .i64 r.a,.int .i64 r.b] 118)).alloc (.cells #[.int .u8 0,.int .i64 0,.int .i64 0,.string ⟨#[]⟩,.string ⟨#[]⟩,.string ⟨#[]⟩,.string ⟨#[]⟩] A1f)) (.cells #[.int .u8 (r.op:Nat),.int .i64 0,.int .i64 0,.string ⟨#[]⟩,.string ⟨#[]⟩,.string ⟨#[]⟩,.string ⟨#[]⟩] A1f)
  have h2:(((w.alloc (.cells #[.int .i64 r.pos,.int .u8 (r.op:Nat),.int .i64 r.a,.int .i64 r.b] 118)).alloc (.cells #[.int .u8 0,.int .i64 0,.int .i64 0,.string ⟨#[]⟩,.string ⟨#[]⟩,.string ⟨#[]⟩,.string ⟨#[]⟩] A1f)).alloc (.cells #[.int .u8 (r.op:Nat),.int .i64 0,.int .i64 0,.string ⟨#[]⟩,.string ⟨#[]⟩,.string ⟨#[]⟩,.string ⟨#[]⟩] A1f)).heap[w.heap.size+1+1]? =some (.cells #[.int .u8 (r.op:Nat),.int .i64 0,.int .i64 0,.string ⟨#[]⟩,.string ⟨#[]⟩,.string ⟨#[]⟩,.string ⟨#[]⟩] A1f):=by simpa using h
  exact h2,hs.below hb0,hl.below hb0,hb0⟩)
 obtain⟨V,hV⟩:∃V,V=B3r K L r:=⟨_,rfl⟩;obtain⟨C,hC⟩:∃C,C=C6j K r:=⟨_,rfl⟩;rw[←hV,←hC];have HV:=hV;have HC:=hC;unfold B3r at HV;unfold C6j at HC
 obtain⟨f,hf⟩:∃f,f=A0q r.op:=⟨_,rfl⟩;have HFF:=Lib.hid hf;rw[←hf]at HV HC hf0 HFM h9;have hfc:f=1∨f=2∨f=3∨f=4∨f=9∨f=8∨f=7∨f=5∨f=6:=by omega
 replace HV:=Lib.hid HV;replace HC:=Lib.hid HC;clear hs hl hn hln htx hst hix hra hb0 hV hC hf hf0 h9 hop;go_enter Tryz.func67,Tryz.ntmps67
 go_upto_region 2 with fail
 generalize((w.alloc (.cells #[.int .i64 r.pos,.int .u8 (r.op:Nat),.int .i64 r.a,.int .i64 r.b] 118)).alloc (.cells #[.int .u8 0,.int .i64 0,.int .i64 0,.string ⟨#[]⟩,.string ⟨#[]⟩,.string ⟨#[]⟩,.string ⟨#[]⟩] A1f)).alloc (.cells #[.int .u8 (r.op:Nat),.int .i64 0,.int .i64 0,.string ⟨#[]⟩,.string ⟨#[]⟩,.string ⟨#[]⟩,.string ⟨#[]⟩] A1f)=W at*
 have r1:=A0a HS0.out.r 1 rfl;dsimp only[RW.cells]at r1
 go_wp2_with fail
 refine(HFM.out W).mono ?_;rintro e w1 ⟨rfl,hw1⟩;obtain rfl:W=w1:=Eq.symm (Eq.symm hw1);obtain⟨i0,i1,i2,i3,i4,i5,i6,f1,f2,f3,f4,f5,f6⟩:=HS0.out.x.box;have r2:=A0a HS0.out.r 2 rfl
 have r3:=A0a HS0.out.r 3 rfl;have r0:=A0a HS0.out.r 0 rfl;dsimp only[RW.cells,A3y]at r0 r2 r3 i0 i1 i2 i3 i4 i5 i6;clear HFM
 rcases hfc with rfl|rfl|rfl|rfl|rfl|rfl|rfl|rfl|rfl
 ·have HVV:=Lib.hid (show V={A3y r with n:=r.a}from HV.out);have HCC:=Lib.hid (show C=true from HC.out);clear HV HC HIX HRA HST
  have HS1:=Lib.hid (HS0.out.put HKS.out HLS.out 1 _ (HS0.out.x.set1 r.a))
  go_upto_region 9 with fail
  refine wp_region_lit ?_;refine A0h rfl _ _ rfl _ rfl _ _ _ _ HS1.out.x Tryz.underlying54 rfl A0n ?_;refine wpList_store_row rfl _ _ _ rfl _ _ rfl rfl _ _ HS1.out.z A0n rfl (A9a _) ?_
  go_wp2_with fail
  refine bodyPost_ret (A0d rfl _ _ (w.heap.size+1) A1f (IN.cells _).toArray (0,0) _ rfl (setRow_heap _ _ _ _ _ _ HS1.out.z) Tryz.underlying54 rfl A0n) rfl ?_
  exact⟨_,_,rfl,HCC.out.symm,(fun _=>HVV.out.symm),HS1.out.done _⟩
 ·have HVV:=Lib.hid (show V={A3y r with n:=r.a}from HV.out);have HCC:=Lib.hid (show C=true from HC.out);clear HV HC HIX HRA HST
  have HS1:=Lib.hid (HS0.out.put HKS.out HLS.out 1 _ (HS0.out.x.set1 r.a))
  go_upto_region 9 with fail
  refine wp_region_lit ?_;refine A0h rfl _ _ rfl _ rfl _ _ _ _ HS1.out.x Tryz.underlying54 rfl A0n ?_;refine wpList_store_row rfl _ _ _ rfl _ _ rfl rfl _ _ HS1.out.z A0n rfl (A9a _) ?_
  go_wp2_with fail
  refine bodyPost_ret (A0d rfl _ _ (w.heap.size+1) A1f (IN.cells _).toArray (0,0) _ rfl (setRow_heap _ _ _ _ _ _ HS1.out.z) Tryz.underlying54 rfl A0n) rfl ?_
  exact⟨_,_,rfl,HCC.out.symm,(fun _=>HVV.out.symm),HS1.out.done _⟩
 ·have HVV:=Lib.hid (show V={A3y r with n:=r.a}from HV.out);have HCC:=Lib.hid (show C=true from HC.out);clear HV HC HIX HRA HST
  have HS1:=Lib.hid (HS0.out.put HKS.out HLS.out 1 _ (HS0.out.x.set1 r.a))
  go_upto_region 9 with fail
  refine wp_region_lit ?_;refine A0h rfl _ _ rfl _ rfl _ _ _ _ HS1.out.x Tryz.underlying54 rfl A0n ?_;refine wpList_store_row rfl _ _ _ rfl _ _ rfl rfl _ _ HS1.out.z A0n rfl (A9a _) ?_
  go_wp2_with fail
  refine bodyPost_ret (A0d rfl _ _ (w.heap.size+1) A1f (IN.cells _).toArray (0,0) _ rfl (setRow_heap _ _ _ _ _ _ HS1.out.z) Tryz.underlying54 rfl A0n) rfl ?_
  exact⟨_,_,rfl,HCC.out.symm,(fun _=>HVV.out.symm),HS1.out.done _⟩
 ·have HVV:=Lib.hid (show V={A3y r with n:=r.a}from HV.out);have HCC:=Lib.hid (show C=true from HC.out);clear HV HC HIX HRA HST
  have HS1:=Lib.hid (HS0.out.put HKS.out HLS.out 1 _ (HS0.out.x.set1 r.a))
  go_upto_region 9 with fail
  refine wp_region_lit ?_;refine A0h rfl _ _ rfl _ rfl _ _ _ _ HS1.out.x Tryz.underlying54 rfl A0n ?_;refine wpList_store_row rfl _ _ _ rfl _ _ rfl rfl _ _ HS1.out.z A0n rfl (A9a _) ?_
  go_wp2_with fail
  refine bodyPost_ret (A0d rfl _ _ (w.heap.size+1) A1f (IN.cells _).toArray (0,0) _ rfl (setRow_heap _ _ _ _ _ _ HS1.out.z) Tryz.underlying54 rfl A0n) rfl ?_
  exact⟨_,_,rfl,HCC.out.symm,(fun _=>HVV.out.symm),HS1.out.done _⟩
 ·have HVV:=Lib.hid (show V={A3y r with n:=r.a}from HV.out);have HCC:=Lib.hid (show C=true from HC.out);clear HV HC HIX HRA HST
  have HS1:=Lib.hid (HS0.out.put HKS.out HLS.out 1 _ (HS0.out.x.set1 r.a))
  go_upto_region 9 with fail
  refine wp_region_lit ?_;refine A0h rfl _ _ rfl _ rfl _ _ _ _ HS1.out.x Tryz.underlying54 rfl A0n ?_;refine wpList_store_row rfl _ _ _ rfl _ _ rfl rfl _ _ HS1.out.z A0n rfl (A9a _) ?_
  go_wp2_with fail
  refine bodyPost_ret (A0d rfl _ _ (w.heap.size+1) A1f (IN.cells _).toArray (0,0) _ rfl (setRow_heap _ _ _ _ _ _ HS1.out.z) Tryz.underlying54 rfl A0n) rfl ?_
  exact⟨_,_,rfl,HCC.out.symm,(fun _=>HVV.out.symm),HS1.out.done _⟩
 ·have HVV:=Lib.hid (show V={A3y r with n:=r.a,m:=r.b}from HV.out);have HCC:=Lib.hid (show C=true from HC.out);clear HV HC HIX HRA HST i0 i3 r0 r1
  go_upto_region 11 with fail
  have ld2:∀w':World,w'.heap[w.heap.size]? =some (.cells r.cells.toArray 118 (0,0))→w'.cell? ⟨w.heap.size,2,none⟩=some (.int .i64 r.a):=fun w' h=>A0a h 2 rfl
  have ld3:∀w':World,w'.heap[w.heap.size]? =some (.cells r.cells.toArray 118 (0,0))→w'.cell? ⟨w.heap.size,3,none⟩=some (.int .i64 r.b):=fun w' h=>A0a h 3 rfl
  have HID:=Lib.hid (HS0.out.below ((Below.refl _ _).drew));have hSw:W.drew.heap[w.heap.size]? =some (.cells r.cells.toArray 118 (0,0)):=HID.out.r
  have fd1:W.drew.frozen? ⟨w.heap.size+1+1,1,none⟩=false:=HID.out.x.box.f1
  refine A0g (fun wx=>wx.heap[w.heap.size]? =some (.cells r.cells.toArray 118 (0,0))) (.of [(0,true),(1,true),(2,true),(3,true),(4,true),(5,false),(6,true),(7,false)] (.stir [])) (by kernel_rfl) (by kernel_rfl) (fun c a d v w h=>by cases d<;>exact h) ?_
  iterate 5
   refine A0b fun K hK=>tkF ?_
   go_simp
   try go_bits
   refine hK _ _ ?_;clear hK K
  have HI2:=Lib.hid (HID.out.put HKS.out HLS.out 1 _ (HID.out.x.set1 r.a));refine A0b fun K hK=>alF ?_
  go_step;have hS2:(W.drew.setCell ⟨w.heap.size+1+1,1,none⟩ (.int .i64 r.a)).heap[w.heap.size]? =some (.cells r.cells.toArray 118 (0,0)):=HI2.out.r;refine⟨hS2,hK _ _ ?_⟩;clear hK K hSw fd1 HID
  have hSw:=hS2;clear hS2;have fd2:(W.drew.setCell ⟨w.heap.size+1+1,1,none⟩ (.int .i64 r.a)).frozen? ⟨w.heap.size+1+1,2,none⟩=false:=HI2.out.x.box.f2
  iterate 1
   refine A0b fun K hK=>tkF ?_
   go_simp
   try go_bits
   refine hK _ _ ?_;clear hK K
  have HS1:=Lib.hid (HI2.out.put HKS.out HLS.out 2 _ (HI2.out.x.set2 r.b));refine A0b fun K hK=>alF ?_
  go_step
  have hS3:((W.drew.setCell ⟨w.heap.size+1+1,1,none⟩ (.int .i64 r.a)).setCell ⟨w.heap.size+1+1,2,none⟩ (.int .i64 r.b)).heap[w.heap.size]? =some (.cells r.cells.toArray 118 (0,0)):=HS1.out.r
  refine⟨hS3,hK _ _ ?_⟩;clear hK K hSw fd2 HI2
  refine A0m (fun y=>y=(W.drew.setCell ⟨w.heap.size+1+1,1,none⟩ (.int .i64 r.a)).setCell ⟨w.heap.size+1+1,2,none⟩ (.int .i64 r.b)) (fun y hy=>hy▸hS3) rfl ?_
  refine A0p (fun y hy=> ?_);subst hy;clear hS3 ld2 ld3
  go_upto_region 12 with fail
  refine wp_region_lit ?_;refine A0h rfl _ _ rfl _ rfl _ _ _ _ HS1.out.x Tryz.underlying54 rfl A0n ?_;refine wpList_store_row rfl _ _ _ rfl _ _ rfl rfl _ _ HS1.out.z A0n rfl (A9a _) ?_
  go_wp2_with fail
  refine bodyPost_ret (A0d rfl _ _ (w.heap.size+1) A1f (IN.cells _).toArray (0,0) _ rfl (setRow_heap _ _ _ _ _ _ HS1.out.z) Tryz.underlying54 rfl A0n) rfl ?_
  exact⟨_,_,rfl,HCC.out.symm,(fun _=>HVV.out.symm),HS1.out.done _⟩
 ·have HVV:=Lib.hid (show V={A3y r with n:=(((B5t L r.a).getD 0:Nat):Int)}from HV.out);have HCC:=Lib.hid (show C=true from HC.out)
  have HI:=Lib.hid (A7z W la ln lc L r.a HS0.out.l HLN.out);have HX7:=Lib.hid (HIX.out (by rw[←HFF.out]));rw[HX7.out]at HI;clear HV HC HIX HRA HST HX7
  generalize(((B5t L r.a).getD 0:Nat):Int)=ix at*
  go_upto_region 14 with fail
  go_wp2_with fail
  refine HI.out.mono ?_;rintro e w9 ⟨rfl,hb⟩;have HS1:=Lib.hid (HS0.out.below hb);clear hb HI HS0 i0 i1 i2 i3 i4 i5 i6 f1 f2 f3 f4 f5 f6 r0 r1 r2 r3
  obtain⟨i0,i1,i2,i3,i4,i5,i6,f1,f2,f3,f4,f5,f6⟩:=HS1.out.x.box;dsimp only[A3y]at i0 i1 i2 i3 i4 i5 i6;have HS2:=Lib.hid (HS1.out.put HKS.out HLS.out 1 _ (HS1.out.x.set1 ix))
  go_upto_region 15 with fail
  refine wp_region_lit ?_;refine A0h rfl _ _ rfl _ rfl _ _ _ _ HS2.out.x Tryz.underlying54 rfl A0n ?_;refine wpList_store_row rfl _ _ _ rfl _ _ rfl rfl _ _ HS2.out.z A0n rfl (A9a _) ?_
  go_wp2_with fail
  refine bodyPost_ret (A0d rfl _ _ (w.heap.size+1) A1f (IN.cells _).toArray (0,0) _ rfl (setRow_heap _ _ _ _ _ _ HS2.out.z) Tryz.underlying54 rfl A0n) rfl ?_
  exact⟨_,_,rfl,HCC.out.symm,(fun _=>HVV.out.symm),HS2.out.done _⟩
 ·have h20:r.op≠20:=D8u (K:=K) HFF.out.symm HOP.out;have HVV0:=Lib.hid (show V=B0n K (A3y r) r.a.toNat from HV.out);have HCC0:=Lib.hid (show C=B1d (B0n K (A3y r) r.a.toNat)from HC.out)
  obtain⟨ra0,ra1⟩:=HRA.out (.inl HFF.out.symm);have H20:=Lib.hid h20;clear HV HC HIX HRA h20;by_cases hlt:r.a<n
  ·have hlz:decide (r.a<(n:Int))=true:=by simp;omega
   obtain⟨b,off,rfl,hbl,k0,k1,k2,k3,k4⟩:=HS0.out.k.at r.a.toNat (by omega);obtain⟨c,hc⟩:∃c,c=kAt K r.a.toNat:=⟨_,rfl⟩;rw[←hc]at k0 k1 k2 k3 k4;have HCQ:=Lib.hid hc
   by_cases h3:c.tag=3
   ·obtain⟨v1,v2⟩:=D8x H20.out (show(kAt K r.a.toNat).tag=3 by rw[←hc];exact h3);have e3:(c.tag==3)=true:=by rw[h3];rfl
    have HVV:=Lib.hid (HVV0.out.trans v1);have HCC:=Lib.hid (HCC0.out.trans v2);rw[←hc]at HVV;clear hc h3 v1 v2 HVV0 HCC0
    go_upto_region 18 with fail
    have HSD:=Lib.hid (HS0.out.below ((Below.refl _ _).drew));have hSw:QI w.heap.size b (off+r.a.toNat*5+3) r c.n W.drew:=⟨HSD.out.r,k3⟩
    have l0:∀z,QI w.heap.size b (off+r.a.toNat*5+3) r c.n z→z.cell? ⟨w.heap.size,2,none⟩=some (.int .i64 r.a):=fun z h=>A0a h.1 2 rfl
    have l1:∀z,QI w.heap.size b (off+r.a.toNat*5+3) r c.n z→z.cell? ⟨b,off+r.a.toNat*5+3,none⟩=some (.int .i64 c.n):=fun z h=>h.2
    refine A0g (QI w.heap.size b (off+r.a.toNat*5+3) r c.n) (.of [(0,true),(1,true),(2,true),(3,true),(4,true),(5,true),(6,true),(7,false),(8,true),(9,false)] (.stir [])) (by kernel_rfl) (by kernel_rfl) (fun c a d v w h=>by cases d<;>exact h) ?_
    generalize W.drew=W1 at*
    iterate 7
     refine A0b fun K hK=>tkF ?_
     go_simp
     try go_bits
     refine hK _ _ ?_;clear hK K
    obtain⟨i0,i1,i2,i3,i4,i5,i6,f1,f2,f3,f4,f5,f6⟩:=HSD.out.x.box;refine A0b fun K hK=>alF ?_
    go_step;have HS1:=Lib.hid (HSD.out.put HKS.out HLS.out 5 _ (HSD.out.x.set5 [73]))
    have hSn:QI w.heap.size b (off+r.a.toNat*5+3) r c.n (W1.setCell ⟨w.heap.size+1+1,5,none⟩ (.string ⟨#[73]⟩)):=⟨HS1.out.r,by
     obtain⟨b2,off2,e,_,_,_,_,q3,_⟩:=HS1.out.k.at r.a.toNat (by omega)
     cases e
     rw[←HCQ.out]at q3;exact q3⟩
    refine⟨hSn,hK _ _ ?_⟩;clear hK K hSw i0 i1 i2 i3 i4 i5 i6 f1 f2 f3 f4 f5 f6;have hSw:=hSn;clear hSn
    iterate 1
     refine A0b fun K hK=>tkF ?_
     go_simp
     try go_bits
     refine hK _ _ ?_;clear hK K
    obtain⟨i0,i1,i2,i3,i4,i5,i6,f1,f2,f3,f4,f5,f6⟩:=HS1.out.x.box;dsimp only[A3y]at i0 i1 i2 i3 i4 i5 i6;refine A0b fun K hK=>alF ?_
    go_step;have HS2:=Lib.hid (HS1.out.put HKS.out HLS.out 1 _ (HS1.out.x.set1 c.n))
    have hSn:QI w.heap.size b (off+r.a.toNat*5+3) r c.n ((W1.setCell ⟨w.heap.size+1+1,5,none⟩ (.string ⟨#[73]⟩)).setCell ⟨w.heap.size+1+1,1,none⟩ (.int .i64 c.n)):=⟨HS2.out.r,by
     obtain⟨b2,off2,e,_,_,_,_,q3,_⟩:=HS2.out.k.at r.a.toNat (by omega)
     cases e
     rw[←HCQ.out]at q3;exact q3⟩
    refine⟨hSn,hK _ _ ?_⟩;clear hK K hSw i0 i1 i2 i3 i4 i5 i6 f1 f2 f3 f4 f5 f6
    generalize(W1.setCell ⟨w.heap.size+1+1,5,none⟩ (.string ⟨#[73]⟩)).setCell ⟨w.heap.size+1+1,1,none⟩ (.int .i64 c.n)=W2 at*;refine A0m (fun y=>y=W2) (fun y hy=>hy▸hSn) rfl ?_
    refine A0p (fun y hy=> ?_);obtain rfl:W2=y:=Eq.symm hy;clear hSn l0 l1
    go_upto_region 19 with fail
    refine wp_region_lit ?_;refine A0h rfl _ _ rfl _ rfl _ _ _ _ HS2.out.x Tryz.underlying54 rfl A0n ?_
    refine wpList_store_row rfl _ _ _ rfl _ _ rfl rfl _ _ HS2.out.z A0n rfl (A9a _) ?_
    go_wp2_with fail
    refine bodyPost_ret (A0d rfl _ _ (w.heap.size+1) A1f (IN.cells _).toArray (0,0) _ rfl (setRow_heap _ _ _ _ _ _ HS2.out.z) Tryz.underlying54 rfl A0n) rfl ?_
    exact⟨_,_,rfl,HCC.out.symm,(fun _=>HVV.out.symm),HS2.out.done _⟩
   ·have e3:(c.tag==3)=false:=by rw[beq_eq_false_iff_ne];exact h3
    by_cases h8:c.tag=8
    ·obtain⟨v1,v2⟩:=D9x H20.out (show(kAt K r.a.toNat).tag=8 by rw[←hc];exact h8);have e8:(c.tag==8)=true:=by rw[h8];rfl
     have HVV:=Lib.hid (HVV0.out.trans v1);have HCC:=Lib.hid (HCC0.out.trans v2)
     have hT1:isT K c.a 1=true:=by
      rw[hc];exact HST.out r.a.toNat (by rw[←hc];exact h8)
     rw[←hc]at HVV;have HTE:=Lib.hid (A6y W (some ⟨b,off,none⟩) n cap K c.a HS0.out.k HNN.out);unfold A5i at HTE;rw[hT1]at HTE;clear hc h3 h8 v1 v2 HVV0 HCC0 hT1
     generalize A1p K c.a=tx at*
     go_upto_region 21 with fail
     go_wp2_with fail
     refine HTE.out.mono ?_;rintro e w9 ⟨rfl,hw9⟩;obtain rfl:W=w9:=hw9;clear HTE
     go_upto_region 22 with fail
     have HS1:=Lib.hid (HS0.out.put HKS.out HLS.out 5 _ (HS0.out.x.set5 [83]));have HS2:=Lib.hid (HS1.out.put HKS.out HLS.out 6 _ (HS1.out.x.set6 tx))
     go_upto_region 23 with fail
     refine wp_region_lit ?_;refine A0h rfl _ _ rfl _ rfl _ _ _ _ HS2.out.x Tryz.underlying54 rfl A0n ?_;refine wpList_step fun K hK=> ?_
     rw[if_pos (by rfl)];go_step;refine hK _ _ ?_;clear hK K;refine wpList_store_row rfl _ _ _ rfl _ _ rfl rfl _ _ HS2.out.z A0n rfl (A9a _) ?_
     go_wp2_with fail
     refine bodyPost_ret (A0d rfl _ _ (w.heap.size+1) A1f (IN.cells _).toArray (0,0) _ rfl (setRow_heap _ _ _ _ _ _ HS2.out.z) Tryz.underlying54 rfl A0n) rfl ?_
     exact⟨_,_,rfl,HCC.out.symm,(fun _=>HVV.out.symm),HS2.out.done _⟩
    ·have v2:=D5b H20.out (show(kAt K r.a.toNat).tag≠3 by rw[←hc];exact h3) (show(kAt K r.a.toNat).tag≠8 by rw[←hc];exact h8)
     have e8:(c.tag==8)=false:=by rw[beq_eq_false_iff_ne];exact h8
     have HCC:=Lib.hid (HCC0.out.trans v2);clear hc h3 h8 v2 HVV0 HCC0
     go_upto_region 24 with fail
     refine wp_region_lit ?_;refine A0h rfl _ _ rfl _ rfl _ _ _ _ HS0.out.x Tryz.underlying54 rfl A0n ?_
     refine wpList_store_row rfl _ _ _ rfl _ _ rfl rfl _ _ HS0.out.z A0n rfl (A9a _) ?_
     go_wp2_with fail
     refine bodyPost_ret (A0d rfl _ _ (w.heap.size+1) A1f (IN.cells _).toArray (0,0) _ rfl (setRow_heap _ _ _ _ _ _ HS0.out.z) Tryz.underlying54 rfl A0n) rfl ?_
     exact⟨_,_,rfl,HCC.out.symm,(fun h=>absurd h (by decide)),HS0.out.done _⟩
  ·have hlz:decide (r.a<(n:Int))=false:=by simp;omega
   have hk:(kAt K r.a.toNat).tag=0:=by
    unfold kAt;have hl:=HKS.out.1;rw[List.getD_eq_getElem?_getD,List.getElem?_eq_none (by omega)];rfl
   have v2:=D5b H20.out (by rw[hk];decide) (by rw[hk];decide);have HCC:=Lib.hid (HCC0.out.trans v2);clear hk v2 HVV0 HCC0 hlt
   go_upto_region 24 with fail
   refine wp_region_lit ?_;refine A0h rfl _ _ rfl _ rfl _ _ _ _ HS0.out.x Tryz.underlying54 rfl A0n ?_;refine wpList_store_row rfl _ _ _ rfl _ _ rfl rfl _ _ HS0.out.z A0n rfl (A9a _) ?_
   go_wp2_with fail
   refine bodyPost_ret (A0d rfl _ _ (w.heap.size+1) A1f (IN.cells _).toArray (0,0) _ rfl (setRow_heap _ _ _ _ _ _ HS0.out.z) Tryz.underlying54 rfl A0n) rfl ?_
   exact⟨_,_,rfl,HCC.out.symm,(fun h=>absurd h (by decide)),HS0.out.done _⟩
 ·have HVV:=Lib.hid (show V=D6z K r from HV.out);have HCC:=Lib.hid (show C=D2z K r from HC.out);obtain⟨ra0,ra1⟩:=HRA.out (.inr HFF.out.symm)
  have HNM:=Lib.hid (C7e W a n cap K r HS0.out.k HNN.out HTX.out HOP.out ⟨ra0,ra1⟩);clear HV HC HIX HRA HST;rw[←HVV.out,←HCC.out]at HNM
  go_upto_region 25 with fail
  go_wp2_with fail
  refine HNM.out.mono ?_;rintro e w9 ⟨x9,ok,rfl,hok,hx,hb⟩;have HS1:=Lib.hid (HS0.out.below hb);have HOK:=Lib.hid hok;have HX:=Lib.hid hx
  clear hb HS0 i0 i1 i2 i3 i4 i5 i6 f1 f2 f3 f4 f5 f6 r0 r1 r2 r3 hok hx HNM;obtain⟨o9,n9,m9,cl9,nm9,ds9,tx9⟩:=x9;obtain⟨i0,i1,i2,i3,i4,i5,i6,f1,f2,f3,f4,f5,f6⟩:=HS1.out.z.box
  have f0:=A1a HS1.out.z 0;dsimp only[IN.cells]
  go_wp2_with fail
  have b6:=(((((((show A3w (w.heap.size+1) ⟨o9,0,0,[],[],[],[]⟩ _ from A1d HS1.out.z 0 (.int .u8 (o9:Nat))).set1 n9).set2 m9).set3 cl9).set4 nm9).set5 ds9).set6 tx9)
  have hb9:=(((((((HS1.out.b.setCell (p:=⟨w.heap.size+1,0,none⟩) (show w.heap.size≤w.heap.size+1 by omega) (.int .u8 (o9:Nat))).setCell (p:=⟨w.heap.size+1,1,none⟩) (show w.heap.size≤w.heap.size+1 by omega) (.int .i64 n9)).setCell (p:=⟨w.heap.size+1,2,none⟩) (show w.heap.size≤w.heap.size+1 by omega) (.int .i64 m9)).setCell (p:=⟨w.heap.size+1,3,none⟩) (show w.heap.size≤w.heap.size+1 by omega) (.string ⟨cl9.toArray⟩)).setCell (p:=⟨w.heap.size+1,4,none⟩) (show w.heap.size≤w.heap.size+1 by omega) (.string ⟨nm9.toArray⟩)).setCell (p:=⟨w.heap.size+1,5,none⟩) (show w.heap.size≤w.heap.size+1 by omega) (.string ⟨ds9.toArray⟩)).setCell (p:=⟨w.heap.size+1,6,none⟩) (show w.heap.size≤w.heap.size+1 by omega) (.string ⟨tx9.toArray⟩))
  refine bodyPost_ret (A0d rfl _ _ (w.heap.size+1) A1f (IN.cells ⟨o9,n9,m9,cl9,nm9,ds9,tx9⟩).toArray (0,0) _ rfl b6 Tryz.underlying54 rfl A0n) rfl ?_
  exact⟨⟨o9,n9,m9,cl9,nm9,ds9,tx9⟩,ok,rfl,HOK.out,HX.out,hb9⟩
end
end Go.Proofs.YtclpkipaehpkdaaGreatDoor
