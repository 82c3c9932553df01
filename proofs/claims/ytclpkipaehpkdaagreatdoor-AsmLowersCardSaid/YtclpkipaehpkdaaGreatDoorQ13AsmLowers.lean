/- asm -/
import Derived.Test.YtclpkipaehpkdaaGreatDoorQ10AsmLowers
set_option linter.unusedVariables false
set_option linter.unusedSimpArgs false
set_option maxRecDepth 100000
set_option maxHeartbeats 64000000
namespace Go.Proofs.YtclpkipaehpkdaaGreatDoor
section
open Go.RowKit
theorem A6w(r:RW)(h0:A0q r.op≠0):(A4m r).length=A1r (A0q r.op):=by
 have h9:=A3s r.op;unfold A4m;generalize A0q r.op=f at*;have hfc:f=1\/f=2\/f=3\/f=4\/f=5\/f=6\/f=7\/f=8\/f=9:=by omega
 rcases hfc with rfl|rfl|rfl|rfl|rfl|rfl|rfl|rfl|rfl<;>simp[A1t,A1r]
theorem B7r{x:Int}(h: -128<=x/\x<=127):A2g ((A5z x%256:Nat):Int) 1=x:=by
 rw[show A2g ((A5z x%256:Nat):Int) 1=(((A5z x%256:Nat):Int)+128)%256-128 from rfl];unfold A5z;omega
theorem B7c{x:Int}(h: -32768<=x/\x<=32767):A2g ((A5z x%65536:Nat):Int) 2=x:=by
 rw[show A2g ((A5z x%65536:Nat):Int) 2=(((A5z x%65536:Nat):Int)+32768)%65536-32768 from rfl];unfold A5z;omega
theorem D0i(x y:Nat):B6r (A6c x 1++A6c y 1)=x%256*256+y%256:=by
 have h1:A6c y 1=[UInt8.ofNat (y%256)]:=by rw[B0f _ 0];simp[A6c]
 rw[h1,B2d,A9c];simp
theorem E0n(bs:List UInt8)(r:RW)(p:Nat)(t rest:List UInt8)(hop:r.op<256)(he:A4m r=[UInt8.ofNat r.op]++rest)(hbs:bs.drop p=A4m r++t):A3w bs p=r.op/\(bs.drop (p+1)).take rest.length=rest/\p+1+rest.length<=bs.length:=by
 rw[he]at hbs;have hl:(bs.drop p).length=1+rest.length+t.length:=by rw[hbs];simp;omega
 have hp:p<bs.length:=by rw[List.length_drop]at hl;omega
 rw[List.drop_eq_getElem_cons hp]at hbs;simp only[List.cons_append,List.nil_append,List.cons.injEq]at hbs;refine⟨?_,by rw[hbs.2];simp,by rw[List.length_drop]at hl;omega⟩;unfold A3w
 simp only[List.getD,List.getElem?_eq_getElem hp,Option.getD_some];rw[hbs.1,UInt8.toNat_ofNat_of_lt' hop]
theorem D9m(bs:List UInt8)(r:RW)(p:Nat)(t:List UInt8)(hop:r.op<256)(hpos:r.pos=p)(h0:A0q r.op≠0)(hf:A2n r (A0q r.op)=true)(hj:A0q r.op=7->-32768<=r.a-r.pos/\r.a-r.pos<=32767)(hbs:bs.drop p=A4m r++t):
  A7s bs p=r/\A1z bs p (A0q r.op)=false/\A3w bs p=r.op:=by
 have h9:=A3s r.op;obtain⟨rest,hrest⟩:∃rest,A4m r=[UInt8.ofNat r.op]++rest:=⟨_,rfl⟩;obtain⟨h1,h2,h3⟩:=E0n bs r p t rest hop hrest hbs;have hlen:=A6w r h0
 rw[hrest]at hlen;simp only[List.length_append,List.length_cons,List.length_nil,Nat.zero_add]at hlen;have hte:=D0m bs p (A0q r.op)
 have hr:rest=(if A0q r.op=7 then A6c (A5z (r.a-r.pos)) 2 else if A0q r.op=8 then A6c (A5z r.a) 1++A6c (A5z r.b) 1 else A6c (A5z r.a) (A1r (A0q r.op) -1)):=by
  have h:=hrest;unfold A4m at h;simp only[List.cons_append,List.nil_append,List.cons.injEq,true_and]at h;exact h.symm
 have hsub:A1r (A0q r.op) -1=rest.length:=by omega
 rw[hsub,h2]at hte
 have hAB:A1n bs p (A0q r.op)=r.a/\A2i bs p (A0q r.op)=r.b/\A1z bs p (A0q r.op)=false:=by
  unfold A1z A1n A2i;simp only;unfold A2n at hf;generalize A0q r.op=f at*;have hfc:f=1\/f=2\/f=3\/f=4\/f=5\/f=6\/f=7\/f=8\/f=9:=by omega
  by_cases h8:f=8
  ·subst h8;simp at hf;have hv:=hte (by decide) (by decide) (by rw[show A1r 8=3 from rfl]at hlen⊢;omega);rw[hr,if_neg (by decide),if_pos rfl,D0i]at hv;rw[hv]
   have e1:A5z r.a%256=A5z r.a:=Nat.mod_eq_of_lt (by unfold A5z;omega);have e2:=B7r (x:=r.b) (by omega);have e3:((A5z r.a:Nat):Int)=r.a:=by unfold A5z;omega
   have e4:A2g ((A5z r.a%256*256+A5z r.b%256:Nat):Int) 1=A2g ((A5z r.b%256:Nat):Int) 1:=by
    rw[show ∀v,A2g v 1=(v+128)%256-128 from fun v=>rfl,show ∀v,A2g v 1=(v+128)%256-128 from fun v=>rfl];omega
   refine⟨?_,?_,by simp⟩
   ·simp;omega
   rw[if_pos rfl,e4,e2]
  rcases hfc with rfl|rfl|rfl|rfl|rfl|rfl|rfl|rfl|rfl
  ·simp at hf;simp;omega
  ·simp at hf;have hv:=hte (by decide) (by decide) (by rw[show A1r 2=2 from rfl]at hlen⊢;omega);rw[hr,if_neg (by decide),if_neg (by decide),A9c]at hv;rw[hv];simp[A1r,A5z];omega
  ·simp at hf;have hv:=hte (by decide) (by decide) (by rw[show A1r 3=2 from rfl]at hlen⊢;omega);rw[hr,if_neg (by decide),if_neg (by decide),A9c]at hv;rw[hv]
   have e2:=B7r (x:=r.a) (by omega);refine⟨?_,by simp;omega,by simp⟩;simpa[A1r]using e2
  ·simp at hf;have hv:=hte (by decide) (by decide) (by rw[show A1r 4=3 from rfl]at hlen⊢;omega);rw[hr,if_neg (by decide),if_neg (by decide),A9c]at hv;rw[hv]
   have e2:=B7c (x:=r.a) (by omega);refine⟨?_,by simp;omega,by simp⟩;simpa[A1r]using e2
  ·simp at hf;have hv:=hte (by decide) (by decide) (by rw[show A1r 5=2 from rfl]at hlen⊢;omega);rw[hr,if_neg (by decide),if_neg (by decide),A9c]at hv;rw[hv];simp[A1r,A5z];omega
  ·simp at hf;have hv:=hte (by decide) (by decide) (by rw[show A1r 6=3 from rfl]at hlen⊢;omega);rw[hr,if_neg (by decide),if_neg (by decide),A9c]at hv;rw[hv];simp[A1r,A5z];omega
  ·simp at hf;have hv:=hte (by decide) (by decide) (by rw[show A1r 7=3 from rfl]at hlen⊢;omega);rw[hr,if_pos rfl,A9c]at hv;rw[hv];have e2:=B7c (x:=r.a-r.pos) (hj rfl)
   refine⟨?_,by simp;omega,by simp⟩;have e3:A2g ((A5z (r.a-r.pos)%256^2:Nat):Int) 2=r.a-r.pos:=e2;simp only[if_true];rw[e3];simp;omega
  ·exact absurd rfl h8
  simp at hf;have hv:=hte (by decide) (by decide) (by rw[show A1r 9=2 from rfl]at hlen⊢;omega);rw[hr,if_neg (by decide),if_neg (by decide),A9c]at hv;rw[hv]
  have e3:((A5z r.a%256^(A1r 9-1):Nat):Int)=r.a:=by
   rw[show 256^(A1r 9-1)=256 from rfl];unfold A5z;omega
  rw[e3];refine⟨by simp,by simp;omega,?_⟩
  rcases hf.2 with h|h<;>simp[h]
 exact⟨by unfold A7s;rw[h1,hAB.1,hAB.2.1,<-hpos],hAB.2.2,h1⟩
theorem B8b{l pre suf:List RW}{r:RW}(h:l=pre++r::suf)(hg:A3q l pre.length=true):A2n r (A0q r.op)=true/\r.pos=((A6s pre).length:Nat):=by
 subst h;unfold A3q at hg;rw[List.getElem?_append_right nlz]at hg;simp only[Nat.sub_self,List.getElem?_cons_zero,List.take_left,Bool.and_eq_true,decide_eq_true_eq]at hg;exact hg
theorem B3b(pre suf:List RW):A6s (pre++suf)=A6s pre++A6s suf:=by unfold A6s;rw[List.flatMap_append]
theorem C6x{l:List RW}(hg:∀k,k<l.length->A3q l k=true)(hl:(A6s l).length<=4096):∀r∈l,0<=r.pos/\r.pos<=4096:=by
 intro r hr;obtain⟨pre,suf,h⟩:=List.append_of_mem hr;have h1:=(B8b h (hg pre.length (by rw[h];simp))).2;rw[h,B3b,List.length_append]at hl;omega
theorem D0t{l:List RW}(hg:∀k,k<l.length->A3q l k=true)(hl:(A6s l).length<=4096)(hgo:A7b l=true):∀r∈l,A0q r.op=7->-32768<=r.a-r.pos/\r.a-r.pos<=32767:=by
 intro r hr h7;have h1:=C6x hg hl r hr;unfold A7b at hgo;have h2:=List.all_eq_true.1 hgo r hr;rw[h7]at h2;simp only[beq_self_eq_true,Bool.not_true,Bool.false_or]at h2;unfold thereB at h2
 obtain⟨s,hs,h3⟩:=List.any_eq_true.1 h2;have h4:=C6x hg hl s hs;have h5:s.pos=r.a:=by simpa using h3
 omega
theorem C0j(r:RW):A2n r 0=false:=by unfold A2n;simp
theorem E0s{l:List RW}(hl:(A6s l).length<=4096)(hw:∀r∈l,r.op<256)(hg:∀k,k<l.length->A3q l k=true)(hgo:A7b l=true):
  ∀(suf pre:List RW),l=pre++suf->∀fuel,suf.length<=fuel->B0c (A6s l) fuel (A6s pre).length pre=(0,l):=by
 intro suf
 induction suf with
 |nil=>
  intro pre h fuel _;rw[List.append_nil]at h;subst h;exact B4g _ _ _ _ nlz
 |cons r suf ih=>
  intro pre h fuel hf;obtain⟨fuel,rfl⟩:∃k,fuel=k+1:=⟨fuel-1,by simp at hf;omega⟩;have hr:r∈l:=by rw[h];simp
  obtain⟨h1,h2⟩:=B8b h (hg pre.length (by rw[h];simp))
  have h0:A0q r.op≠0:=fun h0=>by rw[h0,C0j]at h1;cases h1
  have hd:(A6s l).drop (A6s pre).length=A4m r++A6s suf:=by
   rw[h,B3b,List.drop_left];rfl
  obtain⟨q1,q2,q3⟩:=D9m (A6s l) r (A6s pre).length (A6s suf) (hw r hr) h2 h0 h1 (D0t hg hl hgo r hr) hd;have hlen:=congrArg List.length hd
  rw[List.length_drop,List.length_append,A6w r h0]at hlen;have hs:=A8e h0 (A3s r.op)
  rw[B2g _ _ _ _ (by omega) (by rw[q3];exact h0) (by rw[q3];omega) (by rw[q3];exact q2),q1,q3];have h3:=ih (pre++[r]) (by rw[h];simp) fuel (by simp at hf;omega)
  rw[B3b,List.length_append,show(A6s [r]).length=A1r (A0q r.op) by rw[<-A6w r h0];simp[A6s]]at h3;exact h3
theorem D9v(l:List RW):l.length<=(A6s l).length:=by
 induction l with
 |nil=>exact Nat.zero_le _
 |cons r l ih=>
  rw[show A6s (r::l)=A4m r++A6s l from rfl,List.length_append];have:1<=(A4m r).length:=by unfold A4m;simp
  simp only[List.length_cons];omega
theorem B6t{l:List RW}{bs:List UInt8}(hw:∀r∈l,r.op<256)(h:A2f l=(0,bs)):bs=A6s l/\A1y bs=(0,l):=by
 unfold A2f at h;by_cases h1:(List.range l.length).all (A3q l)=false
 ·rw[if_pos h1]at h;cases h
 rw[if_neg h1]at h;by_cases h2:A7b l=false
 ·rw[if_pos h2]at h;cases h
 rw[if_neg h2]at h;by_cases h3:4096<(A6s l).length
 ·rw[if_pos h3]at h;cases h
 rw[if_neg h3]at h
 cases h
 have hgo:A7b l=true:=by simpa using h2
 have hg:∀k,k<l.length->A3q l k=true:=by
  have h4:(List.range l.length).all (A3q l)=true:=by simpa using h1
  intro k hk;exact List.all_eq_true.1 h4 k (List.mem_range.2 hk)
 refine⟨rfl,B6d h3 ?_ hgo⟩;have h5:=D9v l;exact E0s (by omega) hw hg hgo l [] rfl _ (by omega)
end
end Go.Proofs.YtclpkipaehpkdaaGreatDoor
