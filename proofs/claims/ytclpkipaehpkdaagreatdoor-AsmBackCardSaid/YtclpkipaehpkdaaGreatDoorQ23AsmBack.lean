/- asm -/
import Derived.Test.YtclpkipaehpkdaaGreatDoorQ22AsmBack
import Derived.Test.YtclpkipaehpkdaaGreatDoorQ21AsmBack
set_option linter.unusedVariables false
set_option linter.unusedSimpArgs false
set_option maxRecDepth 100000
set_option maxHeartbeats 64000000
open Go.Proofs.Tryz
namespace Go.Proofs.YtclpkipaehpkdaaGreatDoor
section
open Go.ChangeShapes Go.WideShapes Go.ChangeAt Go.RowKit
theorem ax{r:RW}{f:Nat}(h:yz r f=true):(f≠8->r.b=0)/\(f≠7->-32768<=r.a/\r.a<=65535)/\(f=8->-128<=r.b/\r.b<=127):=by
 unfold yz at h;split at h
 ·cases h
 next h1=>
 refine⟨fun h8=>by rcases Decidable.em (r.b=0)with h2|h2;exact h2;exact absurd ⟨h8,h2⟩ h1,fun h7=> ?_,fun h8=> ?_⟩
 ·split at h
  ·have:=of_decide_eq_true h;omega
  split at h
  ·have:=of_decide_eq_true h;omega
  split at h
  ·have:=of_decide_eq_true h;omega
  split at h
  ·have:=of_decide_eq_true h;omega
  split at h
  ·have:=of_decide_eq_true h;omega
  split at h
  ·rw[Bool.and_eq_true]at h;have:=of_decide_eq_true h.1;omega
  split at h
  ·have:=of_decide_eq_true h;omega
  exact absurd (of_decide_eq_true h) h7
 subst h8;simp at h;omega
theorem E7c{K:List KV}(hp:xP K=true){L:List RW}(hL:L.length<=4096){r:RW}(Zx:r.op<256)(h0:yX r.op≠0)(hf:yz r (yX r.op)=true)(hc:ww K r=true):tP (wY K) (xT K L r):=by
 have NC:yX r.op≠5->r.op≠18:=by
  intro h e;rw[e]at h;exact h (by decide)
 have Qi:yX r.op≠6->r.op≠20:=by
  intro h e;rw[e]at h;exact h (by decide)
 obtain⟨p1,p2,p3⟩:=ax hf;unfold ww at hc;unfold xT;by_cases f7:yX r.op=7
 ·rw[if_pos f7];have:=gF L r.a;exact mz (m:=0) ⟨NC (by omega),Qi (by omega)⟩ ⟨by omega,h0⟩ (.inl rfl) (decide_eq_true (by omega)) (fun h=>absurd f7 h)
 rw[if_neg f7]at hc⊢;by_cases f8:yX r.op=8
 ·rw[if_pos f8];have:=p2 f7;exact mz ⟨NC (by omega),Qi (by omega)⟩ ⟨by omega,h0⟩ (.inr f8) (decide_eq_true (by omega)) (fun _=>hf)
 rw[if_neg f8]at hc⊢;by_cases f5:yX r.op=5
 ·rw[if_pos f5]at hc⊢;exact eE hp (.inl (eZ ⟨r.op,Zx⟩ f5)) hc
 rw[if_neg f5]at hc⊢;by_cases f6:yX r.op=6
 ·rw[if_pos f6]at hc⊢;by_cases WR:r.op=20
  ·rw[if_pos WR]at hc⊢;exact eE hp (.inr WR) hc
  rw[if_neg WR]at hc⊢;by_cases hm:wK r.op=true
  ·rw[if_pos hm]at hc⊢;obtain⟨q1,q2,q3⟩:=eq (x:=yL r) hp (.inl rfl) hc;exact .wide ⟨NC f5,WR⟩ f6 (.mem hm (decide_eq_true ⟨rfl,rfl,rfl⟩) q3 q2 q1)
  rw[if_neg hm]at hc⊢;by_cases hi:vB r.op=true
  ·rw[if_pos hi]at hc⊢;obtain⟨q1,q2,q3⟩:=eq (x:=yL r) hp (.inr rfl) hc;exact .wide ⟨NC f5,WR⟩ f6 (.inv (Bool.eq_false_iff.2 hm) hi (decide_eq_true ⟨rfl,rfl,rfl⟩) q3 q2 q1)
  rw[if_neg hi]at hc⊢;obtain⟨q1,q2⟩:=qf hp hc;exact .wide ⟨NC f5,WR⟩ f6 (.cls (Bool.eq_false_iff.2 hm) (Bool.eq_false_iff.2 hi) (decide_eq_true ⟨rfl,rfl,rfl,rfl,rfl⟩) q2 q1)
 rw[if_neg f6]at hc⊢;have hb:=p1 f8;have:=p2 f7;refine mz (m:=0) ⟨NC f5,Qi f6⟩ ⟨f6,h0⟩ (.inl rfl) (decide_eq_true (by omega)) (fun _=> ?_);rw[<-hb];exact hf
theorem fj(K:List KV)(x:IN)(i:Nat):(xG K x i).op=x.op:=by
 unfold xG;split
 ·rfl
 split
 ·rfl
 split<;>rfl
theorem me(K:List KV)(L:List RW)(r:RW):(xT K L r).op=r.op:=by
 unfold xT;split
 ·rfl
 split
 ·rfl
 split
 ·exact fj _ _ _
 split
 ·split
  ·exact fj _ _ _
  split
  ·rfl
  split<;>rfl
 rfl
theorem iB:∀(L:List RW),(∀r∈L,yX r.op≠0)->(ym L).length=(L.map fun r=>yC (yX r.op)).sum
 |[],_=>rfl
 |r::L,h=>by
  have ih:=iB L (fun q hq=>h q (List.mem_cons_of_mem _ hq));have e:ym (r::L)=wC r++ym L:=by unfold ym;rw[List.flatMap_cons]
  rw[e,List.length_append,ih,rA r (h r List.mem_cons_self),List.map_cons,List.sum_cons]
theorem D5b(K:List KV)(L M:List RW)(h:∀r∈M,yX r.op≠0):yx (M.map (xT K L)) (M.map (xT K L)).length=(ym M).length:=by
 rw[iB M h];unfold yx;rw[List.take_of_length_le Z5,List.map_map];congr 1;refine List.map_congr_left fun r _=> ?_
 show vH (xT K L r)=_;unfold vH;rw[me]
theorem E2j{K:List KV}(hp:xP K=true)(hk:K.length<=120){bs:List UInt8}{L:List RW}(h:xW bs=(0,L))(hb:0<bs.length)(hc:L.all (ww K)=true)(s0:LW):kD (wY K) s0 (L.map (xT K L)):=by
 obtain⟨d1,d2,d3,d4⟩:=sB h;obtain⟨b1,b2⟩:=jT h;have Rx:=gi h;have JG:=ja K
 have Kx:∀r∈L,tP (wY K) (xT K L r):=fun r hr=>by
  obtain⟨k,Lx,e⟩:=List.getElem_of_mem hr;have:=(d1 k r (by rw[List.getElem?_eq_getElem Lx,e])).2;exact E7c hp b1 (b2 r hr).1 (Rx r hr) this (List.all_eq_true.1 hc r hr)
 have ZR:=D5b K L L Rx;refine⟨fun x hx=> ?_,fun x hx=> ?_,fun x hx=> ?_,fun x hx=> ?_,by rw[ZR,d3];exact d4,by rw[ZR,d3];exact hb⟩
 ·obtain⟨r,hr,rfl⟩:=List.mem_map.1 hx;rw[me];exact(b2 r hr).1
 ·obtain⟨r,hr,rfl⟩:=List.mem_map.1 hx;exact Kx r hr
 ·obtain⟨r,hr,rfl⟩:=List.mem_map.1 hx;intro VS t ht _;have By:=(Kx r hr).con18 VS;have h1:=eJ (s:=t) By;have h2:=(ht.con (by omega) By).len;omega
 obtain⟨r,hr,rfl⟩:=List.mem_map.1 hx;intro h7;rw[me]at h7
 have e:(xT K L r).n=(((wF L r.a).getD 0:Nat):Int):=by
  unfold xT;rw[if_pos h7]
 unfold inB;rw[e,List.length_map];have Pr:0<L.length:=List.length_pos_of_mem hr;refine decide_eq_true ⟨by omega,?_⟩
 cases hx:wF L r.a with
 |none=>show((0:Nat):Int)<_;omega
 |some k=>
 rcases nH r.a L 0 none k hx with h1|h1
 ·cases h1
 show((k:Nat):Int)<_;omega
theorem E2k{c:List UInt8}(h:x6 c=true):vr c=false:=by
 unfold x6 at h;rw[Bool.and_eq_true,decide_eq_true_eq]at h;unfold vr;rw[h.1];simp
theorem E3g(c:List UInt8):vr (uT c)=true/\u' (uT c)=c:=by
 have h:vr (uT c)=true:=by
  unfold vr uT
  have e:(76::(c++[59])).getLast? =some (59:UInt8):=by
   rw[show(76::(c++[59]):List UInt8)=(76::c)++[59]from rfl,List.getLast?_append];rfl
  rw[e];simp
 refine⟨h,?_⟩;unfold u';rw[if_pos h];unfold uT;simp
theorem fv{K:List KV}(hp:xP K=true){s:KS}(ht:uH s)(h:xa K s=true):qc (wY K) (yD K s):=by
 obtain⟨tag,a⟩:=s;unfold uH at ht;dsimp only at ht
 rcases ht with rfl|rfl|rfl|rfl|rfl
 ·exact .tag (.inl rfl)
 ·exact .tag (.inr (.inl rfl))
 ·exact .tag (.inr (.inr (.inl rfl)))
 ·exact .tag (.inr (.inr (.inr rfl)))
 obtain⟨v1,v2⟩:=rc K a;rw[v2]at h;rw[v1];obtain⟨q1,q2⟩:=qf hp h;by_cases hb:x6 (yQ K a).1=true
 ·rw[if_pos hb];exact .arr (E2k hb) hb q1
 rw[if_neg hb];obtain⟨o1,o2⟩:=E3g (yQ K a).1;rw[Bool.true_and,Bool.or_eq_true]at q2
 rcases q2 with q2|q2
 ·exact .obj o1 (by rw[o2];exact q2) (by rw[o2];exact q1)
 exact absurd q2 hb
theorem D8c{K:List KV}(hp:xP K=true){d:KD}(ho:xK K d.fl d.nm d.ds=true)(hc:ve K d=true):nR (wY K) (vt K d):=by
 unfold xK at ho;unfold ve at hc;simp only[Bool.and_eq_true]at ho hc;exact⟨hc.1,hc.2,te hp ho.1.2,te hp ho.2⟩
theorem fx{L:List RW}{n:Int}(h:(wF L n).isSome=true):(wF L n).getD 0<L.length:=by
 cases hx:wF L n with
 |none=>rw[hx]at h;cases h
 |some k=>
 rcases nH n L 0 none k hx with h1|h1
 ·cases h1
 show k<_;omega
theorem kx{L:List RW}{cn:Nat}{n:Int}(h:plC L cn n false=true):(0:Int)<=(plV L cn n false:Nat)/\((plV L cn n false:Nat):Int)<=(L.length:Int) -1:=by
 unfold plC at h;rw[Bool.false_and,Bool.false_or]at h;have:=fx h;unfold plV;rw[if_neg (by simp)];omega
theorem E7x{L:List RW}{cn:Nat}{n:Int}(h:plC L cn n true=true):(0:Int)<=(plV L cn n true:Nat)/\((plV L cn n true:Nat):Int)<=(L.length:Int):=by
 unfold plC at h;rw[Bool.true_and,Bool.or_eq_true]at h;unfold plV;split
 ·omega
 next ZF=>
 rcases h with h|h
 ·exact absurd ⟨rfl,of_decide_eq_true h⟩ ZF
 have:=fx h;omega
theorem E3z{K:List KV}(hp:xP K=true){L:List RW}{l:List IN}(hl:l.length=L.length){cn:Nat}{t:KT}(h:vq K L cn t=true):nM (wY K) l (vU K L cn t):=by
 unfold vq at h;simp only[Bool.and_eq_true]at h;obtain⟨h1,h2,h3,h4⟩:=h;unfold vU;refine⟨by rw[hl];exact kx h1,by rw[hl];exact E7x h2,by rw[hl];exact kx h3,?_⟩;dsimp only;by_cases hz:t.cl=0
 ·rw[if_pos hz];exact .inl rfl
 rw[if_neg hz];rw[Bool.or_eq_true]at h4
 rcases h4 with h4|h4
 ·exact absurd (of_decide_eq_true h4) hz
 obtain⟨q1,q2⟩:=qf hp h4;exact .inr ⟨by simpa using q2,q1⟩
theorem E5a{K:List KV}(hp:xP K=true){L:List RW}{l:List IN}(hl:l.length=L.length){cn:Nat}{p:KP}(ho:xc K p=true)(ht:∀s∈p.loc++p.stk,uH s)(h:vj K L cn p=true){m:UP}(hm:m.p=uM K L cn p):qV (wY K) l m:=by
 unfold vj at h;simp only[Bool.and_eq_true,List.all_eq_true]at h;obtain⟨h1,h2,h3⟩:=h;have e1:m.pl=(plV L cn p.pl false:Nat):=congrArg UP.pl hm;have e2:m.loc=p.loc.map (yD K):=congrArg UP.loc hm;have e3:m.stk=p.stk.map (yD K):=congrArg UP.stk hm;unfold xc vx at ho;simp only[Bool.and_eq_true,decide_eq_true_eq]at ho;refine⟨by rw[e1,hl];exact kx h1,fun t NF=> ?_,fun t NF=> ?_,by rw[e2,List.length_map];omega,by rw[e3,List.length_map];omega⟩
 ·rw[e2]at NF;obtain⟨s,hs,rfl⟩:=List.mem_map.1 NF;exact fv hp (ht s (List.mem_append_left _ hs)) (h2 s hs)
 rw[e3]at NF;obtain⟨s,hs,rfl⟩:=List.mem_map.1 NF;exact fv hp (ht s (List.mem_append_right _ hs)) (h3 s hs)
theorem fM{K:List KV}(hp:xP K=true){t:List UInt8}(h:0<xm K t):uQ (wY K) t:=by
 unfold xm at h
 cases hf:K.findIdx? (wR t)with
 |none=>rw[hf]at h;exact absurd h (by decide)
 |some i=>
 obtain⟨hi,he,_⟩:=List.findIdx?_eq_some_iff_getElem.1 hf;have he:=of_decide_eq_true he;have e:=uZ K i hi;have h1:isT K (i:Int) 1=true:=nX hp (by omega) (by rw[e];exact he.1) (by decide);have:=te hp h1;rw[sC h1,e,he.2]at this;exact this
theorem E3m{K:List KV}(hp:xP K=true)(hk:K.length<=120){k:KM}(ho:xF K k=true)(hc:vL K k=true)(s0:LW){m:UM}(hm:m.p=vC K k):q8 (wY K) s0 m:=by
 obtain⟨L,hL⟩:∃L,L=(xW k.code).2:=⟨_,rfl⟩;unfold vL at hc;simp only[Bool.and_eq_true,List.all_eq_true,decide_eq_true_eq]at hc;obtain⟨⟨c1,c2⟩,c3,c4,c5,c6⟩:=hc;rw[<-hL]at c4 c5 c6;have hd:xW k.code=(0,L):=by rw[hL,<-c3]
 unfold xF xK sZ ur tT at ho;simp only[Bool.and_eq_true,List.all_eq_true,decide_eq_true_eq]at ho;obtain⟨⟨⟨⟨⟨⟨⟨o1,o2⟩,o3⟩,o4⟩,o5⟩,o6⟩,o7⟩,o8⟩:=ho;have e1:m.nm=yN K k.nm:=congrArg UM.nm hm;have e2:m.ds=yN K k.ds:=congrArg UM.ds hm;have e3:m.sk=k.st:=congrArg UM.sk hm;have e4:m.lo=k.lo:=congrArg UM.lo hm;have e5:m.code=L.map (xT K L):=by rw[hL];exact congrArg UM.code hm
 have e6:m.traps=k.traps.map (vU K L k.cn):=by rw[hL];exact congrArg UM.traps hm
 have e7:m.maps.map UP.p=k.maps.map (uM K L k.cn):=by rw[hL];exact congrArg UM.maps hm
 have hl:m.code.length=L.length:=by rw[e5,List.length_map]
 have UH:m.maps.length=k.maps.length:=by
  have:=congrArg List.length e7
  rwa [List.length_map,List.length_map]at this
 refine⟨by rw[e1];exact c1,by rw[e2];exact c2,by rw[e1];exact te hp o2,by rw[e2];exact te hp o3,fM hp o8.1,fun ZF=> ?_,by rw[e3,e4];exact o4,?_,fun t ht=> ?_,fun t ht=> ?_,by rw[e6,List.length_map];omega,by omega⟩
 ·rcases o8.2 with h|h
  ·exact absurd (List.length_eq_zero_iff.1 (by omega)) ZF
  exact fM hp h
 ·rw[e5];exact E2j hp hk hd o5.1 (List.all_eq_true.2 c4) s0
 ·rw[e6]at ht;obtain⟨q,hq,rfl⟩:=List.mem_map.1 ht;exact E3z hp hl (c5 q hq)
 have h1:t.p∈k.maps.map (uM K L k.cn):=by rw[<-e7];exact List.mem_map_of_mem ht
 obtain⟨q,hq,e⟩:=List.mem_map.1 h1;obtain⟨_,_,t1,t2⟩:=i' (o7 q hq)
 exact E5a hp hl (o7 q hq) (fun s hs=>by
  rcases List.mem_append.1 hs with h|h
  ·exact t1 s h
  exact t2 s h) (c6 q hq) e.symm
theorem E3v{f:KF}(hk:f.pool.length<=120)(hc:vK f=true){u:UU}(hu:u.p=ue f):qa (wY f.pool) u:=by
 unfold vK at hc;simp only[Bool.and_eq_true,List.all_eq_true]at hc;obtain⟨c1,c2,c3,c4,c5⟩:=hc;unfold xn at c1;simp only[Bool.and_eq_true,List.all_eq_true,decide_eq_true_eq]at c1;obtain⟨⟨⟨⟨⟨o1,o2⟩,o3⟩,o4⟩,o5⟩,o6⟩:=c1;have JG:=ja f.pool;have e1:u.nm=(yQ f.pool f.th).1:=congrArg UU.nm hu
 have e2:u.su=if f.su=0 then []else(yQ f.pool f.su).1:=congrArg UU.su hu
 have e3:u.fields=f.fields.map (vt f.pool):=congrArg UU.fields hu;have e4:u.methods.map UM.p=f.methods.map (vC f.pool):=congrArg UU.methods hu;obtain⟨q1,q2⟩:=qf o1 c2;refine⟨by omega,by rw[e1];exact⟨by simpa using q2,q1⟩,?_,fun d hd=> ?_,by rw[e3,List.length_map];omega,fun m hm=> ?_,?_⟩
 ·rw[e2];by_cases hz:f.su=0
  ·rw[if_pos hz];exact .inl rfl
  rw[if_neg hz];rw[Bool.or_eq_true]at c3
  rcases c3 with h|h
  ·exact absurd (of_decide_eq_true h) hz
  obtain⟨r1,r2⟩:=qf o1 h;exact .inr ⟨by simpa using r2,r1⟩
 ·rw[e3]at hd;obtain⟨x,hx,rfl⟩:=List.mem_map.1 hd;exact D8c o1 (o5 x hx) (c4 x hx)
 ·have h1:m.p∈f.methods.map (vC f.pool):=by rw[<-e4];exact List.mem_map_of_mem hm
  obtain⟨x,hx,e⟩:=List.mem_map.1 h1;exact E3m o1 hk (o6 x hx) (c5 x hx) _ e.symm
 have:=congrArg List.length e4;rw[List.length_map,List.length_map]at this;omega
theorem D7i{f:KF}(hk:f.pool.length<=120)(hc:vK f=true){u:UU}(hu:u.p=ue f):un u=0:=(E3v hk hc hu).low
theorem fA{n:Int}(h:xZ n):yw n:=by
 unfold xZ Lit.wf at h;simp only[Bool.and_eq_true,decide_eq_true_eq]at h;exact h
theorem E2d{u:UU}{w:World}(h:u.Fit)(hr:u.Rd w):u.Big:=by
 have a1:=h.nm;have a2:=h.su;have a3:=h.fields;have a4:=h.methods;have l1:=hr.fields.1;have l2:=hr.methods.1;refine⟨by omega,by omega,by omega,by omega,fun f hf=> ?_,fun m hm=> ?_⟩
 ·have:=h.fd f hf;omega
 have q:=h.mt m hm;have r:=hr.each m hm;have r1:=r.code.1;have r2:=r.traps.1;have r3:=r.maps.1;have b1:=q.nm;have b2:=q.ds;have b3:=q.code;have b4:=q.traps;have b5:=q.maps;refine⟨by omega,by omega,by omega,by omega,by omega,fun x hx=> ?_,fun t ht=> ?_,fun p hp=> ?_⟩
 ·have k:=q.ins x hx;have k1:=k.cl;have k2:=k.nm;have k3:=k.ds;have k4:=k.tx;exact⟨k.op,fA k.n,fA k.m,by omega,by omega,by omega,by omega⟩
 ·have:=q.tr t ht;omega
 have k:=q.mp p hp;have s:=r.each p hp;have s1:=s.loc.1;have s2:=s.stk.1;have k1:=k.loc;have k2:=k.stk;exact⟨by omega,by omega,fun t ht=>by have:=k.lt t ht;omega,fun t ht=>by have:=k.st t ht;omega⟩
theorem walk_AsmBack(f:KF)(w:World)(h0:eF w f)(hv:VW w):
  Calls prog 5 #[.agg f.vals] w fun e w'=>e= .returned (.bool true)/\Below w.heap.size w w':=by
 obtain⟨hr,UY,JM,Gj,Gs⟩:=h0;have HX:=Z' hr;have M2:=Z' UY;have NR:=Z' (E4z JM);have Pc:=Z' Gj;have Ad:=Z' Gs;have HV:=Z' hv;have Ku:=yV w (.cells #[.slice f.pa f.pn f.pc,.int .i64 f.th,.int .i64 f.su,.slice f.fa f.fn f.fc,.slice f.ma f.mn f.mc] FlT);have Y8:=Z9 ((w.alloc (.cells #[.slice f.pa f.pn f.pc,.int .i64 f.th,.int .i64 f.su,.slice f.fa f.fn f.fc,.slice f.ma f.mn f.mc] FlT)).heap[w.heap.size]? =some (.cells f.cells.toArray FlT (0,0))) (heap_alloc_last w _);have Zp:=Z' Ku;clear Ku hr UY JM Gj Gs hv;change Calls prog 5 #[.agg #[.slice f.pa f.pn f.pc,.int .i64 f.th,.int .i64 f.su,.slice f.fa f.fn f.fc,.slice f.ma f.mn f.mc]] w _;go_enter func5,ntmps5
 go_upto_region 1 with fail
 generalize w.alloc _=w0 at*;obtain⟨bf,Kd⟩:∃b,b=w.heap.size:=⟨_,rfl⟩;rw[<-Kd]at Y8⊢;clear Kd;have Sk:=Z' (D6i w0 (HV.out.below Zp.out))
 go_wp2_with fail
 refine Sk.out.mono ?_;rintro e w1 ⟨rfl,ZQ⟩;have ZM:=Z7 Zp ZQ;have Y3:=Z' (yW Y8.out ZQ);clear ZQ Sk Y8 Zp;have k0:=y8 Y3.out 0 rfl;have k1:=y8 Y3.out 1 rfl;have k2:=y8 Y3.out 2 rfl;have k3:=y8 Y3.out 3 rfl;have k4:=y8 Y3.out 4 rfl;dsimp only[KF.cells]at k0 k1 k2 k3 k4;have P1:=Z' (E0e w1 f (HX.out.below ZM.out) M2.out);unfold KF.vals at P1
 go_wp2_with fail
 refine P1.out.mono ?_;rintro e w2 ⟨bw,rfl,ZN,DM⟩;have ZT:=Z7 ZM ZN;have Y':=Z' (yW Y3.out ZN);have Nv:=Z' DM;clear ZN DM P1 Y3 ZM k0 k1 k2 k3 k4
 cases bw with
 |false=>
  go_wp2_with fail
  go_ret;exact⟨rfl,ZT.out⟩
 |true=>
 have Lb:=Z' ((Nv.out rfl).fit HX.out Pc.out Ad.out);have Yn:=Z' (qB HX.out Lb.out);have k0:=y8 Y'.out 0 rfl;have k1:=y8 Y'.out 1 rfl;have k2:=y8 Y'.out 2 rfl;have k3:=y8 Y'.out 3 rfl;have k4:=y8 Y'.out 4 rfl;dsimp only[KF.cells]at k0 k1 k2 k3 k4;have P2:=Z' (show f.pool.length<=120 by have:=(Nv.out rfl).1;have h2:=HX.out.pool.1;omega);have Pj:=Z' (D2j w2 f (HX.out.below ZT.out) Lb.out M2.out)
 go_wp2_with fail
 refine Pj.out.mono ?_;rintro e w3 ⟨v,ok,rfl,q1,q2,-,Zn⟩;have ZG:=Z7 ZT Zn;have SM:=Z' q1;have WF:=Z' q2;clear Zn q1 q2 Pj Y' ZT Nv k0 k1 k2 k3 k4;obtain⟨vnm,vsu,vfa,vfn,vfc,vfs,vma,vmn,vmc,vms⟩:=v;dsimp only[UU.cells]
 go_upto_region 6 with fail
 have ZY:=yV w3 (.cells #[.string ⟨vnm.toArray⟩,.string ⟨vsu.toArray⟩,.slice vfa vfn vfc,.slice vma vmn vmc] UnT);have YY:=Z7 ZG ZY;have Hj:=Z' (fun h=>(WF.out h).2.rd.below ZY);have LG:=Z' (heap_alloc_last w3 (.cells #[.string ⟨vnm.toArray⟩,.string ⟨vsu.toArray⟩,.slice vfa vfn vfc,.slice vma vmn vmc] UnT));have GW:=Z' (fun h=>(WF.out h).1);clear ZY ZG WF;generalize w3.alloc _=w4 at*;generalize w3.heap.size=gv at*;have y0:=y8 LG.out 0 rfl;have y1:=y8 LG.out 1 rfl;have y2:=y8 LG.out 2 rfl;have y3:=y8 LG.out 3 rfl
 cases ok with
 |false=>
  go_wp2_with fail
  go_ret;exact⟨rfl,YY.out⟩
 |true=>
 have UB:=Z9 (vK f=true) SM.out.symm;have St:=Z' (D7z (GW.out (by trivial)) UB.out Yn.out NR.out);have P1:=Z' (D7t w4 ⟨vnm,vsu,vfa,vfn,vfc,vfs,vma,vmn,vmc,vms⟩ (Hj.out (by trivial)) (E2d St.out (Hj.out (by trivial))));dsimp only[UU.cells]at P1
 go_wp2_with fail
 refine P1.out.mono ?_;rintro e w5 ⟨bw,rfl,Yi,-⟩;have X9:=Z7 YY Yi;have LE:=Z' ((Hj.out (by trivial)).below Yi);have Sj:=Z' (yW LG.out Yi);clear Yi P1 YY Hj LG y0 y1 y2 y3;have y0:=y8 Sj.out 0 rfl;have y1:=y8 Sj.out 1 rfl;have y2:=y8 Sj.out 2 rfl;have y3:=y8 Sj.out 3 rfl
 cases bw with
 |false=>
  go_wp2_with fail
  go_ret;exact⟨rfl,X9.out⟩
 |true=>
 have Xt:=Z' (D7i P2.out UB.out (GW.out (by trivial)));have TU:=Z' (nf w5 ⟨vnm,vsu,vfa,vfn,vfc,vfs,vma,vmn,vmc,vms⟩ LE.out St.out (HV.out.below X9.out));dsimp only[UU.cells]at TU
 go_wp2_with fail
 refine TU.out.mono ?_;rintro e w6 ⟨x,rfl,q1,-,Yy⟩;obtain⟨KZ,Pm,Ky⟩:=q1 Xt.out;have LK:=Z' Ky;have NJ:=Z' (E0g ⟨vnm,vsu,vfa,vfn,vfc,vfs,vma,vmn,vmc,vms⟩ (fun m hm y hy=>((St.out.mt m hm).ins y hy).op) Xt.out x KZ (fun m hm=>(Pm.each m hm).code.1.symm));have U6:=Z7 X9 Yy;have BS:=Z' (LE.out.below Yy);have K7:=Z' (yW Sj.out Yy);have KR:=Z' Pm;rw[Xt.out];clear Yy q1 KZ Pm Ky TU X9 LE Sj y0 y1 y2 y3;dsimp only[KF.cells]
 go_upto_region 9 with fail
 have ZY:=yV w6 (.cells #[.slice x.pa x.pn x.pc,.int .i64 x.th,.int .i64 x.su,.slice x.fa x.fn x.fc,.slice x.ma x.mn x.mc] xq);have XB:=Z7 U6 ZY;have B2:=Z' (BS.out.below ZY);have J2:=Z' (yW K7.out ZY);have Mb:=Z' (KR.out.below ZY);have Xb:=Z' (heap_alloc_last w6 (.cells #[.slice x.pa x.pn x.pc,.int .i64 x.th,.int .i64 x.su,.slice x.fa x.fn x.fc,.slice x.ma x.mn x.mc] xq));clear ZY U6 BS K7 KR;generalize w6.alloc _=w7 at*;generalize w6.heap.size=gx at*;have k0:=y8 Xb.out 0 rfl;have k1:=y8 Xb.out 1 rfl;have k2:=y8 Xb.out 2 rfl;have k3:=y8 Xb.out 3 rfl;have k4:=y8 Xb.out 4 rfl;have VN:=Z' (mP w7 x Mb.out LK.out (HV.out.below XB.out) (qB Mb.out LK.out))
 go_wp2_with fail
 refine VN.out.mono ?_;rintro e w8 ⟨z,er,rfl,q1,q2,-,-,q5,Wr⟩;obtain rfl:er=0:=q1.2 NJ.out.1;have RK:=Z7 XB Wr;have DV:=Z' (B2.out.below Wr);have Lr:=Z' (yW J2.out Wr);have U0:=Z' q5.rd;have AM:=Z' ((q2 rfl).trans NJ.out.2);clear Wr q1 q2 q5 VN XB B2 J2 Mb Xb k0 k1 k2 k3 k4;obtain⟨znm,zsu,zfa,zfn,zfc,zfs,zma,zmn,zmc,zms⟩:=z;dsimp only[UU.cells]
 go_upto_region 10 with fail
 have ZY:=yV w8 (.cells #[.string ⟨znm.toArray⟩,.string ⟨zsu.toArray⟩,.slice zfa zfn zfc,.slice zma zmn zmc] UnT);have Ut:=Z7 RK ZY;have zD:=Z' (DV.out.below ZY);have Pf:=Z' (yW Lr.out ZY);have Pk:=Z' (U0.out.below ZY);have Hm:=Z' (heap_alloc_last w8 (.cells #[.string ⟨znm.toArray⟩,.string ⟨zsu.toArray⟩,.slice zfa zfn zfc,.slice zma zmn zmc] UnT));clear ZY RK DV Lr U0;generalize w8.alloc _=w9 at*;generalize w8.heap.size=gz at*;have y0:=y8 Pf.out 0 rfl;have y1:=y8 Pf.out 1 rfl;have y2:=y8 Pf.out 2 rfl;have y3:=y8 Pf.out 3 rfl;have z0:=y8 Hm.out 0 rfl;have z1:=y8 Hm.out 1 rfl;have z2:=y8 Hm.out 2 rfl;have z3:=y8 Hm.out 3 rfl;have ZJ:=Z' (ii w9 ⟨vnm,vsu,vfa,vfn,vfc,vfs,vma,vmn,vmc,vms⟩ ⟨znm,zsu,zfa,zfn,zfc,zfs,zma,zmn,zmc,zms⟩ zD.out Pk.out AM.out.symm St.out);dsimp only[UU.cells]at ZJ
 go_wp2_with fail
 refine ZJ.out.mono ?_;rintro e w10 ⟨rfl,QT⟩;have E2:=Z7 Ut QT;clear QT
 go_wp2_with fail
 go_ret;exact⟨rfl,E2.out⟩
end
end Go.Proofs.YtclpkipaehpkdaaGreatDoor
