/- asm -/
import Derived.Test.YtclpkipaehpkdaaGreatDoorQ00AsmMade
set_option linter.unusedVariables false
set_option linter.unusedSimpArgs false
set_option maxRecDepth 100000
set_option maxHeartbeats 64000000
namespace Go.Proofs.YtclpkipaehpkdaaGreatDoor
section
open Go.RowKit
def A4j(P:Program)(S:World->Prop)(v:Value):Result Next->Prop
 | .ok (.value u) w'=>u=v/\S w'
 | .ok (.enter f args) w'=>Calls P f args w' fun e w''=>e= .returned v/\S w''
 |_=>False
def A9h(P:Program)(ops:Array Oper)(S:World->Prop)(o:Oper)(v:Value)(a:Act):Prop:=
 (Region.wanted o (yielded ops a.tmps)=true/\∀w,S w->A4j P S v ((execOp a.eval o).run P w))\/
 (Region.wanted o (yielded ops a.tmps)=false/\v=undef)
section
variable {P:Program} {ops:Array Oper} {Q:Exit->Act->World->Prop} {md:Region.Mode} {S:World->Prop}
theorem A9h.of_same{o:Oper}{v:Value}{a a':Act}(hy:A9h P ops S o v a)(he:execOp a'.eval o=execOp a.eval o)
  (hw:Region.wanted o (yielded ops a'.tmps)=Region.wanted o (yielded ops a.tmps)):A9h P ops S o v a':=by
 unfold A9h at*;rw[he,hw];exact hy
theorem A4j.wp{o:Oper}{v:Value}{a:Act}{w:World}{K:Act->World->Prop}(h:A4j P S v ((execOp a.eval o).run P w))(hK:∀w',S w'->K (a.put o.dst v) w'):o.wp P a w K Q:=by
 unfold Oper.wp;generalize(execOp a.eval o).run P w=r at*
 cases r with
 |ok n w'=>
  cases n<;>simp only[A4j,Oper.upon]at h⊢
  case value u=>obtain⟨rfl,hs⟩:=h;exact hK _ hs
  case enter f args=>
   refine Calls.mono h fun e w'' he=> ?_
   obtain⟨rfl,hs⟩:=he;exact hK _ hs
 |halt x w'=>cases x<;>simp only[A4j]at h
theorem A9h.wpOp{i:Nat}{o:Oper}{v:Value}{a:Act}(hi:ops[i]? =some o)(hy:A9h P ops S o v a)
  {K:Act->World->Prop} {w:World} (hS:S w) (h:∀w',S w'->K (a.put o.dst v) w'):wpOp P ops Q i K a w:=by
 unfold Go.wpOp;simp only[hi]
 rcases hy with⟨hw,hv⟩|⟨hw,rfl⟩
 ·simp only[hw,if_true];exact .inl ((hv w hS).wp h)
 simp only[hw,Bool.false_eq_true,if_false];exact h w hS
def A2c(P:Program)(ops:Array Oper)(S:World->Prop)(i:Nat)(b:Bool)(K:Act->Prop)(a:Act):Prop:=
 match ops[i]? with
 |none=>False
 |some o=>
  if Region.wanted o (yielded ops a.tmps)=true then
   (match b with
    |true=>∃v,(∀w',S w'->(execOp a.eval o).run P w'= .ok (.value v) w')/\K (a.put o.dst v)
    |false=>∃v,(∀w',S w'->A4j P S v ((execOp a.eval o).run P w'))/\K (a.put o.dst v))
  else K (a.put o.dst undef)
def B2n(P:Program)(ops:Array Oper)(Q:Exit->Act->World->Prop)(S:World->Prop):List (Nat×Bool)->Act->Prop
 |[],a=>∀w,S w->Q .normal a w
 |(i,b)::l,a=>A2c P ops S i b (B2n P ops Q S l) a
def B3v(P:Program)(ops:Array Oper)(Q:Exit->Act->World->Prop)(S:World->Prop):List Nat->Act->Prop
 |[],a=>∀w,S w->Q .normal a w
 |i::l,a=>∃o v,ops[i]? =some o/\A9h P ops S o v a/\B3v P ops Q S l (a.put o.dst v)
theorem D3y:∀(l:List (Nat×Bool)) (a:Act),B2n P ops Q S l a->B3v P ops Q S (l.map (·.1)) a:=by
 intro l
 induction l with
 |nil=>exact fun a h=>h
 |cons p l ih=>
  obtain⟨i,b⟩:=p;intro a h;change A2c P ops S i b (B2n P ops Q S l) a at h;unfold A2c at h
  cases ho:ops[i]? with
  |none=>rw[ho]at h;exact h.elim
  |some o=>
  rw[ho]at h;simp only at h;by_cases hw:Region.wanted o (yielded ops a.tmps)=true
  ·rw[if_pos hw]at h
   cases b with
   |true=>
    obtain⟨v,h1,h2⟩:=h;exact⟨o,v,ho,.inl ⟨hw,fun w hs=>by rw[h1 w hs];exact⟨rfl,hs⟩⟩,ih _ h2⟩
   |false=>
   obtain⟨v,h1,h2⟩:=h;exact⟨o,v,ho,.inl ⟨hw,h1⟩,ih _ h2⟩
  rw[if_neg hw]at h;exact⟨o,undef,ho,.inr ⟨by simpa using hw,rfl⟩,ih _ h⟩
def D3p(ops:Array Oper)(listed:Array Bool)(i:Nat):Prop:=
 ∀oi,ops[i]? =some oi->∀j oj,ops[j]? =some oj->j≠i->listed.getD j true=false->(∀e∈oj.after,Region.binds .any e=true->e.on≠i)->oi.apart ops oj=true
def B7t(ops:Array Oper):Array Bool->List Nat->Prop
 |listed,[]=>Region.ready .any ops listed=[]
 |listed,i::l=>i∈Region.ready .any ops listed/\D3p ops listed i/\B7t ops (listed.setIfInBounds i true) l
theorem D3p.mono{listed:Array Bool}{i j:Nat}(h:D3p ops listed i):D3p ops (listed.setIfInBounds j true) i:=by
 intro oi hi k ok hk hki hun hno;refine h oi hi k ok hk hki ?_ hno;by_cases hjk:j=k
 ·subst hjk;by_cases hl:j<listed.size
  ·simp[hl]at hun
  rw[Array.setIfInBounds_eq_of_size_le (by omega)]at hun;exact hun
 rw[getD_set_ne true hjk]at hun;exact hun
theorem C9g(hs:Region.noSelect ops=true):∀(l:List Nat) (listed:Array Bool) (j:Nat),B7t ops listed l->j∈Region.ready .any ops listed->
  j∈l/\B7t ops (listed.setIfInBounds j true) (l.erase j)/\∀a,B3v P ops Q S l a->B3v P ops Q S (j::l.erase j) a:=by
 intro l
 induction l with
 |nil=>intro listed j hc hj;rw[show Region.ready .any ops listed=[]from hc]at hj;cases hj
 |cons i l ih=>
  intro listed j hc hj;obtain⟨hr,hf,hc'⟩:=hc;by_cases hji:j=i
  ·subst hji;simp only[List.erase_cons_head];exact⟨by simp,hc',fun a h=>h⟩
  obtain⟨hjl,hcj,hmv⟩:=ih _ j hc' (ready_mono hj hji);have hij:(i==j)=false:=by simp[Ne.symm hji]
  rw[List.erase_cons_tail (by rw[hij];decide)];refine⟨by simp[hjl],⟨ready_mono hr (Ne.symm hji),hf.mono,?_⟩,fun a h=> ?_⟩
  ·rw[Array.setIfInBounds_comm _ _ hji];exact hcj
  obtain⟨oi,v,hoi,hyi,hrest⟩:=h;obtain⟨oj,u,hoj,hyj,hrest'⟩:=hmv _ hrest;obtain⟨hjun,oj',hoj',hall⟩:=mem_ready.1 hj
  obtain rfl:oj'=oj:=by rw[hoj]at hoj';exact(Option.some.inj hoj').symm
  have hnot:∀e∈oj'.after,Region.binds .any e=true->e.on≠i:=fun e he hb heq=>by
   have h1:=hall e he hb;have h0:=(mem_ready.1 hr).1;rw[heq]at h1
   rcases Nat.lt_or_ge i listed.size with h'|h'
   ·simp[h']at h0 h1;rw[h0]at h1;cases h1
   simp[Array.getElem?_eq_none h']at h1
  have hap:=hf oi hoi j oj' hoj hji hjun hnot;obtain⟨h1,h2,h3⟩:=Oper.apart_spec hap;have hsi:∀cs b,oi.op≠ .select cs b:=fun cs b=>Region.noSelect_spec hs i oi cs b hoi
  have hsj:∀cs b,oj'.op≠ .select cs b:=fun cs b=>Region.noSelect_spec hs j oj' cs b hoj
  have hyj':A9h P ops S oj' u a:=hyj.of_same (execOp_put oj' hsj a oi.dst v h1).symm (wanted_put oj' a oi.dst v h1).symm
  refine⟨oj',u,hoj,hyj',oi,v,hoi,hyi.of_same (execOp_put oi hsi a oj'.dst u h3) (wanted_put oi a oj'.dst u h3),?_⟩;rw[<-Act.put_comm a v u h2];exact hrest'
theorem C6t(hs:Region.noSelect ops=true):∀(n:Nat) (l:List Nat) (listed:Array Bool) (a:Act),l.length=n->B7t ops listed l->B3v P ops Q S l a->
  ∀w,S w->wpAnyH P .any ops Q S n listed a w:=by
 intro n
 induction n with
 |zero=>
  intro l listed a hl hc h w hS;obtain rfl:=List.eq_nil_of_length_eq_zero hl;exact⟨hc,h w hS⟩
 |succ n ih=>
  intro l listed a hl hc h w hS;refine⟨fun h0=> ?_,fun j hj=> ?_⟩
  ·cases l with
   |nil=>simp at hl
   |cons i l=>obtain⟨hr,_⟩:=hc;rw[h0]at hr;cases hr
  obtain⟨hjl,hcj,hmv⟩:=C9g (P:=P) (Q:=Q) (S:=S) hs l listed j hc hj;obtain⟨o,v,ho,hy,hrest⟩:=hmv a h;refine hy.wpOp ho hS fun w' hs'=>⟨hs',?_⟩
  exact ih (l.erase j) _ _ (by rw[List.length_erase_of_mem hjl];omega) hcj hrest w' hs'
inductive B5b where
 |stir:List (Nat×Bool)->B5b
 |step:Nat->Bool->B5b->B5b
 |fork:Nat->B5b->Nat->B5b->B5b
 |fork3:Nat->B5b->Nat->B5b->Nat->B5b->B5b
def A4e(P:Program)(ops:Array Oper)(Q:Exit->Act->World->Prop):B5b->(World->Prop)->Act->World->Prop
 | .stir l,S,a,w=>∃S':World->Prop,(∀x,S' x->S x)/\S' w/\B2n P ops Q S' l a
 | .step i b l,S,a,w=>∃S':World->Prop,(∀x,S' x->S x)/\A4n P ops Q S' i b (A4e P ops Q l S') a w
 | .fork i l j m,S,a,w=>∃S':World->Prop,(∀x,S' x->S x)/\A4n P ops Q S' i false (A4e P ops Q l S') a w/\A4n P ops Q S' j false (A4e P ops Q m S') a w
 | .fork3 i l j m k r,S,a,w=>∃S':World->Prop,(∀x,S' x->S x)/\A4n P ops Q S' i false (A4e P ops Q l S') a w/\A4n P ops Q S' j false (A4e P ops Q m S') a w/\A4n P ops Q S' k false (A4e P ops Q r S') a w
def A7q(ops:Array Oper):Array Bool->List (Nat×Bool)->Bool
 |listed,[]=>(Region.ready .any ops listed).isEmpty
 |listed,(i,_)::l=>Region.free .any ops listed i&&(Region.ready .any ops listed).contains i&&A7q ops (listed.setIfInBounds i true) l
def A7d(ops:Array Oper):Nat->Array Bool->B5b->Bool
 |n,listed,.stir l=>(l.length==n)&&A7q ops listed l
 |n+1,listed,.step i b l=>(if b then Region.free .any ops listed i&&(Region.ready .any ops listed).contains i else Region.ready .any ops listed==[i])&&A7d ops n (listed.setIfInBounds i true) l
 |n+1,listed,.fork i l j m=>(Region.ready .any ops listed==[i,j])&&A7d ops n (listed.setIfInBounds i true) l&&A7d ops n (listed.setIfInBounds j true) m
 |n+1,listed,.fork3 i l j m k r=>(Region.ready .any ops listed==[i,j,k])&&A7d ops n (listed.setIfInBounds i true) l&&A7d ops n (listed.setIfInBounds j true) m&&A7d ops n (listed.setIfInBounds k true) r
 |_,_,_=>false
theorem C2n:∀(l:List (Nat×Bool)) (listed:Array Bool),A7q ops listed l=true->B7t ops listed (l.map (·.1)):=by
 intro l
 induction l with
 |nil=>intro listed h;show Region.ready .any ops listed=[];simpa[A7q]using h
 |cons p l ih=>
  obtain⟨i,b⟩:=p;intro listed h;simp only[A7q,Bool.and_eq_true]at h;obtain⟨⟨hf,hr⟩,hc⟩:=h;exact⟨by simpa using hr,fun oi hoi=>Region.free_spec hoi hf,ih _ hc⟩
theorem C5g(hs:Region.noSelect ops=true)(hQ:∀c a d v w,Q (.panic c) (a.put d v) w->Q (.panic c) a w):
  ∀(l:B5b) (S:World->Prop) (n:Nat) (listed:Array Bool) (a:Act) (w:World),A7d ops n listed l=true->A4e P ops Q l S a w->wpAnyH P .any ops Q S n listed a w:=by
 intro l
 induction l with
 |stir l=>
  intro S n listed a w hc h
  have hc':((l.length==n)&&A7q ops listed l)=true:=by cases n<;>exact hc
  simp only[Bool.and_eq_true,beq_iff_eq]at hc';obtain⟨hl,hk⟩:=hc';obtain⟨S',hSS,hw,h⟩:=h
  exact A6r hSS _ _ _ _ (C6t hs n (l.map (·.1)) listed a (by simpa using hl) (C2n _ _ hk) (D3y _ _ h) w hw)
 |step i b l ih=>
  intro S n listed a w hc h
  cases n with
  |zero=>simp[A7d]at hc
  |succ n=>
  simp only[A7d,Bool.and_eq_true]at hc;obtain⟨hc1,hc2⟩:=hc;obtain⟨S',hSS,h⟩:=h;refine A6r hSS _ _ _ _ ?_;unfold A4n at h
  cases ho:ops[i]? with
  |none=>rw[ho]at h;exact h.elim
  |some o=>
  rw[ho]at h;simp only at h
  cases b with
  |true=>
   simp only[if_true,Bool.and_eq_true]at hc1;obtain⟨hf,hr⟩:=hc1;by_cases hw:Region.wanted o (yielded ops a.tmps)=true
   ·rw[if_pos hw]at h;obtain⟨v,h1,h2,h3⟩:=h;exact wpAnyH_take ho hs hf hr (fun c a w=>hQ c a _ _ w) (.inl ⟨hw,h1⟩) h2 (ih _ _ _ _ _ hc2 h3)
   rw[if_neg hw]at h;exact wpAnyH_take ho hs hf hr (fun c a w=>hQ c a _ _ w) (.inr ⟨by simpa using hw,rfl⟩) h.1 (ih _ _ _ _ _ hc2 h.2)
  |false=>
  simp only[Bool.false_eq_true,if_false]at hc1;have hr:Region.ready .any ops listed=[i]:=by simpa using hc1
  refine wpAnyH_all hr (by simp) (fun j hj=> ?_);obtain rfl:j=i:=by simpa using hj
  unfold wpOp;rw[ho];simp only;by_cases hw:Region.wanted o (yielded ops a.tmps)=true
  ·rw[if_pos hw]at h;simp only[hw,if_true];exact .inl (Oper.wp_mono (fun a' w' h'=>⟨h'.1,ih _ _ _ _ _ hc2 h'.2⟩) h)
  rw[if_neg hw]at h;simp only[hw];exact⟨h.1,ih _ _ _ _ _ hc2 h.2⟩
 |fork i l j m ih1 ih2=>
  intro S n listed a w hc h
  cases n with
  |zero=>simp[A7d]at hc
  |succ n=>
  simp only[A7d,Bool.and_eq_true]at hc;obtain⟨⟨hc1,hc2⟩,hc3⟩:=hc;have hr:Region.ready .any ops listed=[i,j]:=by simpa using hc1
  obtain⟨S',hSS,h1,h2⟩:=h;refine A6r hSS _ _ _ _ ?_;refine wpAnyH_all hr (by simp) (fun k hk=> ?_);have hk':k=i\/k=j:=by simpa using hk
  rcases hk' with rfl|rfl
  ·unfold A4n at h1
   cases ho:ops[k]? with
   |none=>rw[ho]at h1;exact h1.elim
   |some o=>
   rw[ho]at h1;simp only at h1;unfold wpOp;rw[ho];simp only;by_cases hw:Region.wanted o (yielded ops a.tmps)=true
   ·rw[if_pos hw]at h1;simp only[hw,if_true];exact .inl (Oper.wp_mono (fun a' w' h'=>⟨h'.1,ih1 _ _ _ _ _ hc2 h'.2⟩) h1)
   rw[if_neg hw]at h1;simp only[hw];exact⟨h1.1,ih1 _ _ _ _ _ hc2 h1.2⟩
  unfold A4n at h2
  cases ho:ops[k]? with
  |none=>rw[ho]at h2;exact h2.elim
  |some o=>
  rw[ho]at h2;simp only at h2;unfold wpOp;rw[ho];simp only;by_cases hw:Region.wanted o (yielded ops a.tmps)=true
  ·rw[if_pos hw]at h2;simp only[hw,if_true];exact .inl (Oper.wp_mono (fun a' w' h'=>⟨h'.1,ih2 _ _ _ _ _ hc3 h'.2⟩) h2)
  rw[if_neg hw]at h2;simp only[hw];exact⟨h2.1,ih2 _ _ _ _ _ hc3 h2.2⟩
 |fork3 i l j m k r ih1 ih2 ih3=>
  intro S n listed a w hc h
  cases n with
  |zero=>simp[A7d]at hc
  |succ n=>
  simp only[A7d,Bool.and_eq_true]at hc;obtain⟨⟨⟨hc1,hc2⟩,hc3⟩,hc4⟩:=hc;have hr:Region.ready .any ops listed=[i,j,k]:=by simpa using hc1
  obtain⟨S',hSS,h1,h2,h3⟩:=h;refine A6r hSS _ _ _ _ ?_
  have one:∀(x:Nat) (y:B5b),(∀(a:Act) (w:World),A4e P ops Q y S' a w->wpAnyH P .any ops Q S' n (listed.setIfInBounds x true) a w)->A4n P ops Q S' x false (A4e P ops Q y S') a w->
    wpOp P ops Q x (fun a' w'=>S' w'/\wpAnyH P .any ops Q S' n (listed.setIfInBounds x true) a' w') a w:=by
   intro x y ih h1;unfold A4n at h1
   cases ho:ops[x]? with
   |none=>rw[ho]at h1;exact h1.elim
   |some o=>
    rw[ho]at h1;simp only at h1;unfold wpOp;rw[ho];simp only;by_cases hw:Region.wanted o (yielded ops a.tmps)=true
    ·rw[if_pos hw]at h1;simp only[hw,if_true];exact .inl (Oper.wp_mono (fun a' w' h'=>⟨h'.1,ih _ _ h'.2⟩) h1)
    rw[if_neg hw]at h1;simp only[hw];exact⟨h1.1,ih _ _ h1.2⟩
  refine wpAnyH_all hr (by simp) (fun x hx=> ?_);have hx':x=i\/x=j\/x=k:=by simpa using hx
  rcases hx' with rfl|rfl|rfl
  ·exact one _ l (fun a w h=>ih1 _ _ _ _ _ hc2 h) h1
  ·exact one _ m (fun a w h=>ih2 _ _ _ _ _ hc3 h) h2
  exact one _ r (fun a w h=>ih3 _ _ _ _ _ hc4 h) h3
def B5b.of:List (Nat×Bool)->B5b->B5b
 |[],t=>t
 |(i,b)::l,t=> .step i b (B5b.of l t)
theorem A0h{id:Nat}{a:Act}{w:World}(S:World->Prop)(l:B5b)(hm:P.follows .mixedOrders=true)
  (hc:(Region.noSelect ops&&A7d ops ops.size (Array.replicate ops.size false) l)=true) (hQ:∀c a d v w,Q (.panic c) (a.put d v) w->Q (.panic c) a w)
  (h:A4e P ops Q l S a w.drew):(Code.region id ops true).wp P Q a w:=by
 simp only[Bool.and_eq_true]at hc;obtain⟨hs,hk⟩:=hc;exact wp_region_held hm (C5g (P:=P) (Q:=Q) hs hQ l S _ _ a _ hk h)
theorem A0b{i:Nat}{b:Bool}{l:B5b}{a:Act}{w:World}
  (h:∀K:Act->World->Prop,(∀a w,A4e P ops Q l S a w->K a w)->A4n P ops Q S i b K a w):A4e P ops Q (.step i b l) S a w:=⟨S,fun _ h=>h,h _ (fun _ _ h=>h)⟩
theorem A3e{i j:Nat}{l m:B5b}{a:Act}{w:World}
  (h1:∀K:Act->World->Prop,(∀a w,A4e P ops Q l S a w->K a w)->A4n P ops Q S i false K a w) (h2:∀K:Act->World->Prop,(∀a w,A4e P ops Q m S a w->K a w)->A4n P ops Q S j false K a w):A4e P ops Q (.fork i l j m) S a w:=
 ⟨S,fun _ h=>h,h1 _ (fun _ _ h=>h),h2 _ (fun _ _ h=>h)⟩
theorem A0m{l:List (Nat×Bool)}{a:Act}{w:World}(S':World->Prop)(hSS:∀x,S' x->S x)(hS:S' w)(h:B2n P ops Q S' l a):A4e P ops Q (.stir l) S a w:=⟨S',hSS,hS,h⟩
theorem A0i{i:Nat}{b:Bool}{l:List (Nat×Bool)}{a:Act}
  (h:∀K:Act->Prop,(∀a,B2n P ops Q S l a->K a)->A2c P ops S i b K a):B2n P ops Q S ((i,b)::l) a:=h _ (fun _ h=>h)
theorem A0p{a:Act}(h:∀w,S w->Q .normal a w):B2n P ops Q S [] a:=h
theorem A4j.call{v:Value}{f:FuncId}{args:Array Value}{w':World}(h:Calls P f args w' fun e w''=>e= .returned v/\S w''):A4j P S v (.ok (.enter f args) w'):=h
end
end
section
open Go.ChangeShapes Go.WideShapes Go.ChangeAt Go.RowKit
theorem E2a:C9i 215 231 (.int .u16 0) 2:=⟨Tryz.underlying215,by kernel_rfl,rfl⟩
theorem D8g(w:World)(u:Nat)(h1:u<65536):
  Calls Tryz.prog 175 #[.int .u16 u] w (D4z A5f 5 w.heap.size w (C0q u)):=by
 by_cases c1:1<=u/\u<128
 ·have hU:=D0z c1.1 c1.2;have HU:=hzz hU;obtain⟨c1,c2⟩:=c1;clear hU;go_enter Tryz.func175,Tryz.ntmps175
  go_wp2
  go_ret;exact⟨_,1,rfl,by rw[HU.out];exact World.ownsRow_lit w #[.int .u8 (u:Int)] 1 nlz (by decide) rfl,brz.alloc nlz _⟩
 by_cases c2:u<2048
 ·have hU:=D0t c1 c2;have HU:=hzz hU;clear hU;by_cases c0:u=0
  ·subst c0;go_enter Tryz.func175,Tryz.ntmps175
   go_wp2
   go_ret;exact⟨_,2,rfl,by rw[HU.out];exact World.ownsRow_lit w #[.int .u8 192,.int .u8 128] 2 nlz (by decide) rfl,brz.alloc nlz _⟩
  have c4:¬u<=127:=by omega
  go_enter Tryz.func175,Tryz.ntmps175
  go_wp2
  go_ret;exact⟨_,2,rfl,by rw[HU.out];exact World.ownsRow_lit w #[.int .u8 (192+(u:Int)/64),.int .u8 (128+(u:Int)%64)] 2 nlz (by decide) rfl,brz.alloc nlz _⟩
 have hU:=C2c c2 h1;have HU:=hzz hU;have c4:¬u<=127:=by omega
 clear hU;go_enter Tryz.func175,Tryz.ntmps175
 go_wp2
 go_ret;exact⟨_,3,rfl,by rw[HU.out];exact World.ownsRow_lit w #[.int .u8 (224+(u:Int)/4096),.int .u8 (128+(u:Int)/64%64),.int .u8 (128+(u:Int)%64)] 3 nlz (by decide) rfl,brz.alloc nlz _⟩
theorem C3s(w:World)(a:Option Addr)(n cap:Nat)(bs:List UInt8)(i:Nat)(hs:Sl A5f w a n bs)(hn:n<=65536)(hi:i<=65536):
  Calls Tryz.prog 186 #[.slice a n cap,.int .i64 i] w fun e w'=>e= .returned (.tuple #[.int .u16 ((A6y bs i).1:Nat),.bool (A6y bs i).2])/\w=w':=by
 have HS:=hzz hs;clear hs;by_cases hin:i<n
 ·obtain⟨b,off,rfl,hbl,hc⟩:=HS.out.2 (by omega);have hil:i<bs.length:=by rw[HS.out.1];exact hin
  have hck:w.cell? ⟨b,off+i,none⟩=some (.int .u8 (bs[i].toNat:Int)):=hc i hil
  have hT:A6y bs i=if bs[i].toNat/64=2 then(bs[i].toNat%64,true)else(0,false):=by
   unfold A6y;rw[List.getElem?_eq_getElem hil]
  obtain⟨c,hcq⟩:=exz (bs[i].toNat);have hc2:c<256:=by have:=bs[i].toNat_lt;omega
  rw[<-hcq]at hck hT;have HT:=hzz hT;clear hT hcq hc hbl;by_cases h2:c/64=2
  ·have HH:=hzz h2;have h3:((c:Int)/64 !=2)=false:=by simp;omega
   clear h2;go_enter Tryz.func186,Tryz.ntmps186
   go_wp2
   go_ret2;exact⟨by rw[HT.out,if_pos HH.out];rfl,rfl⟩
  have HH:=hzz h2;have h3:((c:Int)/64 !=2)=true:=by simp;omega
  clear h2;go_enter Tryz.func186,Tryz.ntmps186
  go_wp2
  go_ret2;exact⟨by rw[HT.out,if_neg HH.out];rfl,rfl⟩
 have hT:A6y bs i=(0,false):=by
  unfold A6y;rw[List.getElem?_eq_none (by rw[HS.out.1];omega)]
 have HT:=hzz hT;clear hT;go_enter Tryz.func186,Tryz.ntmps186
 go_wp2
 go_ret2;exact⟨by rw[HT.out];rfl,rfl⟩
def C7r(w:World)(p:Nat×Nat)(e:Ending)(w':World):Prop:=e= .returned (.tuple #[.int .u16 (p.1:Nat),.int .i64 (p.2:Nat)])/\w=w'
theorem D1u(w:World)(a:Option Addr)(n cap:Nat)(bs:List UInt8)(hs:Sl A5f w a n bs)(hn:n<=65536)(hp:0<n):
  Calls Tryz.prog 183 #[.slice a n cap] w (C7r w (B1u bs)):=by
 have HS:=hzz hs;clear hs;obtain⟨b,off,rfl,hbl,hc⟩:=HS.out.2 hp;have hil:0<bs.length:=by rw[HS.out.1];exact hp
 have hck:w.cell? ⟨b,off,none⟩=some (.int .u8 (bs[0].toNat:Int)):=hc 0 hil;have hx:=B3c bs 1;have hy:=B3c bs 2
 have hT:B1u bs=A3n bs[0].toNat (A6y bs 1).1 (A6y bs 1).2 (A6y bs 2).1 (A6y bs 2).2:=by
  unfold B1u;rw[List.getElem?_eq_getElem hil];rfl
 have t1:=fun w' hh=>C3s w' (some ⟨b,off,none⟩) n cap bs 1 hh hn (by decide)
 have t2:=fun w' hh=>C3s w' (some ⟨b,off,none⟩) n cap bs 2 hh hn (by decide)
 obtain⟨c,hcq⟩:=exz (bs[0].toNat);have hc2:c<256:=by have:=bs[0].toNat_lt;omega
 rw[<-hcq]at hck hT;obtain⟨x,hxq⟩:∃x,x=(A6y bs 1).1:=⟨_,rfl⟩;obtain⟨one,h1q⟩:∃x,x=(A6y bs 1).2:=⟨_,rfl⟩;obtain⟨y,hyq⟩:∃x,x=(A6y bs 2).1:=⟨_,rfl⟩
 obtain⟨both,h2q⟩:∃x,x=(A6y bs 2).2:=⟨_,rfl⟩;rw[<-hxq]at hx hT t1;rw[<-h1q]at hT t1;rw[<-hyq]at hy hT t2;rw[<-h2q]at hT t2;have T1:=hzz t1;have T2:=hzz t2;rw[hT]
 clear hxq h1q hyq h2q hcq hc hbl hT t1 t2;have o1:=B4q (x:=c%32*64) (y:=x) 6 (by omega) (by omega) (by omega)
 have o2:=B4q (x:=c%16*4096) (y:=x*64) 12 (by omega) (by omega) (by omega);have o3:=B4q (x:=c%16*4096+x*64) (y:=y) 6 (by omega) (by omega) (by omega)
 push_cast at o1 o2 o3
 have a1:=u8_and15 (x:=(c:Int)) (by omega) (by omega);go_enter Tryz.func183,Tryz.ntmps183
 go_wp2_with fail
 refine(T1.out _ HS.out).mono ?_;rintro e w1 ⟨rfl,rfl⟩
 go_wp2_with fail
 refine(T2.out _ HS.out).mono ?_;rintro e w1 ⟨rfl,rfl⟩;clear T1 T2;by_cases c1:c≠0/\c<128
 ·have HR:=hzz (show A3n c x one y both=(c,1) by unfold A3n;rw[if_pos c1]);obtain⟨c1,c2⟩:=c1;have c3:((c:Int) !=0)=true:=by simp;omega
  clear c1
  go_wp2
  go_ret2;exact⟨by rw[HR.out];rfl,rfl⟩
 have HN:=hzz c1;by_cases c0:c=0
 ·subst c0;have HR:=hzz (show A3n 0 x one y both=(0,0) by unfold A3n;simp);clear c1
  go_wp2
  go_ret2;exact⟨by rw[HR.out];rfl,rfl⟩
 have c2:128<=c:=by omega
 have c3:((c:Int) !=0)=true:=by simp;omega
 clear c1 c0;by_cases c6:c/32=6
 ·have h6:((c:Int)/32==6)=true:=by simp;omega
  have h14:((c:Int)/16==14)=false:=by simp;omega
  have H6:=hzz c6;have H14:=hzz (show ¬c/16=14 by omega);clear c6
  cases one
  ·have HR:=hzz (show A3n c x false y both=(0,0) by unfold A3n;rw[if_neg HN.out,if_neg (by simp),if_neg (by simp)])
   go_wp2
   go_ret2;exact⟨by rw[HR.out];rfl,rfl⟩
  by_cases u0:c%32*64+x=0
  ·have HR:=hzz (show A3n c x true y both=(c%32*64+x,2) by unfold A3n;rw[if_neg HN.out,if_pos ⟨H6.out,rfl⟩,if_pos (.inl u0)])
   have u1:(((c:Int)%32*64+x==0))=true:=by simp;omega
   clear u0
   go_wp2
   go_ret2;exact⟨by rw[HR.out];rfl,rfl⟩
  have u1:(((c:Int)%32*64+x==0))=false:=by simp;omega
  have HU:=hzz u0;clear u0;by_cases u2:128<=c%32*64+x
  ·have HR:=hzz (show A3n c x true y both=(c%32*64+x,2) by unfold A3n;rw[if_neg HN.out,if_pos ⟨H6.out,rfl⟩,if_pos (.inr u2)])
   go_wp2
   go_ret2;exact⟨by rw[HR.out];rfl,rfl⟩
  have HR:=hzz (show A3n c x true y both=(0,0) by unfold A3n;rw[if_neg HN.out,if_pos ⟨H6.out,rfl⟩,if_neg (by have:=HU.out;omega)])
  go_wp2
  go_ret2;exact⟨by rw[HR.out];rfl,rfl⟩
 have h6:((c:Int)/32==6)=false:=by simp;omega
 have H6:=hzz c6;clear c6;by_cases c14:c/16=14
 ·have h14:((c:Int)/16==14)=true:=by simp;omega
  have H14:=hzz c14;clear c14
  cases one
  ·have HR:=hzz (show A3n c x false y both=(0,0) by unfold A3n;rw[if_neg HN.out,if_neg (by simp),if_neg (by simp)])
   go_wp2
   go_ret2;exact⟨by rw[HR.out];rfl,rfl⟩
  cases both
  ·have HR:=hzz (show A3n c x true y false=(0,0) by unfold A3n;rw[if_neg HN.out,if_neg (by simp[H6.out]),if_neg (by simp)])
   go_wp2
   go_ret2;exact⟨by rw[HR.out];rfl,rfl⟩
  by_cases u2:2048<=c%16*4096+x*64+y
  ·have HR:=hzz (show A3n c x true y true=(c%16*4096+x*64+y,3) by unfold A3n;rw[if_neg HN.out,if_neg (by simp[H6.out]),if_pos ⟨H14.out,rfl,rfl⟩,if_pos u2])
   go_wp2
   go_ret2;exact⟨by rw[HR.out];rfl,rfl⟩
  have HR:=hzz (show A3n c x true y true=(0,0) by unfold A3n;rw[if_neg HN.out,if_neg (by simp[H6.out]),if_pos ⟨H14.out,rfl,rfl⟩,if_neg u2])
  go_wp2
  go_ret2;exact⟨by rw[HR.out];rfl,rfl⟩
 have h14:((c:Int)/16==14)=false:=by simp;omega
 have HR:=hzz (show A3n c x one y both=(0,0) by unfold A3n;rw[if_neg HN.out,if_neg (by simp[H6.out]),if_neg (by simp[c14])]);clear c14
 go_wp2
 go_ret2;exact⟨by rw[HR.out];rfl,rfl⟩
attribute [local go_sem↓] Go.wp_at_zero Go.wp_at_succ
def E1b(w:World)(r:Option (List UInt16))(e:Ending)(w':World):Prop:=
 match r with
 |none=>e= .returned (.tuple #[.slice none 0 0,.int .i64 8])/\Below w.heap.size w w'
 |some us=>∃v n,e= .returned (.tuple #[v,.int .i64 0])/\w'.ownsRow w.heap.size 231 1 v n (us.map E1h)/\Below w.heap.size w w'
def C7b(w:World)(n:Nat)(bs:List UInt8)(s t:Value)(wr:World):Prop:=
 ∃(a':Option Addr) (m c f k:Nat) (rest:List UInt8) (us:List UInt16),s= .slice a' m c/\m<=f/\f<=n/\m<=c/\k+m<=n/\Hid (Sl A5f w a' m rest)/\Hid (wr.ownsRow w.heap.size 231 1 t k (us.map E1h))/\Hid (Below w.heap.size w wr)/\
   Hid (A4m bs=(A8p f rest).map (us++·))
def D1d:Value->Nat| .slice _ m _=>m|_=>0
theorem C6w(w:World)(a:Option Addr)(n cap:Nat)(bs:List UInt8)(hs:Sl A5f w a n bs)(hn:n<=65536)(hcap:n<=cap):
  Calls Tryz.prog 169 #[.slice a n cap] w (E1b w (A4m bs)):=by
 have HS:=hzz hs;have hnl:=hs.1;have HC:=hzz hcap;clear hs hcap;go_enter Tryz.func169,Tryz.ntmps169
 go_wp2
 go_loopw [0,4] (fun s t wr=>C7b w n bs s t wr) (fun s _ _=>D1d s)
 case atStart=>exact⟨a,n,cap,n,0,bs,[],rfl,Nat.le_refl _,Nat.le_refl _,HC.out,by omega,HS,World.ownsRow_nil _ _ _ _,brz,by show _=_;unfold A4m;rw[hnl];simp⟩
 obtain⟨a',m,c,f,k,rest,us,rfl,hmf,hfn,hmc,hkm,HR,HO,HW,HD⟩:=hrel;by_cases hlt:0<m
 ·have hne:rest≠[]:=by intro h;have:=HR.out.1;rw[h]at this;simp at this;omega
  have hle:=D1w hne;rw[HR.out.1]at hle
  go_wp2_with fail
  refine(D1u _ _ _ _ rest (HR.out.below HW.out) (by omega) hlt).mono ?_;obtain⟨u,hu⟩:∃u,u=(B1u rest).1:=⟨_,rfl⟩;obtain⟨q,hq⟩:∃q,q=(B1u rest).2:=⟨_,rfl⟩;rw[<-hu,<-hq]at hle
  obtain⟨hq1,hu1⟩:=hle;unfold C7r;rw[<-hu,<-hq];have HU:=hzz hu;have HQ:=hzz hq;clear hu hq;rintro e w1 ⟨rfl,rfl⟩;obtain⟨f,rfl⟩:∃f',f=f'+1:=⟨f-1,by omega⟩
  have hstep:=B9j (f:=f) (bs:=rest) (by rw[HR.out.1];omega) hne;rw[<-HU.out,<-HQ.out]at hstep;have HT:=hzz hstep;clear hstep hne;by_cases hq0:q=0
  ·have hN:A4m bs=none:=by rw[HD.out,HT.out,if_pos hq0];rfl
   have HN:=hzz hN;clear hN;subst hq0
   go_wp2
   go_ret2;rw[HN.out];exact⟨rfl,HW.out⟩
  have hq2:((q:Int)==0)=false:=by simp;omega
  have hqp:0<q:=by omega
  have HD2:=hzz (show A4m bs=(A8p f (rest.drop q)).map ((us++[UInt16.ofNat u])++·) by
   rw[HD.out,HT.out,if_neg hq0]
   cases A8p f (rest.drop q)<;>simp)
  have HE:=hzz (show(Value.int .u16 (u:Int))=E1h (UInt16.ofNat u) by unfold E1h;rw[UInt16.toNat_ofNat_of_lt' hu1]);have g1:(0:Int)<=(q:Int):=by omega
  have g2:(q:Int)<=(m:Int):=by omega
  have g3:(m:Int)<=(c:Int):=by omega
  obtain⟨b,off,rfl,_⟩:=HR.out.drop (j:=0) hlt;by_cases hqc:c=q
  ·obtain rfl:q=m:=by omega
   subst hqc;clear hq0
   go_wp2_with fail
   go_region_law ((refine A9g E2a (by rfl) _ _ (by rfl) w.heap.size _ _ _ (by rfl) HO.out.drew _ 1 _ (by rfl) (by rfl) (by rfl) (by omega) (by unfold maxLen;omega) HW.out.size ?_;intro v1 w1 hown1 hg1 hb1))
   have HO1:=hzz hown1;have HB1:=hzz (HW.out.trans ((brz.drew).trans hb1));clear hown1 hg1 hb1
   go_wp2_with fail
   have hrel:C7b w n bs (.slice (some ⟨b,off,none⟩) 0 0) v1 w1:=
    ⟨_,0,0,f,k+1,_,us++[UInt16.ofNat u],rfl,by omega,by omega,by omega,by omega,by
     have hl:=HR.out.1;show Sl _ _ _ _ _;rw[List.drop_of_length_le (by omega)]
     exact Sl.nil _ _,by rw[List.map_append];show World.ownsRow _ _ _ _ _ _ (_++[_]);rw[<-HE.out];exact HO1.out,HB1,HD2⟩
   exact⟨⟨_,_,_,_,hrel,rfl,rfl,rfl,rfl⟩,by simp only[D1d];omega⟩
  clear hq0
  go_wp2_with fail
  go_region_law ((refine A9g E2a (by rfl) _ _ (by rfl) w.heap.size _ _ _ (by rfl) HO.out.drew _ 1 _ (by rfl) (by rfl) (by rfl) (by omega) (by unfold maxLen;omega) HW.out.size ?_;intro v1 w1 hown1 hg1 hb1))
  have HO1:=hzz hown1;have HB1:=hzz (HW.out.trans ((brz.drew).trans hb1));clear hown1 hg1 hb1
  go_wp2_with fail
  have hSl:Sl A5f w (some ⟨b,off+q,none⟩) (m-q) (rest.drop q):=by
   by_cases hqm:q<m
   ·obtain⟨b',off',he,hSl⟩:=HR.out.drop hqm;simp only[Option.some.injEq,Addr.mk.injEq,and_true]at he;rw[he.1,he.2];exact hSl
   have hl:=HR.out.1;rw[List.drop_of_length_le (by omega),show m-q=0 by omega];exact Sl.nil _ _
  have hrel:C7b w n bs (.slice (some ⟨b,off+q,none⟩) (m-q) (c-q)) v1 w1:=
   ⟨_,m-q,c-q,f,k+1,_,us++[UInt16.ofNat u],rfl,by omega,by omega,by omega,by omega,hSl,
    by rw[List.map_append];show World.ownsRow _ _ _ _ _ _ (_++[_]);rw[<-HE.out];exact HO1.out,HB1,HD2⟩
  exact⟨⟨_,_,_,_,hrel,rfl,rfl,rfl,rfl⟩,by simp only[D1d];omega⟩
 have hN:A4m bs=some us:=by
  have:rest=[]:=List.eq_nil_of_length_eq_zero (by rw[HR.out.1];omega);rw[HD.out,this];simp[A8p]
 have HN:=hzz hN;clear hN
 go_wp2
 go_ret2;rw[HN.out];exact⟨_,k,rfl,HO.out,HW.out⟩
def D4e(r:Option (List UInt16)):Int×Int:=match r with|none=>(0,8)|some us=>(us.length,0)
theorem D7r(w:World)(a:Option Addr)(n cap:Nat)(bs:List UInt8)(hs:Sl A5f w a n bs)(hn:n<=65536)(hcap:n<=cap):
  Calls Tryz.prog 136 #[.slice a n cap] w fun e w'=>e= .returned (.tuple #[.int .i64 (D4e (A4m bs)).1,.int .i64 (D4e (A4m bs)).2])/\Below w.heap.size w w':=by
 have HD:=hzz (C6w w a n cap bs hs hn hcap);clear hs hcap;go_enter Tryz.func136,Tryz.ntmps136
 go_wp2_with fail
 refine HD.out.mono ?_;intro e w1 hr;clear HD
 cases hd:A4m bs with
 |none=>
  rw[hd]at hr;obtain⟨rfl,hb⟩:=hr;have H:=hzz hd;clear hd
  go_wp2
  go_ret2;exact⟨by rw[H.out];rfl,hb⟩
 |some us=>
 rw[hd]at hr;obtain⟨v,m,rfl,hown,hb⟩:=hr;obtain⟨a1,cap1,rfl,hsl,_⟩:=Sl.ofOwn hown;have hl:=hsl.1;have H:=hzz hd;have HL:=hzz hl;clear hd hown hsl hl
 go_wp2
 go_ret2;exact⟨by rw[H.out,show m=us.length from HL.out.symm];rfl,hb⟩
def A9f(p:UInt8->Bool)(bs:List UInt8):Int:=match bs.findIdx? p with|some i=>i|none=> -1
theorem B8q{p:UInt8->Bool}{bs:List UInt8}{k:Nat}(h:k<bs.length)(hp:p bs[k]=true)(hn:∀j (h:j<k) (h':j<bs.length),p bs[j]=false):A9f p bs=k:=by
 unfold A9f;rw[List.findIdx?_eq_some_iff_getElem.2 ⟨h,hp,fun j hj=>by have:=hn j hj (by omega);simp[this]⟩]
theorem B9i{p:UInt8->Bool}{bs:List UInt8}(hn:∀j (h':j<bs.length),p bs[j]=false):A9f p bs= -1:=by
 unfold A9f;rw[List.findIdx?_eq_none_iff.2 (fun x hx=>by obtain⟨j,hj,rfl⟩:=List.mem_iff_getElem.1 hx;exact hn j hj)]
theorem B6w(w:World)(a:Option Addr)(n cap:Nat)(bs:List UInt8)(f:Nat)(p:UInt8->Bool)(hs:Sl A5f w a n bs)(hn:n<=65536)
  (he:∀(args:Array Value) (w:World),(callFunc f args).run Tryz.prog w= .ok (.enter f args) w) (hf:∀(w:World) (c:UInt8),Calls Tryz.prog f #[.int .u8 (c.toNat:Int)] w fun e w'=>e= .returned (.bool (p c))/\w=w'):
  Calls Tryz.prog 168 #[.slice a n cap,.func (.func f) #[] #[]] w fun e w'=>e= .returned (.int .i64 (A9f p bs))/\w=w':=by
 have HS:=hzz hs;have HF:=hzz hf;clear hs hf;go_enter Tryz.func168,Tryz.ntmps168
 go_wp2
 go_loop [8] (fun i=>∃k:Nat,k<=n/\i= .int .i64 k/\Hid (∀j (h:j<k) (h':j<bs.length),p bs[j]=false)) (fun i=>n-(intOf i).toNat)
 case atStart=>exact⟨0,Nat.zero_le _,rfl,fun j h=>by omega⟩
 obtain⟨k,hk,rfl,HN⟩:=hrel;by_cases hlt:k<n
 ·obtain⟨b,off,rfl,hbl,hc⟩:=HS.out.2 (by omega);have hkl:k<bs.length:=by rw[HS.out.1];exact hlt
  have hck:w.cell? ⟨b,off+k,none⟩=some (.int .u8 (bs[k].toNat:Int)):=hc k hkl;clear hc hbl
  go_wp2_with fail
  refine(HF.out w bs[k]).mono ?_;rintro e w1 ⟨rfl,rfl⟩
  cases hp:p bs[k]
  ·have HP:=hzz hp;clear hp
   go_wp2_with fail
   go_round
   case rel=>exact⟨k+1,by omega,by go_num,fun j hj hj'=>by
    by_cases h:j=k
    ·subst h;exact HP.out
    exact HN.out j (by omega) hj'⟩
   simp[intOf];omega
  have HP:=hzz hp;clear hp
  go_wp2_with fail
  go_ret;exact⟨A2n (B8q hkl HP.out (fun j hj hj'=>HN.out j hj hj')).symm,rfl⟩
 go_wp2
 go_ret;exact⟨A2n (B9i (fun j hj=>HN.out j (by have:=HS.out.1;omega) hj)).symm,rfl⟩
theorem C1z(p:UInt8->Bool)(bs:List UInt8):decide (0<=A9f p bs)=bs.any p:=by
 unfold A9f
 cases h:bs.findIdx? p with
 |none=>
  rw[List.findIdx?_eq_none_iff]at h;have:bs.any p=false:=by rw[List.any_eq_false];intro x hx;simp[h x hx]
  rw[this];rfl
 |some i=>
 obtain⟨hi,hp,_⟩:=List.findIdx?_eq_some_iff_getElem.1 h;have:bs.any p=true:=List.any_eq_true.2 ⟨_,List.getElem_mem hi,hp⟩;rw[this];simp
theorem B2u(w:World)(a:Option Addr)(n cap:Nat)(bs:List UInt8)(f:Nat)(p:UInt8->Bool)(hs:Sl A5f w a n bs)(hn:n<=65536)
  (he:∀(args:Array Value) (w:World),(callFunc f args).run Tryz.prog w= .ok (.enter f args) w) (hf:∀(w:World) (c:UInt8),Calls Tryz.prog f #[.int .u8 (c.toNat:Int)] w fun e w'=>e= .returned (.bool (p c))/\w=w'):
  Calls Tryz.prog 135 #[.slice a n cap,.func (.func f) #[] #[]] w fun e w'=>e= .returned (.bool (bs.any p))/\w=w':=by
 have HI:=hzz (B6w w a n cap bs f p hs hn he hf);have HP:=hzz (C1z p bs);clear hs he hf;go_enter Tryz.func135,Tryz.ntmps135
 go_wp2_with fail
 refine HI.out.mono ?_;rintro e w1 ⟨rfl,rfl⟩;obtain⟨q,hq⟩:=exz (A9f p bs);rw[<-hq]at HP⊢;clear hq HI
 go_wp2
 go_ret;exact⟨by rw[<-HP.out];rfl,rfl⟩
attribute [local go_sem↓] Go.wp_at_zero Go.wp_at_succ
attribute [local go_sem↓] Go.wp_at_zero Go.wp_at_succ
end
end Go.Proofs.YtclpkipaehpkdaaGreatDoor
