/- asm -/
import Derived.Test.YtclpkipaehpkdaaGreatDoorQ00AsmBack
import Derived.Maps.OwnSet
import Derived.StillTail
set_option linter.unusedVariables false
set_option linter.unusedSimpArgs false
set_option maxRecDepth 100000
set_option maxHeartbeats 64000000
open Go.Proofs.Tryz
namespace Go.Proofs.YtclpkipaehpkdaaGreatDoor
section
open Go.ChangeShapes Go.WideShapes Go.ChangeAt Go.RowKit
def U64(n:Int):Prop:=0<=n/\n<18446744073709551616
def yu(v n:Int):Int:=if n<1\/8<n then 0 else(v+2^(8*n.toNat-1))%2^(8*n.toNat) -2^(8*n.toNat-1)
theorem mJ(v n:Int)(h:n<1\/8<n):yu v n=0:=by unfold yu;rw[if_pos h]
theorem E4m(v:Int):yu v 8=wrap64 v:=by unfold wrap64;rfl
theorem pK(w:World)(v n:Int)(hv:U64 v)(hn:yw n):Calls prog 114 #[.int .u64 v,.int .i64 n] w fun e w'=>e= .returned (.int .i64 (yu v n))/\w=w':=by
 obtain⟨v1,v2⟩:=hv;by_cases c1:n<1
 ·rw[mJ v n (.inl c1)];have e1:=decide_eq_true c1;go_enter func114,ntmps114
  go_wp2
  go_ret;exact⟨rfl,rfl⟩
 by_cases c2:8<n
 ·rw[mJ v n (.inr c2)];have e1:=decide_eq_false c1;have e2:=decide_eq_true c2;go_enter func114,ntmps114
  go_wp2
  go_ret;exact⟨rfl,rfl⟩
 have hc:n=8\/n=1\/n=2\/n=3\/n=4\/n=5\/n=6\/n=7:=by omega
 clear c1 c2 hn
 rcases hc with rfl|hc
 ·rw[E4m];go_enter func114,ntmps114
  go_wp2
  go_ret;exact⟨rfl,rfl⟩
 have WE:∀p:Int,v.tmod p=v%p:=fun p=>Int.tmod_eq_emod_of_nonneg v1
 rcases hc with rfl|rfl|rfl|rfl|rfl|rfl|rfl
 ·rw[show yu v 1=(v+128)%256-128 from rfl];have hm:=WE 256;clear WE;by_cases hh:v%256<128
  ·go_enter func114,ntmps114
   go_wp2
   go_ret;exact⟨wN (by omega),rfl⟩
  go_enter func114,ntmps114
  go_wp2
  go_ret;exact⟨wN (by omega),rfl⟩
 ·rw[show yu v 2=(v+32768)%65536-32768 from rfl];have hm:=WE 65536;clear WE;by_cases hh:v%65536<32768
  ·go_enter func114,ntmps114
   go_wp2
   go_ret;exact⟨wN (by omega),rfl⟩
  go_enter func114,ntmps114
  go_wp2
  go_ret;exact⟨wN (by omega),rfl⟩
 ·rw[show yu v 3=(v+8388608)%16777216-8388608 from rfl];have hm:=WE 16777216;clear WE;by_cases hh:v%16777216<8388608
  ·go_enter func114,ntmps114
   go_wp2
   go_ret;exact⟨wN (by omega),rfl⟩
  go_enter func114,ntmps114
  go_wp2
  go_ret;exact⟨wN (by omega),rfl⟩
 ·rw[show yu v 4=(v+2147483648)%4294967296-2147483648 from rfl];have hm:=WE 4294967296;clear WE;by_cases hh:v%4294967296<2147483648
  ·go_enter func114,ntmps114
   go_wp2
   go_ret;exact⟨wN (by omega),rfl⟩
  go_enter func114,ntmps114
  go_wp2
  go_ret;exact⟨wN (by omega),rfl⟩
 ·rw[show yu v 5=(v+549755813888)%1099511627776-549755813888 from rfl];have hm:=WE 1099511627776;clear WE;by_cases hh:v%1099511627776<549755813888
  ·go_enter func114,ntmps114
   go_wp2
   go_ret;exact⟨wN (by omega),rfl⟩
  go_enter func114,ntmps114
  go_wp2
  go_ret;exact⟨wN (by omega),rfl⟩
 ·rw[show yu v 6=(v+140737488355328)%281474976710656-140737488355328 from rfl];have hm:=WE 281474976710656;clear WE;by_cases hh:v%281474976710656<140737488355328
  ·go_enter func114,ntmps114
   go_wp2
   go_ret;exact⟨wN (by omega),rfl⟩
  go_enter func114,ntmps114
  go_wp2
  go_ret;exact⟨wN (by omega),rfl⟩
 rw[show yu v 7=(v+36028797018963968)%72057594037927936-36028797018963968 from rfl];have hm:=WE 72057594037927936;clear WE;by_cases hh:v%72057594037927936<36028797018963968
 ·go_enter func114,ntmps114
  go_wp2
  go_ret;exact⟨wN (by omega),rfl⟩
 go_enter func114,ntmps114
 go_wp2
 go_ret;exact⟨wN (by omega),rfl⟩
theorem nZ(w:World)(v n:Int)(hv:U64 v)(hn:yw n):Calls prog 148 #[.int .u64 v,.int .i64 n] w fun e w'=>e= .returned (.int .i64 (yu v n))/\w=w':=by
 obtain⟨v1,v2⟩:=hv;by_cases c1:n<1\/8<n
 ·rw[mJ v n c1];have hd:decide (1<=n/\n<=8)=false:=decide_eq_false (by omega);clear c1;go_enter func148,ntmps148
  go_wp2_with fail
  refine(uS _ n).mono ?_;rw[hd];rintro e w' ⟨rfl,rfl⟩
  go_wp2
  go_ret;exact⟨rfl,rfl⟩
 have hc:n=1\/n=2\/n=3\/n=4\/n=5\/n=6\/n=7\/n=8:=by omega
 clear c1 hn
 rcases hc with rfl|rfl|rfl|rfl|rfl|rfl|rfl|rfl
 ·rw[show yu v 1=(v+128)%256-128 from rfl];go_enter func148,ntmps148
  go_wp2_with fail
  refine(uS _ 1).mono ?_;rw[show decide ((1:Int)<=1/\(1:Int)<=8)=true from rfl];rintro e w' ⟨rfl,rfl⟩
  go_wp2
  go_ret;exact⟨wN (by simp only[IntKind.wrap_u64,wrap64]<;>omega),rfl⟩
 ·rw[show yu v 2=(v+32768)%65536-32768 from rfl];go_enter func148,ntmps148
  go_wp2_with fail
  refine(uS _ 2).mono ?_;rw[show decide ((1:Int)<=2/\(2:Int)<=8)=true from rfl];rintro e w' ⟨rfl,rfl⟩
  go_wp2
  go_ret;exact⟨wN (by simp only[IntKind.wrap_u64,wrap64]<;>omega),rfl⟩
 ·rw[show yu v 3=(v+8388608)%16777216-8388608 from rfl];go_enter func148,ntmps148
  go_wp2_with fail
  refine(uS _ 3).mono ?_;rw[show decide ((1:Int)<=3/\(3:Int)<=8)=true from rfl];rintro e w' ⟨rfl,rfl⟩
  go_wp2
  go_ret;exact⟨wN (by simp only[IntKind.wrap_u64,wrap64]<;>omega),rfl⟩
 ·rw[show yu v 4=(v+2147483648)%4294967296-2147483648 from rfl];go_enter func148,ntmps148
  go_wp2_with fail
  refine(uS _ 4).mono ?_;rw[show decide ((1:Int)<=4/\(4:Int)<=8)=true from rfl];rintro e w' ⟨rfl,rfl⟩
  go_wp2
  go_ret;exact⟨wN (by simp only[IntKind.wrap_u64,wrap64]<;>omega),rfl⟩
 ·rw[show yu v 5=(v+549755813888)%1099511627776-549755813888 from rfl];go_enter func148,ntmps148
  go_wp2_with fail
  refine(uS _ 5).mono ?_;rw[show decide ((1:Int)<=5/\(5:Int)<=8)=true from rfl];rintro e w' ⟨rfl,rfl⟩
  go_wp2
  go_ret;exact⟨wN (by simp only[IntKind.wrap_u64,wrap64]<;>omega),rfl⟩
 ·rw[show yu v 6=(v+140737488355328)%281474976710656-140737488355328 from rfl];go_enter func148,ntmps148
  go_wp2_with fail
  refine(uS _ 6).mono ?_;rw[show decide ((1:Int)<=6/\(6:Int)<=8)=true from rfl];rintro e w' ⟨rfl,rfl⟩
  go_wp2
  go_ret;exact⟨wN (by simp only[IntKind.wrap_u64,wrap64]<;>omega),rfl⟩
 ·rw[show yu v 7=(v+36028797018963968)%72057594037927936-36028797018963968 from rfl];go_enter func148,ntmps148
  go_wp2_with fail
  refine(uS _ 7).mono ?_;rw[show decide ((1:Int)<=7/\(7:Int)<=8)=true from rfl];rintro e w' ⟨rfl,rfl⟩
  go_wp2
  go_ret;exact⟨wN (by simp only[IntKind.wrap_u64,wrap64]<;>omega),rfl⟩
 rw[show yu v 8=(v+9223372036854775808)%18446744073709551616-9223372036854775808 from rfl];go_enter func148,ntmps148
 go_wp2_with fail
 refine(uS _ 8).mono ?_;rw[show decide ((1:Int)<=8/\(8:Int)<=8)=true from rfl];rintro e w' ⟨rfl,rfl⟩
 go_wp2
 go_ret;exact⟨wN (by simp only[IntKind.wrap_u64,wrap64]<;>omega),rfl⟩
structure RW where
 pos:Int
 op:Nat
 a:Int
 b:Int
def RW.cells(r:RW):List Value:=[.int .i64 r.pos,.int .u8 (r.op:Nat),.int .i64 r.a,.int .i64 r.b]
theorem RW.cells_length(r:RW):r.cells.length=4:=rfl
def thereB(l:List RW)(p:Int):Bool:=l.any fun r=>r.pos==p
def wL(l:List RW):Bool:=l.all fun r=> !(yX r.op==7)||thereB l r.a
def yv(bs:List UInt8)(p f:Nat):Int:=(yi bs ((p:Int)+1) ((max (yC f-1) 1:Nat):Int)).1
def yB(bs:List UInt8)(p f:Nat):Int:=
 let v:=yv bs p f
 if f=1 then 0 else if f=3 then yu v 1 else if f=4 then yu v 2 else if f=7 then(p:Int)+yu v 2 else if f=8 then v/256 else v
def yt(bs:List UInt8)(p f:Nat):Int:=if f=8 then yu (yv bs p f) 1 else 0
def xz(bs:List UInt8)(p f:Nat):Bool:=f==9&& !(yB bs p f==8)&& !(yB bs p f==10)
def yK(bs:List UInt8)(p:Nat):Nat:=(bs.getD p 0).toNat
def vZ(bs:List UInt8)(p:Nat):RW:=⟨p,yK bs p,yB bs p (yX (yK bs p)),yt bs p (yX (yK bs p))⟩
def xC(bs:List UInt8):Nat->Nat->List RW->Int×List RW
 |0,_,acc=>(0,acc)
 |fuel+1,p,acc=>
  if bs.length<=p then(0,acc)
  else if yX (yK bs p)=0 then(8,[])
  else if bs.length-p<yC (yX (yK bs p))then(6,[])
  else if xz bs p (yX (yK bs p))=true then(8,[])
  else xC bs fuel (p+yC (yX (yK bs p))) (acc++[vZ bs p])
def xW(bs:List UInt8):Int×List RW:=
 if 4096<bs.length then(9,[])
 else if(xC bs (bs.length+1) 0 []).1≠0 then((xC bs (bs.length+1) 0 []).1,[])
 else if wL (xC bs (bs.length+1) 0 []).2=true then(0,(xC bs (bs.length+1) 0 []).2)
 else(2,[])
def yz(r:RW)(f:Nat):Bool:=
 if f≠8/\r.b≠0 then false
 else if f=1 then decide (r.a=0)
 else if f=3 then decide (-128<=r.a/\r.a<=127)
 else if f=4 then decide (-32768<=r.a/\r.a<=32767)
 else if f=6 then decide (0<=r.a/\r.a<=65535)
 else if f=9 then decide (r.a=8\/r.a=10)
 else if f=8 then decide (0<=r.a/\r.a<=255)&&decide (-128<=r.b/\r.b<=127)
 else if f=2\/f=5 then decide (0<=r.a/\r.a<=255)
 else decide (f=7)
def yh(n:Int):Nat:=(n%18446744073709551616).toNat
theorem kQ(n:Int):yh n<18446744073709551616:=by unfold yh;omega
theorem pv(n:Int):IntKind.u64.wrap n=(yh n:Int):=by rw[IntKind.wrap_u64];unfold yh;omega
def wC(r:RW):List UInt8:=
 UInt8.ofNat r.op::(if yX r.op=7 then yg (yh (r.a-r.pos)) 2 else if yX r.op=8 then yg (yh r.a) 1++yg (yh r.b) 1 else yg (yh r.a) (yC (yX r.op) -1))
def ym(l:List RW):List UInt8:=l.flatMap wC
def xd(l:List RW)(k:Nat):Bool:=
 match l[k]? with
 |some r=>yz r (yX r.op)&&decide (r.pos=((ym (l.take k)).length:Nat))
 |none=>true
def xt(l:List RW):Int×List UInt8:=
 if(List.range l.length).all (xd l)=false then(8,[])
 else if wL l=false then(2,[])
 else if 4096<(ym l).length then(9,[])
 else(0,ym l)
end
section
open Go.RowKit
def xg(P:Program)(S:World->Prop)(v:Value):Result Next->Prop
 | .ok (.value u) w'=>u=v/\S w'
 | .ok (.enter f args) w'=>Calls P f args w' fun e w''=>e= .returned v/\S w''
 |_=>False
def sh(P:Program)(ops:Array Oper)(S:World->Prop)(o:Oper)(v:Value)(a:Act):Prop:=
 (Region.wanted o (yielded ops a.tmps)=true/\∀w,S w->xg P S v ((execOp a.eval o).run P w))\/
 (Region.wanted o (yielded ops a.tmps)=false/\v=undef)
section
variable {P:Program} {ops:Array Oper} {Q:Exit->Act->World->Prop} {md:Region.Mode} {S:World->Prop}
theorem sh.of_same{o:Oper}{v:Value}{a a':Act}(hy:sh P ops S o v a)(he:execOp a'.eval o=execOp a.eval o)
  (hw:Region.wanted o (yielded ops a'.tmps)=Region.wanted o (yielded ops a.tmps)):sh P ops S o v a':=by
 unfold sh at*;rw[he,hw];exact hy
theorem xg.wp{o:Oper}{v:Value}{a:Act}{w:World}{K:Act->World->Prop}(h:xg P S v ((execOp a.eval o).run P w))(hK:∀w',S w'->K (a.put o.dst v) w'):o.wp P a w K Q:=by
 unfold Oper.wp;generalize(execOp a.eval o).run P w=r at*
 cases r with
 |ok n w'=>
  cases n<;>simp only[xg,Oper.upon]at h⊢
  case value u=>obtain⟨rfl,hs⟩:=h;exact hK _ hs
  case enter f args=>
   refine Calls.mono h fun e w'' he=> ?_
   obtain⟨rfl,hs⟩:=he;exact hK _ hs
 |halt x w'=>cases x<;>simp only[xg]at h
theorem sh.wpOp{i:Nat}{o:Oper}{v:Value}{a:Act}(hi:ops[i]? =some o)(hy:sh P ops S o v a)
  {K:Act->World->Prop} {w:World} (hS:S w) (h:∀w',S w'->K (a.put o.dst v) w'):wpOp P ops Q i K a w:=by
 unfold Go.wpOp;simp only[hi]
 rcases hy with⟨hw,hv⟩|⟨hw,rfl⟩
 ·simp only[hw,if_true];exact .inl ((hv w hS).wp h)
 simp only[hw,Bool.false_eq_true,if_false];exact h w hS
def xy(P:Program)(ops:Array Oper)(S:World->Prop)(i:Nat)(b:Bool)(K:Act->Prop)(a:Act):Prop:=
 match ops[i]? with
 |none=>False
 |some o=>
  if Region.wanted o (yielded ops a.tmps)=true then
   (match b with
    |true=>∃v,(∀w',S w'->(execOp a.eval o).run P w'= .ok (.value v) w')/\K (a.put o.dst v)
    |false=>∃v,(∀w',S w'->xg P S v ((execOp a.eval o).run P w'))/\K (a.put o.dst v))
  else K (a.put o.dst undef)
def sf(P:Program)(ops:Array Oper)(Q:Exit->Act->World->Prop)(S:World->Prop):List (Nat×Bool)->Act->Prop
 |[],a=>∀w,S w->Q .normal a w
 |(i,b)::l,a=>xy P ops S i b (sf P ops Q S l) a
def qe(P:Program)(ops:Array Oper)(Q:Exit->Act->World->Prop)(S:World->Prop):List Nat->Act->Prop
 |[],a=>∀w,S w->Q .normal a w
 |i::l,a=>∃o v,ops[i]? =some o/\sh P ops S o v a/\qe P ops Q S l (a.put o.dst v)
theorem D8f:∀(l:List (Nat×Bool)) (a:Act),sf P ops Q S l a->qe P ops Q S (l.map (·.1)) a:=by
 intro l
 induction l with
 |nil=>exact fun a h=>h
 |cons p l ih=>
  obtain⟨i,b⟩:=p;intro a h;change xy P ops S i b (sf P ops Q S l) a at h;unfold xy at h
  cases ho:ops[i]? with
  |none=>rw[ho]at h;exact h.elim
  |some o=>
  rw[ho]at h;simp only at h;by_cases hw:Region.wanted o (yielded ops a.tmps)=true
  ·rw[if_pos hw]at h
   cases b with
   |true=>
    obtain⟨v,h1,h2⟩:=h;exact⟨o,v,ho,.inl ⟨hw,fun w hs=>by rw[h1 w hs];exact⟨rfl,hs⟩⟩,ih _ h2⟩
   |false=>
   obtain⟨v,h1,h2⟩:=h;exact⟨o,v,ho,.inl ⟨hw,h1⟩,ih _ h2⟩
  rw[if_neg hw]at h;exact⟨o,undef,ho,.inr ⟨by simpa using hw,rfl⟩,ih _ h⟩
def nA(ops:Array Oper)(listed:Array Bool)(i:Nat):Prop:=
 ∀oi,ops[i]? =some oi->∀j oj,ops[j]? =some oj->j≠i->listed.getD j true=false->(∀e∈oj.after,Region.binds .any e=true->e.on≠i)->oi.apart ops oj=true
def qb(ops:Array Oper):Array Bool->List Nat->Prop
 |listed,[]=>Region.ready .any ops listed=[]
 |listed,i::l=>i∈Region.ready .any ops listed/\nA ops listed i/\qb ops (listed.setIfInBounds i true) l
theorem nA.mono{listed:Array Bool}{i j:Nat}(h:nA ops listed i):nA ops (listed.setIfInBounds j true) i:=by
 intro oi hi k ok hk E8 NN Gp;refine h oi hi k ok hk E8 ?_ Gp;by_cases hjk:j=k
 ·subst hjk;by_cases hl:j<listed.size
  ·simp[hl]at NN
  rw[Array.setIfInBounds_eq_of_size_le (by omega)]at NN;exact NN
 rw[getD_set_ne true hjk]at NN;exact NN
theorem D5i(hs:Region.noSelect ops=true):∀(l:List Nat) (listed:Array Bool) (j:Nat),qb ops listed l->j∈Region.ready .any ops listed->
  j∈l/\qb ops (listed.setIfInBounds j true) (l.erase j)/\∀a,qe P ops Q S l a->qe P ops Q S (j::l.erase j) a:=by
 intro l
 induction l with
 |nil=>intro listed j hc hj;rw[show Region.ready .any ops listed=[]from hc]at hj;cases hj
 |cons i l ih=>
  intro listed j hc hj;obtain⟨hr,hf,Sq⟩:=hc;by_cases hji:j=i
  ·subst hji;simp only[List.erase_cons_head];exact⟨by simp,Sq,fun a h=>h⟩
  obtain⟨YP,Hb,FM⟩:=ih _ j Sq (ready_mono hj hji);have Rj:(i==j)=false:=by simp[Ne.symm hji]
  rw[List.erase_cons_tail (by rw[Rj];decide)];refine⟨by simp[YP],⟨ready_mono hr (Ne.symm hji),hf.mono,?_⟩,fun a h=> ?_⟩
  ·rw[Array.setIfInBounds_comm _ _ hji];exact Hb
  obtain⟨oi,v,KC,zQ,Vv⟩:=h;obtain⟨oj,u,Pi,zJ,Nb⟩:=FM _ Vv;obtain⟨PT,oj',KB,hall⟩:=mem_ready.1 hj;obtain rfl:oj'=oj:=by rw[Pi]at KB;exact(Option.some.inj KB).symm
  have M6:∀e∈oj'.after,Region.binds .any e=true->e.on≠i:=fun e he hb FJ=>by
   have h1:=hall e he hb;have h0:=(mem_ready.1 hr).1;rw[FJ]at h1
   rcases Nat.lt_or_ge i listed.size with h'|h'
   ·simp[h']at h0 h1;rw[h0]at h1;cases h1
   simp[Array.getElem?_eq_none h']at h1
  have AY:=hf oi KC j oj' Pi hji PT M6;obtain⟨h1,h2,h3⟩:=Oper.apart_spec AY;have Ak:∀cs b,oi.op≠ .select cs b:=fun cs b=>Region.noSelect_spec hs i oi cs b KC
  have Bm:∀cs b,oj'.op≠ .select cs b:=fun cs b=>Region.noSelect_spec hs j oj' cs b Pi
  have FT:sh P ops S oj' u a:=zJ.of_same (execOp_put oj' Bm a oi.dst v h1).symm (wanted_put oj' a oi.dst v h1).symm;refine⟨oj',u,Pi,FT,oi,v,KC,zQ.of_same (execOp_put oi Ak a oj'.dst u h3) (wanted_put oi a oj'.dst u h3),?_⟩;rw[<-Act.put_comm a v u h2];exact Nb
theorem aR(hs:Region.noSelect ops=true):∀(n:Nat) (l:List Nat) (listed:Array Bool) (a:Act),l.length=n->qb ops listed l->qe P ops Q S l a->
  ∀w,S w->wpAnyH P .any ops Q S n listed a w:=by
 intro n
 induction n with
 |zero=>
  intro l listed a hl hc h w hS;obtain rfl:=List.eq_nil_of_length_eq_zero hl;exact⟨hc,h w hS⟩
 |succ n ih=>
  intro l listed a hl hc h w hS;refine⟨fun h0=> ?_,fun j hj=> ?_⟩
  ·cases l with
   |nil=>simp at hl
   |cons i l=>obtain⟨hr,_⟩:=hc;rw[h0]at hr;cases hr
  obtain⟨YP,Hb,FM⟩:=D5i (P:=P) (Q:=Q) (S:=S) hs l listed j hc hj;obtain⟨o,v,ho,hy,Vv⟩:=FM a h;refine hy.wpOp ho hS fun w' RB=>⟨RB,?_⟩
  exact ih (l.erase j) _ _ (by rw[List.length_erase_of_mem YP];omega) Hb Vv w' RB
inductive vG where
 |stir:List (Nat×Bool)->vG
 |step:Nat->Bool->vG->vG
 |fork:Nat->vG->Nat->vG->vG
 |fork3:Nat->vG->Nat->vG->Nat->vG->vG
def vM(P:Program)(ops:Array Oper)(Q:Exit->Act->World->Prop):vG->(World->Prop)->Act->World->Prop
 | .stir l,S,a,w=>∃S':World->Prop,(∀x,S' x->S x)/\S' w/\sf P ops Q S' l a
 | .step i b l,S,a,w=>∃S':World->Prop,(∀x,S' x->S x)/\xb P ops Q S' i b (vM P ops Q l S') a w
 | .fork i l j m,S,a,w=>∃S':World->Prop,(∀x,S' x->S x)/\xb P ops Q S' i false (vM P ops Q l S') a w/\xb P ops Q S' j false (vM P ops Q m S') a w
 | .fork3 i l j m k r,S,a,w=>∃S':World->Prop,(∀x,S' x->S x)/\xb P ops Q S' i false (vM P ops Q l S') a w/\xb P ops Q S' j false (vM P ops Q m S') a w/\xb P ops Q S' k false (vM P ops Q r S') a w
def rq(ops:Array Oper):Array Bool->List (Nat×Bool)->Bool
 |listed,[]=>(Region.ready .any ops listed).isEmpty
 |listed,(i,_)::l=>Region.free .any ops listed i&&(Region.ready .any ops listed).contains i&&rq ops (listed.setIfInBounds i true) l
def up(ops:Array Oper):Nat->Array Bool->vG->Bool
 |n,listed,.stir l=>(l.length==n)&&rq ops listed l
 |n+1,listed,.step i b l=>(if b then Region.free .any ops listed i&&(Region.ready .any ops listed).contains i else Region.ready .any ops listed==[i])&&up ops n (listed.setIfInBounds i true) l
 |n+1,listed,.fork i l j m=>(Region.ready .any ops listed==[i,j])&&up ops n (listed.setIfInBounds i true) l&&up ops n (listed.setIfInBounds j true) m
 |n+1,listed,.fork3 i l j m k r=>(Region.ready .any ops listed==[i,j,k])&&up ops n (listed.setIfInBounds i true) l&&up ops n (listed.setIfInBounds j true) m&&up ops n (listed.setIfInBounds k true) r
 |_,_,_=>false
theorem bx:∀(l:List (Nat×Bool)) (listed:Array Bool),rq ops listed l=true->qb ops listed (l.map (·.1)):=by
 intro l
 induction l with
 |nil=>intro listed h;show Region.ready .any ops listed=[];simpa[rq]using h
 |cons p l ih=>
  obtain⟨i,b⟩:=p;intro listed h;simp only[rq,Bool.and_eq_true]at h;obtain⟨⟨hf,hr⟩,hc⟩:=h;exact⟨by simpa using hr,fun oi KC=>Region.free_spec KC hf,ih _ hc⟩
theorem aQ(hs:Region.noSelect ops=true)(hQ:∀c a d v w,Q (.panic c) (a.put d v) w->Q (.panic c) a w):
  ∀(l:vG) (S:World->Prop) (n:Nat) (listed:Array Bool) (a:Act) (w:World),up ops n listed l=true->vM P ops Q l S a w->wpAnyH P .any ops Q S n listed a w:=by
 intro l
 induction l with
 |stir l=>
  intro S n listed a w hc h
  have Sq:((l.length==n)&&rq ops listed l)=true:=by cases n<;>exact hc
  simp only[Bool.and_eq_true,beq_iff_eq]at Sq;obtain⟨hl,hk⟩:=Sq;obtain⟨S',Py,hw,h⟩:=h;exact qJ Py _ _ _ _ (aR hs n (l.map (·.1)) listed a (by simpa using hl) (bx _ _ hk) (D8f _ _ h) w hw)
 |step i b l ih=>
  intro S n listed a w hc h
  cases n with
  |zero=>simp[up]at hc
  |succ n=>
  simp only[up,Bool.and_eq_true]at hc;obtain⟨Y5,Yz⟩:=hc;obtain⟨S',Py,h⟩:=h;refine qJ Py _ _ _ _ ?_;unfold xb at h
  cases ho:ops[i]? with
  |none=>rw[ho]at h;exact h.elim
  |some o=>
  rw[ho]at h;simp only at h
  cases b with
  |true=>
   simp only[if_true,Bool.and_eq_true]at Y5;obtain⟨hf,hr⟩:=Y5;by_cases hw:Region.wanted o (yielded ops a.tmps)=true
   ·rw[if_pos hw]at h;obtain⟨v,h1,h2,h3⟩:=h;exact wpAnyH_take ho hs hf hr (fun c a w=>hQ c a _ _ w) (.inl ⟨hw,h1⟩) h2 (ih _ _ _ _ _ Yz h3)
   rw[if_neg hw]at h;exact wpAnyH_take ho hs hf hr (fun c a w=>hQ c a _ _ w) (.inr ⟨by simpa using hw,rfl⟩) h.1 (ih _ _ _ _ _ Yz h.2)
  |false=>
  simp only[Bool.false_eq_true,if_false]at Y5;have hr:Region.ready .any ops listed=[i]:=by simpa using Y5
  refine wpAnyH_all hr (by simp) (fun j hj=> ?_);obtain rfl:j=i:=by simpa using hj
  unfold wpOp;rw[ho];simp only;by_cases hw:Region.wanted o (yielded ops a.tmps)=true
  ·rw[if_pos hw]at h;simp only[hw,if_true];exact .inl (Oper.wp_mono (fun a' w' h'=>⟨h'.1,ih _ _ _ _ _ Yz h'.2⟩) h)
  rw[if_neg hw]at h;simp only[hw];exact⟨h.1,ih _ _ _ _ _ Yz h.2⟩
 |fork i l j m ih1 ih2=>
  intro S n listed a w hc h
  cases n with
  |zero=>simp[up]at hc
  |succ n=>
  simp only[up,Bool.and_eq_true]at hc;obtain⟨⟨Y5,Yz⟩,Ph⟩:=hc;have hr:Region.ready .any ops listed=[i,j]:=by simpa using Y5
  obtain⟨S',Py,h1,h2⟩:=h;refine qJ Py _ _ _ _ ?_;refine wpAnyH_all hr (by simp) (fun k hk=> ?_);have Lx:k=i\/k=j:=by simpa using hk
  rcases Lx with rfl|rfl
  ·unfold xb at h1
   cases ho:ops[k]? with
   |none=>rw[ho]at h1;exact h1.elim
   |some o=>
   rw[ho]at h1;simp only at h1;unfold wpOp;rw[ho];simp only;by_cases hw:Region.wanted o (yielded ops a.tmps)=true
   ·rw[if_pos hw]at h1;simp only[hw,if_true];exact .inl (Oper.wp_mono (fun a' w' h'=>⟨h'.1,ih1 _ _ _ _ _ Yz h'.2⟩) h1)
   rw[if_neg hw]at h1;simp only[hw];exact⟨h1.1,ih1 _ _ _ _ _ Yz h1.2⟩
  unfold xb at h2
  cases ho:ops[k]? with
  |none=>rw[ho]at h2;exact h2.elim
  |some o=>
  rw[ho]at h2;simp only at h2;unfold wpOp;rw[ho];simp only;by_cases hw:Region.wanted o (yielded ops a.tmps)=true
  ·rw[if_pos hw]at h2;simp only[hw,if_true];exact .inl (Oper.wp_mono (fun a' w' h'=>⟨h'.1,ih2 _ _ _ _ _ Ph h'.2⟩) h2)
  rw[if_neg hw]at h2;simp only[hw];exact⟨h2.1,ih2 _ _ _ _ _ Ph h2.2⟩
 |fork3 i l j m k r ih1 ih2 ih3=>
  intro S n listed a w hc h
  cases n with
  |zero=>simp[up]at hc
  |succ n=>
  simp only[up,Bool.and_eq_true]at hc;obtain⟨⟨⟨Y5,Yz⟩,Ph⟩,G0⟩:=hc;have hr:Region.ready .any ops listed=[i,j,k]:=by simpa using Y5
  obtain⟨S',Py,h1,h2,h3⟩:=h;refine qJ Py _ _ _ _ ?_
  have one:∀(x:Nat) (y:vG),(∀(a:Act) (w:World),vM P ops Q y S' a w->wpAnyH P .any ops Q S' n (listed.setIfInBounds x true) a w)->xb P ops Q S' x false (vM P ops Q y S') a w->
    wpOp P ops Q x (fun a' w'=>S' w'/\wpAnyH P .any ops Q S' n (listed.setIfInBounds x true) a' w') a w:=by
   intro x y ih h1;unfold xb at h1
   cases ho:ops[x]? with
   |none=>rw[ho]at h1;exact h1.elim
   |some o=>
    rw[ho]at h1;simp only at h1;unfold wpOp;rw[ho];simp only;by_cases hw:Region.wanted o (yielded ops a.tmps)=true
    ·rw[if_pos hw]at h1;simp only[hw,if_true];exact .inl (Oper.wp_mono (fun a' w' h'=>⟨h'.1,ih _ _ h'.2⟩) h1)
    rw[if_neg hw]at h1;simp only[hw];exact⟨h1.1,ih _ _ h1.2⟩
  refine wpAnyH_all hr (by simp) (fun x hx=> ?_);have VG:x=i\/x=j\/x=k:=by simpa using hx
  rcases VG with rfl|rfl|rfl
  ·exact one _ l (fun a w h=>ih1 _ _ _ _ _ Yz h) h1
  ·exact one _ m (fun a w h=>ih2 _ _ _ _ _ Ph h) h2
  exact one _ r (fun a w h=>ih3 _ _ _ _ _ G0 h) h3
def vG.of:List (Nat×Bool)->vG->vG
 |[],t=>t
 |(i,b)::l,t=> .step i b (vG.of l t)
theorem ye{id:Nat}{a:Act}{w:World}(S:World->Prop)(l:vG)(hm:P.follows .mixedOrders=true)
  (hc:(Region.noSelect ops&&up ops ops.size (Array.replicate ops.size false) l)=true) (hQ:∀c a d v w,Q (.panic c) (a.put d v) w->Q (.panic c) a w)
  (h:vM P ops Q l S a w.drew):(Code.region id ops true).wp P Q a w:=by
 simp only[Bool.and_eq_true]at hc;obtain⟨hs,hk⟩:=hc;exact wp_region_held hm (aQ (P:=P) (Q:=Q) hs hQ l S _ _ a _ hk h)
theorem yY{i:Nat}{b:Bool}{l:vG}{a:Act}{w:World}
  (h:∀K:Act->World->Prop,(∀a w,vM P ops Q l S a w->K a w)->xb P ops Q S i b K a w):vM P ops Q (.step i b l) S a w:=⟨S,fun _ h=>h,h _ (fun _ _ h=>h)⟩
theorem uR{i j:Nat}{l m:vG}{a:Act}{w:World}
  (h1:∀K:Act->World->Prop,(∀a w,vM P ops Q l S a w->K a w)->xb P ops Q S i false K a w) (h2:∀K:Act->World->Prop,(∀a w,vM P ops Q m S a w->K a w)->xb P ops Q S j false K a w):vM P ops Q (.fork i l j m) S a w:=
 ⟨S,fun _ h=>h,h1 _ (fun _ _ h=>h),h2 _ (fun _ _ h=>h)⟩
theorem yA{l:List (Nat×Bool)}{a:Act}{w:World}(S':World->Prop)(Py:∀x,S' x->S x)(hS:S' w)(h:sf P ops Q S' l a):vM P ops Q (.stir l) S a w:=⟨S',Py,hS,h⟩
theorem yH{i:Nat}{b:Bool}{l:List (Nat×Bool)}{a:Act}
  (h:∀K:Act->Prop,(∀a,sf P ops Q S l a->K a)->xy P ops S i b K a):sf P ops Q S ((i,b)::l) a:=h _ (fun _ h=>h)
theorem yE{a:Act}(h:∀w,S w->Q .normal a w):sf P ops Q S [] a:=h
theorem xg.call{v:Value}{f:FuncId}{args:Array Value}{w':World}(h:Calls P f args w' fun e w''=>e= .returned v/\S w''):xg P S v (.ok (.enter f args) w'):=h
end
end
section
open Go.ChangeShapes Go.WideShapes Go.ChangeAt Go.RowKit
theorem jS{t e:TypeId}{len:Nat}(ht:prog.underlying t=some (.array len e))(hs:∀w,(sizeOf e).run prog w= .ok 1 w)(hp:∀w (cs:Array Value) (i:Nat) (v:Value),cs[i]? =some v->(part e cs i).run prog w= .ok v w){cs:Array Value}{k:Nat}(hk:k<len){v:Value}(hx:cs[k]? =some v)(kd:IntKind)(w:World):
  (Instr.index t (.agg cs) (.int kd k)).run prog w= .ok v w:=by
 have h2:(0:Int)<=(k:Int)/\(k:Int)<(len:Int):=⟨by omega,by omega⟩;simp[Instr.index,asIntOf,run_underlying ht,hk,hs,hp _ _ _ _ hx]
theorem fE(w:World):(sizeOf 5).run prog w= .ok 1 w:=by kernel_rfl
theorem iU{e:TypeId}{d:TypeDesc}(h1:prog.underlying e=some d)(h2:(match d with| .struct _| .array _ _=>false|_=>true)=true)(w:World)(cs:Array Value)(i:Nat)(v:Value)(h3:cs[i]? =some v):(part e cs i).run prog w= .ok v w:=by
 cases d<;>simp[part,isAgg,run_underlying h1,h3]at h2⊢
theorem E2a(w:World)(f:Nat->Nat)(k:Nat)(h:k<256)(kd:IntKind):(Instr.index 164 (.agg (xB f)) (.int kd k)).run prog w= .ok (.int .u8 (f k:Nat)) w:=
 jS underlying164 fE (iU underlying5 rfl) h (rM f k h) kd w
def rh(v:Value)(w:World)(e:Ending)(w':World):Prop:=e= .returned v/\Below w.heap.size w w'
theorem qu(w:World)(k:Nat)(hk:k<256):Calls prog 102 #[.int .u8 (k:Nat)] w (rh (.int .i64 (yX k:Nat)) w):=by
 have h9:=vg k;go_enter func102,ntmps102
 go_wp2_with fail
 refine(mU _).mono ?_;rintro e w1 ⟨rfl,ZQ⟩;have HB:=Z' ZQ;have hi:=E2a w1 yX k hk .u8;clear ZQ;generalize yX k=f at*
 go_wp2_with fail
 go_ret;exact⟨rfl,HB.out⟩
theorem qs(f:Nat):yC f<=3:=by
 unfold yC
 match f with
 |0|1|2|3|4|5|6|7|8|9=>decide
 |n+10=>simp
theorem tW(w:World)(f:Nat)(hf:f<=9):Calls prog 99 #[.int .i64 (f:Nat)] w fun e w'=>e= .returned (.int .i64 (yC f:Nat))/\w=w':=by
 have hi:=fun(w:World)=>jS (cs:= #[.int .u8 0,.int .u8 1,.int .u8 2,.int .u8 2,.int .u8 3,.int .u8 2,.int .u8 3,.int .u8 3,.int .u8 3,.int .u8 2]) (v:= .int .u8 (yC f:Nat)) (k:=f) underlying209 fE (iU underlying5 rfl) (by omega) (by
  match f,hf with
  |0,_|1,_|2,_|3,_|4,_|5,_|6,_|7,_|8,_|9,_=>rfl
  |n+10,h=>omega) .i64 w
 have h3:=qs f;generalize yC f=s at*;go_enter func99,ntmps99
 go_wp2_with fail
 go_ret;exact⟨rfl,rfl⟩
theorem E0f(w:World)(k:Nat)(hk:k<256):Calls prog 122 #[.int .u8 (k:Nat)] w (rh (.int .i64 (yC (yX k):Nat)) w):=by
 have h9:=vg k;go_enter func122,ntmps122
 go_wp2_with fail
 refine(qu _ k hk).mono ?_;rintro e w1 ⟨rfl,ZQ⟩;have HB:=Z' ZQ;clear ZQ
 go_wp2_with fail
 refine(tW _ _ h9).mono ?_;rintro e w' ⟨rfl,rfl⟩
 go_wp2_with fail
 go_ret;exact⟨rfl,HB.out⟩
theorem aw{k:Nat}{m:Int}{c:Int}(h:((k:Int)==m)=true)(hm:(yX m.toNat:Int)=c):c=(yX k:Int):=by
 have:(k:Int)=m:=by simpa using h
 subst this;simpa using hm.symm
def ke(k:Int):Bool:=[21,22,25,54,55,58,16,17,18,20,178,179,180,181,182,184,187,189,192,193,153,154,155,156,157,158,159,160,161,162,163,164,165,166,167,198,199,132,188,0,1,9,10,46,50,51,79,83,84,87,89,95,96,97,100,101,104,105,108,109,112,113,116,117,120,121,122,123,124,125,126,127,128,129,130,131,133,136,145,148,172,173,176,177,190,191].all fun m:Int=>(k==m)==false
theorem bX:∀k:Fin 256,8<k.val->ke (k.val:Int)=true->yX k.val=0:=by decide
theorem an{k:Nat}(hk:k<256)(h8:8<k)(h:ke k=true):(0:Int)=(yX k:Int):=by
 have:=bX ⟨k,hk⟩ h8 h;simp only at this;rw[this];rfl
theorem D1w:∀k:Fin 9,yX k.val=1:=by decide
theorem D3a{k:Nat}(h8:k<=8):(1:Int)=(yX k:Int):=by
 have:=D1w ⟨k,by omega⟩;simp only at this;rw[this];rfl
theorem pH(w:World)(k:Nat)(hk:k<256):Calls prog 113 #[.int .u8 (k:Nat)] w fun e w'=>e= .returned (.int .i64 (yX k:Nat))/\w=w':=by
 obtain⟨f,hf⟩:=Z8 (yX k);rw[<-hf];have HF:=Z' hf;clear hf;go_enter func113,ntmps113
 go_wp2_with fail
 all_goals first|(go_ret;exact⟨wN (by rw[HF.out];exact aw (by assumption) (by decide)),rfl⟩)|skip
 ·go_ret;exact⟨wN (by rw[HF.out];exact D3a (by omega)),rfl⟩
 ·go_ret;exact⟨wN (by rw[HF.out];exact an hk (by omega) (by simp only[ke,List.all_cons,List.all_nil, *];rfl)),rfl⟩
 exfalso;have h0:((k:Int)==0)=false:=by assumption
 have h1:((k:Int)==1)=false:=by assumption
 simp at h0 h1;omega
end
section
open Go.ChangeShapes Go.WideShapes Go.ChangeAt Go.RowKit
open Go.Maps (Keyed int_keyed)
def Rs(w:World)(a:Option Addr)(n:Nat)(L:List RW):Prop:=Ss 4 RW.cells w a n L
theorem Rs.below{w w':World}{a:Option Addr}{n:Nat}{L:List RW}(h:Rs w a n L)(hb:Below w.heap.size w w'):Rs w' a n L:=Ss.below h hb
structure RAt(w:World)(b o:Nat)(p:Int)(k:Nat)(x y:Int):Prop where
 c0:w.cell? ⟨b,o,none⟩=some (.int .i64 p)
 c1:w.cell? ⟨b,o+1,none⟩=some (.int .u8 (k:Nat))
 c2:w.cell? ⟨b,o+2,none⟩=some (.int .i64 x)
 c3:w.cell? ⟨b,o+3,none⟩=some (.int .i64 y)
theorem Rs.at{w:World}{a:Option Addr}{n:Nat}{L:List RW}(h:Rs w a n L)(i:Nat)(hi:i<n):∃b off r,a=some ⟨b,off,none⟩/\b<w.heap.size/\L[i]? =some r/\RAt w b (off+i*4) r.pos r.op r.a r.b:=by
 obtain⟨b,off,ha,ZX,hc⟩:=h.2 (by omega);have hl:i<L.length:=by rw[h.1];exact hi
 exact⟨b,off,L[i],ha,ZX,List.getElem?_eq_getElem hl,hc i hl 0 (by omega),hc i hl 1 (by omega),hc i hl 2 (by omega),hc i hl 3 (by omega)⟩
def xZ(n:Int):Prop:=(Lit.int .i64 n).wf=true
def sq(L:List RW):DataW Unit:=L.foldl (fun D r=>D.put (.int .i64 r.pos) (.lit (.bool true))) (.map [])
theorem dR{H:Type}{P:Program}{e:TypeId}(he:P.underlying e=some .bool){v:Value}{z:DataW H×List MemPlace}(h:plainElem P e v=some z):∃x,v= .bool x/\z=(.lit (.bool x),[]):=by
 unfold plainElem at h;rw[he]at h
 cases v<;>simp at h
 exact⟨_,rfl,h.symm⟩
theorem aK(r:RW)(L:List RW)(p:Int):thereB (r::L) p=(r.pos==p||thereB L p):=rfl
theorem E1v(L:List RW)(D:DataW Unit)(hD:Maps.IsMap D)(p:Int)(z:DataW Unit):
  (L.foldl (fun D r=>D.put (.int .i64 r.pos) (.lit (.bool true))) D).atKey (.int .i64 p) z=if thereB L p=true then .lit (.bool true)else D.atKey (.int .i64 p) z:=by
 induction L generalizing D with
 |nil=>simp[thereB]
 |cons r L ih=>
  rw[List.foldl_cons,ih _ (hD.put _ _),aK];by_cases h1:thereB L p=true
  ·simp[h1]
  by_cases h2:r.pos=p
  ·subst h2;rw[Maps.atKey_put_same hD (by trivial)];simp
  rw[Maps.atKey_put_other (by intro h;cases h;exact h2 rfl)]
  simp[h1,h2]
theorem D2k(L:List RW)(p:Int):(sq L).atKey (.int .i64 p) (.lit (.bool false))= .lit (.bool (thereB L p)):=by
 unfold sq;rw[E1v L _ Maps.isMap_empty]
 cases thereB L p
 ·simp;rfl
 simp
theorem D9h(w:World):(zeroValue 4).run prog w= .ok (.bool false) w:=by kernel_rfl
theorem D2z{w:World}{b n:Nat}{L:List RW}(h:w.ownsMap prog 3 (plainElem prog 4) b n (sq L))(p:Int)(hp:xZ p):
  (Instr.lookup 211 (.map (some b)) (.int .i64 p) false).run prog w= .ok (.bool (thereB L p)) w:=by
 obtain⟨v,ps,Xa,hv⟩:=h.lookup (int_keyed underlying3) underlying211 (D9h w) (plainElem_bool underlying4 false) (Maps.keyOf_int_mk underlying3 hp);obtain⟨x,rfl,hx⟩:=dR underlying4 hv;rw[D2k]at hx;simp at hx;rw[Xa,hx.1]
def D4y(L:List RW)(w:World)(e:Ending)(w':World):Prop:=∃b,e= .returned (.map (some b))/\w.heap.size<=b/\w'.ownsMap prog 3 (plainElem (H:=Unit) prog 4) b L.length (sq L)/\Below w.heap.size w w'
theorem aP(w:World)(a:Option Addr)(n cap:Nat)(L:List RW)(hs:Rs w a n L)(hn:n<=65536)(hw:∀r∈L,xZ r.pos):Calls prog 149 #[.slice a n cap] w (D4y L w):=by
 have HS:=Z' hs;have Zd:=Z' hs.1;have HW:=Z' hw;have Vj:= @run_makeMap prog;clear hs hw;go_enter func149,ntmps149
 go_wp2_with fail
 clear Vj
 go_loopg [9] n (fun gn i wr=>∃j:Nat,j<=n/\gn=n-j/\i= .int .i64 j/\Hid (wr.ownsMap prog 3 (plainElem (H:=Unit) prog 4) w.heap.size j (sq (L.take j)))/\Hid (Below w.heap.size w wr))
 case atStart=>exact⟨0,by omega,by omega,by go_num,Z' (World.ownsMap_made _ _ _ _),Z' (Z6.alloc Z5 _)⟩
 obtain⟨j,hj,rfl,rfl,HM,HB⟩:=hrel;by_cases ZX:j<n
 ·obtain⟨b,off,r,rfl,_,hr,q⟩:=(HS.out.below HB.out).at j ZX;obtain⟨q0,q1,q2,q3⟩:=q;have Mz:=HW.out r (List.mem_of_getElem? hr)
  have HN:=Z' (show sq (L.take (j+1))=(sq (L.take j)).put (.int .i64 r.pos) (.lit (.bool true)) by
   have YP:=(Z4 hr).1;have he:=(Z4 hr).2;unfold sq;rw[List.take_succ_eq_append_getElem YP,List.foldl_append,he];rfl)
  have j1:(j:Int)<n:=by omega
  clear hr;obtain⟨p,k,x,y⟩:=r;simp only at q0 q1 q2 q3 Mz HN;obtain⟨w',Xa,Zk,Vq⟩:=(HM.out.alloc (.cells #[.int .i64 p,.int .u8 (k:Nat),.int .i64 x,.int .i64 y] 118)).store (int_keyed underlying3) underlying211 (by unfold maxLen;omega) (val:= .bool true) (Maps.keyOf_int_mk underlying3 Mz) (plainElem_bool underlying4 true);have Wy:=Z' Zk
  have ZT:=Z' ((HB.out.alloc HB.out.size (.cells #[.int .i64 p,.int .u8 (k:Nat),.int .i64 x,.int .i64 y] 118)).grown Vq.grown (Nat.le_trans HB.out.size (by simp)) (fun m hm=>by cases hm;exact Nat.le_refl _))
  clear Zk Vq Mz
  go_wp2_with fail
  go_roundg (n-(j+1))
  case measure=>omega
  exact⟨j+1,by omega,rfl,by go_num,Z' (by rw[HN.out];exact Wy.out),ZT⟩
 obtain rfl:j=n:=by omega
 have HE:=Z' HM.out;rw[List.take_of_length_le (by rw[Zd.out];exact Nat.le_refl _)]at HE
 go_wp2_with fail
 go_ret;exact⟨_,rfl,Nat.le_refl _,by rw[Zd.out];exact HE.out,HB.out⟩
def E1y(L:List RW)(w:World)(e:Ending)(w':World):Prop:=e= .returned (.bool (wL L))/\Below w.heap.size w w'
theorem gK{L:List RW}{r:RW}(hr:r∈L)(h:(!(yX r.op==7)||thereB L r.a)=false):wL L=false:=by
 unfold wL;rw[List.all_eq_false];exact⟨r,hr,by rw[h];decide⟩
theorem g'{L:List RW}(h:∀(k:Nat) r,L[k]? =some r->(!(yX r.op==7)||thereB L r.a)=true):wL L=true:=by
 unfold wL;rw[List.all_eq_true];intro r hr;obtain⟨k,hk,rfl⟩:=List.getElem_of_mem hr;exact h k _ (List.getElem?_eq_getElem hk)
theorem gL(w:World)(a:Option Addr)(n cap:Nat)(L:List RW)(hs:Rs w a n L)(hn:n<=65536)(hw:∀r∈L,xZ r.pos/\xZ r.a/\r.op<256):Calls prog 101 #[.slice a n cap,.agg (xB yX)] w (E1y L w):=by
 have HS:=Z' hs;have Zd:=Z' hs.1;have HW:=Z' hw;have XJ:=aP (w.alloc (.cells (xB yX) 164)) a n cap L (hs.below (Z6.alloc Z5 _)) hn (fun r hr=>(hw r hr).1);have HP:=Z' XJ;clear hs hw XJ;go_enter func101,ntmps101
 go_wp2_with fail
 refine HP.out.mono ?_;rintro e w1 ⟨b,rfl,UG,Ru,ZQ⟩;have hT:=heap_alloc_last w (.cells (xB yX) 164);rw[<-ZQ.block _ (by simp)]at hT;have HT:=Z' hT;have HM:=Z' Ru;have ZM:=Z' (((Below.refl w.heap.size w).alloc Z5 (.cells (xB yX) 164)).trans (ZQ.mono (by simp)));clear UG Ru ZQ hT HP
 go_wp2_with fail
 go_loopg [12] n (fun gn i wr=>∃j:Nat,j<=n/\gn=n-j/\i= .int .i64 j/\Hid (∀(k:Nat) r,k<j->L[k]? =some r->(!(yX r.op==7)||thereB L r.a)=true)/\Hid (Below w1.heap.size w1 wr))
 case atStart=>exact⟨0,by omega,by omega,by go_num,Z' (fun k r h=>by omega),Z' Z6⟩
 obtain⟨j,hj,rfl,rfl,HG,HB⟩:=hrel;have NP:=Z7 ZM HB.out;by_cases ZX:j<n
 ·obtain⟨bb,off,r,rfl,_,hr,q⟩:=(HS.out.below NP.out).at j ZX;obtain⟨q0,q1,q2,q3⟩:=q;obtain⟨_,Yw,Zx⟩:=HW.out r (List.mem_of_getElem? hr);have hT:wr.heap[w.heap.size]? =some (.cells (xB yX) 164):=by rw[HB.out.block _ (Array.getElem?_eq_some_iff.1 HT.out).1];exact HT.out
  have tc:wr.cell? ⟨w.heap.size,r.op,none⟩=some (.int .u8 (yX r.op:Nat)):=by rw[cell_of_row wr _ _ _ _ _ hT];exact rM _ _ Zx
  have hk:=D2z (((HM.out.kept (row:=none) ⟨HB.out.os,HB.out.tape,HB.out.output,HB.out.size,fun k hk _=>HB.out.block k hk⟩ (by simp)).alloc (.cells #[.int .i64 r.pos,.int .u8 (r.op:Nat),.int .i64 r.a,.int .i64 r.b] 118))) r.a Yw;have Ra:=Z' (gK (L:=L) (List.mem_of_getElem? hr))
  have Ms:=Z9 ((!(yX r.op==7)||thereB L r.a)=true->∀(k:Nat) r,k<j+1->L[k]? =some r->(!(yX r.op==7)||thereB L r.a)=true) (fun h k r' hk WW=>by
   rcases Nat.lt_or_ge k j with h1|h1
   ·exact HG.out k r' h1 WW
   obtain rfl:k=j:=by omega
   rw[hr]at WW
   cases WW
   exact h)
  have j1:(j:Int)<n:=by omega
  have o1:(r.op:Int)<256:=by omega
  have f9:=vg r.op;obtain⟨p,o,x,y⟩:=r;simp only at q0 q1 q2 q3 Yw Zx hT tc hk Ra Ms o1 f9;generalize thereB L x=th at*;generalize yX o=f at*;have Bi:w.heap.size<wr.heap.size:=(Array.getElem?_eq_some_iff.1 hT).1;clear hr hT Yw;have HA:=Z' (HB.out.alloc HB.out.size (.cells #[.int .i64 p,.int .u8 (o:Nat),.int .i64 x,.int .i64 y] 118));by_cases h7:f=7
  ·subst h7
   cases th
   ·have HR:=Z' (Ra.out rfl)
    go_wp2_with fail
    go_ret;exact⟨by rw[HR.out];rfl,ZM.out.trans (HA.out.mono ZM.out.size)⟩
   have HQ:=Z' (Ms.out rfl)
   go_wp2_with fail
   go_roundg (n-(j+1))
   case measure=>omega
   exact⟨j+1,by omega,rfl,by go_num,HQ,HA⟩
  have e7:((f:Int)==7)=false:=by simp;omega
  have HQ:=Z' (Ms.out (by simp[h7]));clear h7
  go_wp2_with fail
  go_roundg (n-(j+1))
  case measure=>omega
  exact⟨j+1,by omega,rfl,by go_num,HQ,HA⟩
 obtain rfl:j=n:=by omega
 have HR:=Z' (g' (L:=L) (fun k r hk=>HG.out k r (by have:=(Z4 hk).1;rw[Zd.out]at this;exact this) hk))
 go_wp2_with fail
 go_ret;exact⟨by rw[HR.out];rfl,NP.out⟩
end
section
open Go.RowKit
section
variable {P:Program} {ops:Array Oper} {Q:Exit->Act->World->Prop} {md:Region.Mode} {S:World->Prop}
def p8(P:Program)(md:Region.Mode)(ops:Array Oper)(Q:Exit->Act->World->Prop)(S:World->Prop)(n:Nat):Nat->Array Bool->Act->World->Prop
 |0,listed,a,w=>Region.ready md ops listed=[]/\Q .normal a w
 |fuel+1,listed,a,w=>(Region.ready md ops listed=[]->Q .normal a w)/\
  ∀i∈Region.ready md ops listed,wpOp P ops Q i (fun a' w'=>(i≠n->S w')/\p8 P md ops Q S n fuel (listed.setIfInBounds i true) a' w') a w
theorem iW{n:Nat}:∀(fuel:Nat) (listed:Array Bool) (a:Act) (w:World),p8 P md ops Q S n fuel listed a w->wpAny P md ops Q fuel listed a w
 |0,_,_,_,h=>h
 |fuel+1,_,_,_,h=>⟨h.1,fun i hi=>wpOp_mono (fun a' w' h'=>iW fuel _ a' w' h'.2) (h.2 i hi)⟩
theorem jJ{n i:Nat}{oi:Oper}{v:Value}(LS:Region.sinkB md ops n=true)(Mm:Region.chainB md ops n=true)(hn:ops.size=n+1)(hin:i<n)
  (hi:ops[i]? =some oi) (Kp:∀(j:Nat) (o:Oper) cs b,ops[j]? =some o->o.op≠ .select cs b)
  (hQ:∀c a w,Q (.panic c) (a.put oi.dst v) w->Q (.panic c) a w):
  ∀(fuel:Nat) (listed:Array Bool) (a:Act) (w:World),HeadInv md ops n listed->
   (∀j oj,ops[j]? =some oj->j≠i->listed.getD j true=false->(∀e∈oj.after,Region.binds md e=true->e.on≠i)->oi.apart ops oj=true)->
   i∈Region.ready md ops listed->YieldsIf P ops S oi v a->S w->
   p8 P md ops Q S n fuel (listed.setIfInBounds i true) (a.put oi.dst v) w->p8 P md ops Q S n (fuel+1) listed a w:=by
 intro fuel
 induction fuel with
 |zero=>
  intro listed a w _ _ hr hy hS H
  refine⟨fun h=>(by rw[h]at hr;cases hr),fun j hj=> ?_⟩
  by_cases hji:j=i
  ·subst hji;exact hy.wpOp hi hS ⟨fun _=>hS,H⟩
  have:=ready_mono hj hji;rw[H.1]at this
  cases this
 |succ fuel ih=>
  intro listed a w inv N2 hr hy hS H
  refine⟨fun h=>(by rw[h]at hr;cases hr),fun j hj=> ?_⟩
  by_cases hji:j=i
  ·subst hji;exact hy.wpOp hi hS ⟨fun _=>hS,H⟩
  have h1:=H.2 j (ready_mono hj hji);obtain⟨PT,oj,Pi,hall⟩:=mem_ready.1 hj
  have M6:∀e∈oj.after,Region.binds md e=true->e.on≠i:=fun e he hb FJ=>by
   have h1:=hall e he hb;have h0:=(mem_ready.1 hr).1;rw[FJ,getD_both h0]at h1
   cases h1
  have hjs:j<ops.size:=(Array.getElem?_eq_some_iff.1 Pi).1;have Qb:j≠n:=fun e=>tail_waits LS Mm (by omega) inv (n-i) i rfl hin (mem_ready.1 hr).1 j (by omega) hj
  have h2:=wpOp_putIf Pi (N2 j oj Pi hji PT M6) (fun cs b=>Kp i oi cs b hi) (fun cs b=>Kp j oj cs b Pi) hQ hy h1
  have MF:∀k ok,ops[k]? =some ok->k≠i->(listed.setIfInBounds j true).getD k true=false->
    (∀e∈ok.after,Region.binds md e=true->e.on≠i)->oi.apart ops ok=true:=fun k ok hk E8 NN Gp=>by
   refine N2 k ok hk E8 ?_ Gp;by_cases hjk:j=k
   ·subst hjk;exact PT
   ·rw[getD_set_ne true hjk]at NN;exact NN
  refine wpOp_mono (fun a' w' h3=>⟨fun _=>h3.2.1 Qb,ih (listed.setIfInBounds j true) a' w' (inv.set hj (by omega)) MF (ready_mono hr (Ne.symm hji)) h3.1 (h3.2.1 Qb) ?_⟩) h2;rw[Array.setIfInBounds_comm _ _ hji];exact h3.2.2
def qZ(P:Program)(ops:Array Oper)(Q:Exit->Act->World->Prop)(n:Nat)(a:Act)(w:World):Prop:=
 match ops[n]? with
 |none=>False
 |some o=>if Region.wanted o (yielded ops a.tmps)=true then o.wp P a w (fun a' w'=>Q .normal a' w') Q else Q .normal (a.put o.dst undef) w
def rK(P:Program)(ops:Array Oper)(Q:Exit->Act->World->Prop)(S:World->Prop)(n:Nat):List (Nat×Bool)->Act->World->Prop
 |[],a,w=>qZ P ops Q n a w
 |(i,b)::l,a,w=>xb P ops Q S i b (rK P ops Q S n l) a w
def qx(ops:Array Oper)(n:Nat):Array Bool->List (Nat×Bool)->Bool
 |listed,[]=>Region.ready .any ops listed==[n]&&(Region.ready .any ops (listed.setIfInBounds n true)).isEmpty
 |listed,(i,b)::l=>decide (i<n)&&(if b then Region.free .any ops listed i&&(Region.ready .any ops listed).contains i else Region.ready .any ops listed==[i])&&qx ops n (listed.setIfInBounds i true) l
theorem aM{n:Nat}(hs:Region.noSelect ops=true)(hQ:∀c a d v w,Q (.panic c) (a.put d v) w->Q (.panic c) a w)(LS:Region.sinkB .any ops n=true)(Mm:Region.chainB .any ops n=true)(hn:ops.size=n+1):
  ∀(l:List (Nat×Bool)) (listed:Array Bool) (a:Act) (w:World),HeadInv .any ops n listed->qx ops n listed l=true->rK P ops Q S n l a w->p8 P .any ops Q S n (l.length+1) listed a w:=by
 intro l
 induction l with
 |nil=>
  intro listed a w inv hc h;simp only[qx,Bool.and_eq_true,beq_iff_eq]at hc
  refine⟨fun h0=>(by rw[hc.1]at h0;cases h0),fun j hj=> ?_⟩
  rw[hc.1]at hj;obtain rfl:j=n:=by simpa using hj
  change qZ P ops Q j a w at h;unfold qZ at h;unfold wpOp
  cases ho:ops[j]? with
  |none=>rw[ho]at h;exact h.elim
  |some o=>
  rw[ho]at h;simp only at h⊢;by_cases hw:Region.wanted o (yielded ops a.tmps)=true
  ·rw[if_pos hw]at h;simp only[hw,if_true];exact .inl (Oper.wp_mono (fun a' w' h'=>⟨fun ZF=>absurd rfl ZF,by simpa using hc.2,h'⟩) h)
  rw[if_neg hw]at h;simp only[hw];exact⟨fun ZF=>absurd rfl ZF,by simpa using hc.2,h⟩
 |cons p l ih=>
  obtain⟨i,b⟩:=p;intro listed a w inv hc h;simp only[qx,Bool.and_eq_true,decide_eq_true_eq]at hc;obtain⟨⟨hin,Y5⟩,Yz⟩:=hc;change xb P ops Q S i b (rK P ops Q S n l) a w at h;unfold xb at h
  cases ho:ops[i]? with
  |none=>rw[ho]at h;exact h.elim
  |some o=>
  rw[ho]at h;simp only at h
  cases b with
  |true=>
   simp only[if_true,Bool.and_eq_true]at Y5;obtain⟨hf,hr⟩:=Y5;have WW:i∈Region.ready .any ops listed:=by simpa using hr
   by_cases hw:Region.wanted o (yielded ops a.tmps)=true
   ·rw[if_pos hw]at h;obtain⟨v,h1,h2,h3⟩:=h;exact jJ LS Mm hn hin ho (Region.noSelect_spec hs) (fun c a w=>hQ c a _ _ w) _ listed a w inv (Region.free_spec ho hf) WW (.inl ⟨hw,h1⟩) h2 (ih _ _ _ (inv.set WW hin) Yz h3)
   rw[if_neg hw]at h;exact jJ LS Mm hn hin ho (Region.noSelect_spec hs) (fun c a w=>hQ c a _ _ w) _ listed a w inv (Region.free_spec ho hf) WW (.inr ⟨by simpa using hw,rfl⟩) h.1 (ih _ _ _ (inv.set WW hin) Yz h.2)
  |false=>
  simp only[Bool.false_eq_true,if_false,beq_iff_eq]at Y5
  refine⟨fun h0=>(by rw[Y5]at h0;cases h0),fun j hj=> ?_⟩
  have Dd:=hj;rw[Y5]at hj;obtain rfl:j=i:=by simpa using hj
  unfold wpOp;rw[ho];simp only;by_cases hw:Region.wanted o (yielded ops a.tmps)=true
  ·rw[if_pos hw]at h;simp only[hw,if_true];exact .inl (Oper.wp_mono (fun a' w' h'=>⟨fun _=>h'.1,ih _ _ _ (inv.set Dd hin) Yz h'.2⟩) h)
  rw[if_neg hw]at h;simp only[hw];exact⟨fun _=>h.1,ih _ _ _ (inv.set Dd hin) Yz h.2⟩
theorem tq{id:Nat}{a:Act}{w:World}(S:World->Prop)(n:Nat)(l:List (Nat×Bool))(hm:P.follows .mixedOrders=true)
  (hc:(Region.noSelect ops&&(ops.size==n+1)&&(l.length==n)&&Region.sinkB .any ops n&&Region.chainB .any ops n&&qx ops n (Array.replicate ops.size false) l)=true) (hQ:∀c a d v w,Q (.panic c) (a.put d v) w->Q (.panic c) a w)
  (h:rK P ops Q S n l a w.drew):(Code.region id ops true).wp P Q a w:=by
 simp only[Bool.and_eq_true,beq_iff_eq]at hc;obtain⟨⟨⟨⟨⟨hs,hl⟩,Xf⟩,LS⟩,Mm⟩,hk⟩:=hc
 have EX:HeadInv .any ops n (Array.replicate ops.size false):=
  ⟨by simp,fun j oj _ hl=>(by rw[getD_replicate_false]at hl;cases hl),fun t _ ht=>getD_in (by simpa using ht) (getD_replicate_false _ _)⟩
 have:=aM (P:=P) (Q:=Q) (S:=S) hs hQ LS Mm hl l _ a _ EX hk h;rw[Xf,<-hl]at this;exact wp_region_any hm (iW _ _ _ _ this)
theorem xU{n i:Nat}{b:Bool}{l:List (Nat×Bool)}{a:Act}{w:World}
  (h:∀K:Act->World->Prop,(∀a w,rK P ops Q S n l a w->K a w)->xb P ops Q S i b K a w):rK P ops Q S n ((i,b)::l) a w:=h _ (fun _ _ h=>h)
theorem tm{n:Nat}{a:Act}{w:World}(h:qZ P ops Q n a w):rK P ops Q S n [] a w:=h
end
end
section
theorem tkF{P:Program}{ops:Array Oper}{Q:Exit->Act->World->Prop}{S:World->Prop}{i:Nat}{o:Oper}{K:Act->World->Prop}{a:Act}{w:World}{v:Value}(h:K (a.put o.dst v) w)(ho:ops[i]? =some o:=by rfl)(hw:Region.wanted o (yielded ops a.tmps)=true:=by rfl)
  (hv:∀w',S w'->(execOp a.eval o).run P w'= .ok (.value v) w':=by(intro w' Y7;first|(go_simp<;>with_reducible rfl)|(go_simp;go_bits;with_reducible rfl))) (hS:S w:=by assumption):xb P ops Q S i true K a w:=D9d ho hw v hv hS h
theorem alF{P:Program}{ops:Array Oper}{Q:Exit->Act->World->Prop}{S:World->Prop}{i:Nat}{o:Oper}{K:Act->World->Prop}{a:Act}{w:World}(h:o.wp P a w (fun a' w'=>S w'/\K a' w') Q)(ho:ops[i]? =some o:=by rfl)(hw:Region.wanted o (yielded ops a.tmps)=true:=by rfl):xb P ops Q S i false K a w:=D6s ho hw h
theorem skF{P:Program}{ops:Array Oper}{Q:Exit->Act->World->Prop}{S:World->Prop}{i:Nat}{b:Bool}{o:Oper}{K:Act->World->Prop}{a:Act}{w:World}(h:K (a.put o.dst undef) w)(ho:ops[i]? =some o:=by rfl)(hw:Region.wanted o (yielded ops a.tmps)=false:=by rfl)(hS:S w:=by assumption):xb P ops Q S i b K a w:=D8g ho hw hS h
theorem tkX{P:Program}{ops:Array Oper}{S:World->Prop}{i:Nat}{o:Oper}{K:Act->Prop}{a:Act}{v:Value}(h:K (a.put o.dst v))(ho:ops[i]? =some o:=by rfl)(hw:Region.wanted o (yielded ops a.tmps)=true:=by rfl)
  (hv:∀w',S w'->(execOp a.eval o).run P w'= .ok (.value v) w':=by(intro w' Y7;first|(go_simp<;>with_reducible rfl)|(go_simp;go_bits;with_reducible rfl))):xy P ops S i true K a:=by
 unfold xy;rw[ho];simp only[];rw[if_pos hw];exact⟨v,hv,h⟩
theorem skX{P:Program}{ops:Array Oper}{S:World->Prop}{i:Nat}{b:Bool}{o:Oper}{K:Act->Prop}{a:Act}(h:K (a.put o.dst undef))(ho:ops[i]? =some o:=by rfl)(hw:Region.wanted o (yielded ops a.tmps)=false:=by rfl):xy P ops S i b K a:=by
 unfold xy;rw[ho];simp only[];rw[if_neg (by rw[hw];decide)];exact h
theorem laF{P:Program}{ops:Array Oper}{Q:Exit->Act->World->Prop}{n:Nat}{o:Oper}{a:Act}{w:World}(h:o.wp P a w (fun a' w'=>Q .normal a' w') Q)(ho:ops[n]? =some o:=by rfl)(hw:Region.wanted o (yielded ops a.tmps)=true:=by rfl):qZ P ops Q n a w:=by
 unfold qZ;rw[ho];simp only[];rw[if_pos hw];exact h
end
section
open Go.ChangeShapes Go.WideShapes Go.ChangeAt Go.RowKit
def xL(w:World)(g:Nat)(p:Int)(k:Nat)(x y:Int):Prop:=w.heap[g]? =some (.cells #[.int .i64 p,.int .u8 (k:Nat),.int .i64 x,.int .i64 y] 118)
theorem xL.below{w w':World}{g:Nat}{p:Int}{k:Nat}{x y:Int}(h:xL w g p k x y)(hb:Below w.heap.size w w'):xL w' g p k x y:=by
 unfold xL;rw[hb.block g (Array.getElem?_eq_some_iff.1 h).1];exact h
theorem xL.box{w:World}{g:Nat}{p:Int}{k:Nat}{x y:Int}(h:xL w g p k x y):(w.cell? ⟨g,0,none⟩=some (.int .i64 p)/\w.cell? ⟨g,1,none⟩=some (.int .u8 (k:Nat))/\w.cell? ⟨g,2,none⟩=some (.int .i64 x)/\w.cell? ⟨g,3,none⟩=some (.int .i64 y))/\
  (w.frozen? ⟨g,2,none⟩=false/\w.frozen? ⟨g,3,none⟩=false)/\g<w.heap.size:=by
 refine⟨⟨?_,?_,?_,?_⟩,⟨?_,?_⟩,(Array.getElem?_eq_some_iff.1 h).1⟩
 ·rw[cell_of_row w g 0 _ _ _ h];rfl
 ·rw[cell_of_row w g 1 _ _ _ h];rfl
 ·rw[cell_of_row w g 2 _ _ _ h];rfl
 ·rw[cell_of_row w g 3 _ _ _ h];rfl
 all_goals (unfold World.frozen?;rw[h];rfl)
theorem xL.set2{w:World}{g:Nat}{p:Int}{k:Nat}{x y x':Int}(h:xL w g p k x y):xL (w.setCell ⟨g,2,none⟩ (.int .i64 x')) g p k x' y:=mG h 2 _
theorem xL.set3{w:World}{g:Nat}{p:Int}{k:Nat}{x y y':Int}(h:xL w g p k x y):xL (w.setCell ⟨g,3,none⟩ (.int .i64 y')) g p k x y':=mG h 3 _
theorem tK{w w':World}{g o:Nat}{v:Value}(h:w.grownBy w' (some g)):w.grownBy (w'.setCell ⟨g,o,none⟩ v) (some g):=
 ⟨h.os,h.tape,h.output,by rw[ig];exact h.size,fun k hk ZF=>by rw[n8 (fun e=>ZF (by rw[e]))];exact h.block k hk ZF⟩
theorem uc{w w':World}{row:Option Nat}(h:Below w.heap.size w w'):w.grownBy w' row:=⟨h.os,h.tape,h.output,h.size,fun k hk _=>h.block k hk⟩
theorem nd{w w':World}{r:Option Nat}(h:w.grownBy w' r):w.grownBy w'.drew r:=⟨h.os,h.tape,h.output,h.size,h.block⟩
def ky(y1:World)(g p k:Nat)(w':World):Prop:=(∃x,xL w' g p k x 0)/\y1.grownBy w' (some g)
def tV(bs:List UInt8)(p f g k:Nat)(w:World)(e:Ending)(w':World):Prop:=
 e= .returned (.int .i64 (if xz bs p f=true then 8 else 0))/\xL w' g p k (yB bs p f) (yt bs p f)/\w.grownBy w' (some g)
theorem vz(bs:List UInt8)(i n:Int):U64 (yi bs i n).1:=by
 unfold yi U64;by_cases h1:n<1\/8<n
 ·rw[if_pos h1];exact⟨by decide,by decide⟩
 rw[if_neg h1];by_cases h2:i<0\/(bs.length:Int)<i\/(bs.length:Int) -i<n
 ·rw[if_pos h2];exact⟨by decide,by decide⟩
 rw[if_neg h2];have h3:=nP ((bs.drop i.toNat).take n.toNat);have h4:256^((bs.drop i.toNat).take n.toNat).length<=256^8:=Nat.pow_le_pow_right (by decide) (by simp;omega);simp only;omega
theorem vF(bs:List UInt8)(i n:Int)(m:Nat)(hn:n<=m)(hm:m<=8):(yi bs i n).1<((256^m:Nat):Int):=by
 have hp:0<256^m:=Nat.pow_pos (by decide);unfold yi;by_cases h1:n<1\/8<n
 ·rw[if_pos h1];exact Int.ofNat_lt.2 hp
 rw[if_neg h1];by_cases h2:i<0\/(bs.length:Int)<i\/(bs.length:Int) -i<n
 ·rw[if_pos h2];exact Int.ofNat_lt.2 hp
 rw[if_neg h2];have h3:=nP ((bs.drop i.toNat).take n.toNat);have h4:256^((bs.drop i.toNat).take n.toNat).length<=256^m:=Nat.pow_le_pow_right (by decide) (by simp;omega);exact Int.ofNat_lt.2 (Nat.lt_of_lt_of_le h3 h4)
theorem q9(v:Int): -128<=yu v 1/\yu v 1<=127:=by rw[show yu v 1=(v+128)%256-128 from rfl];omega
theorem qk(v:Int): -32768<=yu v 2/\yu v 2<=32767:=by rw[show yu v 2=(v+32768)%65536-32768 from rfl];omega
theorem E5b(w:World)(a:Option Addr)(n cap:Nat)(bs:List UInt8)(g p k:Nat)(hs:Sl yp w a n bs)(hn:n<=1048576)(Zv:n<=cap)(hp:p<=1048576)(hb:xL w g p k 0 0):
  Calls prog 100 #[.slice a n cap,.pointer (some ⟨g,0,none⟩),.int .i64 1] w (tV bs p 1 g k w):=by
 have HS:=Z' hs;have Xi:=Z' hb;have HV:Hid ((yi bs ((p:Int)+1) 1).1=yv bs p 1):=Z' rfl;have HU:=Z' (vz bs ((p:Int)+1) 1);have YA:=vF bs ((p:Int)+1) 1 1 (by decide) (by decide);have HC:=Z' (fun w' (h:Below w.heap.size w w')=>sV w' a n cap bs ((p:Int)+1) 1 (hs.below h) hn Zv (by unfold yw;omega) (by unfold yw;omega));rw[HV.out]at HC HU YA;generalize(yi bs ((p:Int)+1) 1).2=e2 at*;have Zi:Hid (yB bs p 1=0):=Z' (by unfold yB;simp);have YT:Hid (yt bs p 1=0):=Z' (by unfold yt;simp);obtain⟨x,hx⟩:=Z8 (yB bs p 1);obtain⟨y,hy⟩:=Z8 (yt bs p 1);have HX:=Z' hx;have HY:=Z' hy;rw[<-hx]at Zi;rw[<-hy]at YT;clear hs hb hx hy HV;generalize yv bs p 1=v at*;rw[show((256^1:Nat):Int)=256 from rfl]at YA;have WB:=HU.out.1;go_enter func100,ntmps100
 go_wp2_with fail
 obtain⟨⟨c0,c1,c2,c3⟩,_,Ya⟩:=Xi.out.box;have d0:=fun w' (h:Below w.heap.size w w')=>yF h c0
 clear c0 c1 c2 c3
 refine ye (Below w.heap.size w) (.stir [(0,true),(1,true),(2,true),(3,true),(4,true),(5,true),(6,true),(7,false),(8,true),(9,true),(10,false),(11,true),(12,true),(13,true),(14,true),(15,true)]) (by kernel_rfl) (by kernel_rfl) (fun c a d v w h=>by cases d<;>exact h) ?_
 refine yA (Below w.heap.size w) (fun _ h=>h) Z6.drew ?_
 iterate 7
  refine yH fun K hK=>tkX ?_
  go_simp
  try go_bits
  refine hK _ ?_;clear hK K
 refine yH (fun K hK=> ?_);simp only[xy,List.getElem?_toArray,List.getElem?_cons_succ,List.getElem?_cons_zero];rw[if_pos (by rfl)];apply Exists.intro;refine⟨fun w' Y7=> ?_,?_⟩
 ·go_simp;exact xg.call (Calls.mono ((tW w' 1 (by decide))) fun e w'' h=>⟨h.1,(fun Zr=>Zr▸Y7) h.2⟩)
 go_simp;refine hK _ ?_;clear hK K;rw[show yC 1=1 from rfl]
 iterate 2
  refine yH fun K hK=>tkX ?_
  go_simp
  try go_bits
  refine hK _ ?_;clear hK K
 refine yH (fun K hK=> ?_);simp only[xy,List.getElem?_toArray,List.getElem?_cons_succ,List.getElem?_cons_zero];rw[if_pos (by rfl)];apply Exists.intro;refine⟨fun w' Y7=> ?_,?_⟩
 ·go_simp;exact xg.call (Calls.mono ((HC.out w' Y7)) fun e w'' h=>⟨h.1,(fun Zr=>Zr▸Y7) h.2⟩)
 go_simp;refine hK _ ?_;clear hK K
 iterate 5
  refine yH fun K hK=>tkX ?_
  go_simp
  try go_bits
  refine hK _ ?_;clear hK K
 refine yE (fun y1 hy=> ?_);have Vx:=Z' hy;have ZM:=Z' (Xi.out.below hy);clear d0 hy HC;obtain⟨⟨c0,c1,c2,c3⟩,⟨f2,f3⟩,Ua⟩:=ZM.out.box
 go_wp2_with fail
 go_ret;exact⟨rfl,by rw[<-HX.out,<-HY.out,Zi.out,YT.out];exact ZM.out,uc Vx.out⟩
theorem E6g(w:World)(a:Option Addr)(n cap:Nat)(bs:List UInt8)(g p k:Nat)(hs:Sl yp w a n bs)(hn:n<=1048576)(Zv:n<=cap)(hp:p<=1048576)(hb:xL w g p k 0 0):
  Calls prog 100 #[.slice a n cap,.pointer (some ⟨g,0,none⟩),.int .i64 2] w (tV bs p 2 g k w):=by
 have HS:=Z' hs;have Xi:=Z' hb;have HV:Hid ((yi bs ((p:Int)+1) 1).1=yv bs p 2):=Z' rfl;have HU:=Z' (vz bs ((p:Int)+1) 1);have YA:=vF bs ((p:Int)+1) 1 1 (by decide) (by decide);have HC:=Z' (fun w' (h:Below w.heap.size w w')=>sV w' a n cap bs ((p:Int)+1) 1 (hs.below h) hn Zv (by unfold yw;omega) (by unfold yw;omega));rw[HV.out]at HC HU YA;generalize(yi bs ((p:Int)+1) 1).2=e2 at*;have Zi:Hid (yB bs p 2=yv bs p 2):=Z' (by unfold yB;simp);have YT:Hid (yt bs p 2=0):=Z' (by unfold yt;simp);obtain⟨x,hx⟩:=Z8 (yB bs p 2);obtain⟨y,hy⟩:=Z8 (yt bs p 2);have HX:=Z' hx;have HY:=Z' hy;rw[<-hx]at Zi;rw[<-hy]at YT;clear hs hb hx hy HV;generalize yv bs p 2=v at*;rw[show((256^1:Nat):Int)=256 from rfl]at YA;have WB:=HU.out.1;go_enter func100,ntmps100
 go_wp2_with fail
 obtain⟨⟨c0,c1,c2,c3⟩,_,Ya⟩:=Xi.out.box;have d0:=fun w' (h:Below w.heap.size w w')=>yF h c0
 clear c0 c1 c2 c3
 refine ye (Below w.heap.size w) (.stir [(0,true),(1,true),(2,true),(3,true),(4,true),(5,true),(6,true),(7,false),(8,true),(9,true),(10,false),(11,true),(12,true),(13,true),(14,true),(15,true)]) (by kernel_rfl) (by kernel_rfl) (fun c a d v w h=>by cases d<;>exact h) ?_
 refine yA (Below w.heap.size w) (fun _ h=>h) Z6.drew ?_
 iterate 7
  refine yH fun K hK=>tkX ?_
  go_simp
  try go_bits
  refine hK _ ?_;clear hK K
 refine yH (fun K hK=> ?_);simp only[xy,List.getElem?_toArray,List.getElem?_cons_succ,List.getElem?_cons_zero];rw[if_pos (by rfl)];apply Exists.intro;refine⟨fun w' Y7=> ?_,?_⟩
 ·go_simp;exact xg.call (Calls.mono ((tW w' 2 (by decide))) fun e w'' h=>⟨h.1,(fun Zr=>Zr▸Y7) h.2⟩)
 go_simp;refine hK _ ?_;clear hK K;rw[show yC 2=2 from rfl]
 iterate 2
  refine yH fun K hK=>tkX ?_
  go_simp
  try go_bits
  refine hK _ ?_;clear hK K
 refine yH (fun K hK=> ?_);simp only[xy,List.getElem?_toArray,List.getElem?_cons_succ,List.getElem?_cons_zero];rw[if_pos (by rfl)];apply Exists.intro;refine⟨fun w' Y7=> ?_,?_⟩
 ·go_simp;exact xg.call (Calls.mono ((HC.out w' Y7)) fun e w'' h=>⟨h.1,(fun Zr=>Zr▸Y7) h.2⟩)
 go_simp;refine hK _ ?_;clear hK K
 iterate 5
  refine yH fun K hK=>tkX ?_
  go_simp
  try go_bits
  refine hK _ ?_;clear hK K
 refine yE (fun y1 hy=> ?_);have Vx:=Z' hy;have ZM:=Z' (Xi.out.below hy);clear d0 hy HC;obtain⟨⟨c0,c1,c2,c3⟩,⟨f2,f3⟩,Ua⟩:=ZM.out.box
 go_wp2_with fail
 go_ret;exact⟨rfl,by rw[<-HX.out,<-HY.out,Zi.out,YT.out];exact ZM.out.set2,tK (uc Vx.out)⟩
theorem E7e(w:World)(a:Option Addr)(n cap:Nat)(bs:List UInt8)(g p k:Nat)(hs:Sl yp w a n bs)(hn:n<=1048576)(Zv:n<=cap)(hp:p<=1048576)(hb:xL w g p k 0 0):
  Calls prog 100 #[.slice a n cap,.pointer (some ⟨g,0,none⟩),.int .i64 3] w (tV bs p 3 g k w):=by
 have HS:=Z' hs;have Xi:=Z' hb;have HV:Hid ((yi bs ((p:Int)+1) 1).1=yv bs p 3):=Z' rfl;have HU:=Z' (vz bs ((p:Int)+1) 1);have YA:=vF bs ((p:Int)+1) 1 1 (by decide) (by decide);have HC:=Z' (fun w' (h:Below w.heap.size w w')=>sV w' a n cap bs ((p:Int)+1) 1 (hs.below h) hn Zv (by unfold yw;omega) (by unfold yw;omega));rw[HV.out]at HC HU YA;generalize(yi bs ((p:Int)+1) 1).2=e2 at*;have Zi:Hid (yB bs p 3=yu (yv bs p 3) 1):=Z' (by unfold yB;simp);have YT:Hid (yt bs p 3=0):=Z' (by unfold yt;simp);obtain⟨x,hx⟩:=Z8 (yB bs p 3);obtain⟨y,hy⟩:=Z8 (yt bs p 3);have HX:=Z' hx;have HY:=Z' hy;rw[<-hx]at Zi;rw[<-hy]at YT;clear hs hb hx hy HV;generalize yv bs p 3=v at*;rw[show((256^1:Nat):Int)=256 from rfl]at YA;have WB:=HU.out.1;go_enter func100,ntmps100
 go_wp2_with fail
 obtain⟨⟨c0,c1,c2,c3⟩,_,Ya⟩:=Xi.out.box;have d0:=fun w' (h:Below w.heap.size w w')=>yF h c0
 clear c0 c1 c2 c3
 refine ye (Below w.heap.size w) (.stir [(0,true),(1,true),(2,true),(3,true),(4,true),(5,true),(6,true),(7,false),(8,true),(9,true),(10,false),(11,true),(12,true),(13,true),(14,true),(15,true)]) (by kernel_rfl) (by kernel_rfl) (fun c a d v w h=>by cases d<;>exact h) ?_
 refine yA (Below w.heap.size w) (fun _ h=>h) Z6.drew ?_
 iterate 7
  refine yH fun K hK=>tkX ?_
  go_simp
  try go_bits
  refine hK _ ?_;clear hK K
 refine yH (fun K hK=> ?_);simp only[xy,List.getElem?_toArray,List.getElem?_cons_succ,List.getElem?_cons_zero];rw[if_pos (by rfl)];apply Exists.intro;refine⟨fun w' Y7=> ?_,?_⟩
 ·go_simp;exact xg.call (Calls.mono ((tW w' 3 (by decide))) fun e w'' h=>⟨h.1,(fun Zr=>Zr▸Y7) h.2⟩)
 go_simp;refine hK _ ?_;clear hK K;rw[show yC 3=2 from rfl]
 iterate 2
  refine yH fun K hK=>tkX ?_
  go_simp
  try go_bits
  refine hK _ ?_;clear hK K
 refine yH (fun K hK=> ?_);simp only[xy,List.getElem?_toArray,List.getElem?_cons_succ,List.getElem?_cons_zero];rw[if_pos (by rfl)];apply Exists.intro;refine⟨fun w' Y7=> ?_,?_⟩
 ·go_simp;exact xg.call (Calls.mono ((HC.out w' Y7)) fun e w'' h=>⟨h.1,(fun Zr=>Zr▸Y7) h.2⟩)
 go_simp;refine hK _ ?_;clear hK K
 iterate 5
  refine yH fun K hK=>tkX ?_
  go_simp
  try go_bits
  refine hK _ ?_;clear hK K
 refine yE (fun y1 hy=> ?_);have Vx:=Z' hy;have ZM:=Z' (Xi.out.below hy);clear d0 hy HC;obtain⟨⟨c0,c1,c2,c3⟩,⟨f2,f3⟩,Ua⟩:=ZM.out.box;have S9:=Z' (nZ y1 v 1 HU.out (by unfold yw;omega))
 go_wp2_with fail
 refine S9.out.mono ?_;rintro e w' ⟨rfl,rfl⟩
 go_wp2_with fail
 go_ret;exact⟨rfl,by rw[<-HX.out,<-HY.out,Zi.out,YT.out];exact ZM.out.set2,tK (uc Vx.out)⟩
theorem E6z(w:World)(a:Option Addr)(n cap:Nat)(bs:List UInt8)(g p k:Nat)(hs:Sl yp w a n bs)(hn:n<=1048576)(Zv:n<=cap)(hp:p<=1048576)(hb:xL w g p k 0 0):
  Calls prog 100 #[.slice a n cap,.pointer (some ⟨g,0,none⟩),.int .i64 4] w (tV bs p 4 g k w):=by
 have HS:=Z' hs;have Xi:=Z' hb;have HV:Hid ((yi bs ((p:Int)+1) 2).1=yv bs p 4):=Z' rfl;have HU:=Z' (vz bs ((p:Int)+1) 2);have YA:=vF bs ((p:Int)+1) 2 2 (by decide) (by decide);have HC:=Z' (fun w' (h:Below w.heap.size w w')=>sV w' a n cap bs ((p:Int)+1) 2 (hs.below h) hn Zv (by unfold yw;omega) (by unfold yw;omega));rw[HV.out]at HC HU YA;generalize(yi bs ((p:Int)+1) 2).2=e2 at*;have Zi:Hid (yB bs p 4=yu (yv bs p 4) 2):=Z' (by unfold yB;simp);have YT:Hid (yt bs p 4=0):=Z' (by unfold yt;simp);obtain⟨x,hx⟩:=Z8 (yB bs p 4);obtain⟨y,hy⟩:=Z8 (yt bs p 4);have HX:=Z' hx;have HY:=Z' hy;rw[<-hx]at Zi;rw[<-hy]at YT;clear hs hb hx hy HV;generalize yv bs p 4=v at*;rw[show((256^2:Nat):Int)=65536 from rfl]at YA;have WB:=HU.out.1;go_enter func100,ntmps100
 go_wp2_with fail
 obtain⟨⟨c0,c1,c2,c3⟩,_,Ya⟩:=Xi.out.box;have d0:=fun w' (h:Below w.heap.size w w')=>yF h c0
 clear c0 c1 c2 c3
 refine ye (Below w.heap.size w) (.stir [(0,true),(1,true),(2,true),(3,true),(4,true),(5,true),(6,true),(7,false),(8,true),(9,true),(10,false),(11,true),(12,true),(13,true),(14,true),(15,true)]) (by kernel_rfl) (by kernel_rfl) (fun c a d v w h=>by cases d<;>exact h) ?_
 refine yA (Below w.heap.size w) (fun _ h=>h) Z6.drew ?_
 iterate 7
  refine yH fun K hK=>tkX ?_
  go_simp
  try go_bits
  refine hK _ ?_;clear hK K
 refine yH (fun K hK=> ?_);simp only[xy,List.getElem?_toArray,List.getElem?_cons_succ,List.getElem?_cons_zero];rw[if_pos (by rfl)];apply Exists.intro;refine⟨fun w' Y7=> ?_,?_⟩
 ·go_simp;exact xg.call (Calls.mono ((tW w' 4 (by decide))) fun e w'' h=>⟨h.1,(fun Zr=>Zr▸Y7) h.2⟩)
 go_simp;refine hK _ ?_;clear hK K;rw[show yC 4=3 from rfl]
 iterate 2
  refine yH fun K hK=>tkX ?_
  go_simp
  try go_bits
  refine hK _ ?_;clear hK K
 refine yH (fun K hK=> ?_);simp only[xy,List.getElem?_toArray,List.getElem?_cons_succ,List.getElem?_cons_zero];rw[if_pos (by rfl)];apply Exists.intro;refine⟨fun w' Y7=> ?_,?_⟩
 ·go_simp;exact xg.call (Calls.mono ((HC.out w' Y7)) fun e w'' h=>⟨h.1,(fun Zr=>Zr▸Y7) h.2⟩)
 go_simp;refine hK _ ?_;clear hK K
 iterate 5
  refine yH fun K hK=>tkX ?_
  go_simp
  try go_bits
  refine hK _ ?_;clear hK K
 refine yE (fun y1 hy=> ?_);have Vx:=Z' hy;have ZM:=Z' (Xi.out.below hy);clear d0 hy HC;obtain⟨⟨c0,c1,c2,c3⟩,⟨f2,f3⟩,Ua⟩:=ZM.out.box;have S9:=Z' (nZ y1 v 2 HU.out (by unfold yw;omega))
 go_wp2_with fail
 refine S9.out.mono ?_;rintro e w' ⟨rfl,rfl⟩
 go_wp2_with fail
 go_ret;exact⟨rfl,by rw[<-HX.out,<-HY.out,Zi.out,YT.out];exact ZM.out.set2,tK (uc Vx.out)⟩
theorem E5v(w:World)(a:Option Addr)(n cap:Nat)(bs:List UInt8)(g p k:Nat)(hs:Sl yp w a n bs)(hn:n<=1048576)(Zv:n<=cap)(hp:p<=1048576)(hb:xL w g p k 0 0):
  Calls prog 100 #[.slice a n cap,.pointer (some ⟨g,0,none⟩),.int .i64 5] w (tV bs p 5 g k w):=by
 have HS:=Z' hs;have Xi:=Z' hb;have HV:Hid ((yi bs ((p:Int)+1) 1).1=yv bs p 5):=Z' rfl;have HU:=Z' (vz bs ((p:Int)+1) 1);have YA:=vF bs ((p:Int)+1) 1 1 (by decide) (by decide);have HC:=Z' (fun w' (h:Below w.heap.size w w')=>sV w' a n cap bs ((p:Int)+1) 1 (hs.below h) hn Zv (by unfold yw;omega) (by unfold yw;omega));rw[HV.out]at HC HU YA;generalize(yi bs ((p:Int)+1) 1).2=e2 at*;have Zi:Hid (yB bs p 5=yv bs p 5):=Z' (by unfold yB;simp);have YT:Hid (yt bs p 5=0):=Z' (by unfold yt;simp);obtain⟨x,hx⟩:=Z8 (yB bs p 5);obtain⟨y,hy⟩:=Z8 (yt bs p 5);have HX:=Z' hx;have HY:=Z' hy;rw[<-hx]at Zi;rw[<-hy]at YT;clear hs hb hx hy HV;generalize yv bs p 5=v at*;rw[show((256^1:Nat):Int)=256 from rfl]at YA;have WB:=HU.out.1;go_enter func100,ntmps100
 go_wp2_with fail
 obtain⟨⟨c0,c1,c2,c3⟩,_,Ya⟩:=Xi.out.box;have d0:=fun w' (h:Below w.heap.size w w')=>yF h c0
 clear c0 c1 c2 c3
 refine ye (Below w.heap.size w) (.stir [(0,true),(1,true),(2,true),(3,true),(4,true),(5,true),(6,true),(7,false),(8,true),(9,true),(10,false),(11,true),(12,true),(13,true),(14,true),(15,true)]) (by kernel_rfl) (by kernel_rfl) (fun c a d v w h=>by cases d<;>exact h) ?_
 refine yA (Below w.heap.size w) (fun _ h=>h) Z6.drew ?_
 iterate 7
  refine yH fun K hK=>tkX ?_
  go_simp
  try go_bits
  refine hK _ ?_;clear hK K
 refine yH (fun K hK=> ?_);simp only[xy,List.getElem?_toArray,List.getElem?_cons_succ,List.getElem?_cons_zero];rw[if_pos (by rfl)];apply Exists.intro;refine⟨fun w' Y7=> ?_,?_⟩
 ·go_simp;exact xg.call (Calls.mono ((tW w' 5 (by decide))) fun e w'' h=>⟨h.1,(fun Zr=>Zr▸Y7) h.2⟩)
 go_simp;refine hK _ ?_;clear hK K;rw[show yC 5=2 from rfl]
 iterate 2
  refine yH fun K hK=>tkX ?_
  go_simp
  try go_bits
  refine hK _ ?_;clear hK K
 refine yH (fun K hK=> ?_);simp only[xy,List.getElem?_toArray,List.getElem?_cons_succ,List.getElem?_cons_zero];rw[if_pos (by rfl)];apply Exists.intro;refine⟨fun w' Y7=> ?_,?_⟩
 ·go_simp;exact xg.call (Calls.mono ((HC.out w' Y7)) fun e w'' h=>⟨h.1,(fun Zr=>Zr▸Y7) h.2⟩)
 go_simp;refine hK _ ?_;clear hK K
 iterate 5
  refine yH fun K hK=>tkX ?_
  go_simp
  try go_bits
  refine hK _ ?_;clear hK K
 refine yE (fun y1 hy=> ?_);have Vx:=Z' hy;have ZM:=Z' (Xi.out.below hy);clear d0 hy HC;obtain⟨⟨c0,c1,c2,c3⟩,⟨f2,f3⟩,Ua⟩:=ZM.out.box
 go_wp2_with fail
 go_ret;exact⟨rfl,by rw[<-HX.out,<-HY.out,Zi.out,YT.out];exact ZM.out.set2,tK (uc Vx.out)⟩
theorem E6d(w:World)(a:Option Addr)(n cap:Nat)(bs:List UInt8)(g p k:Nat)(hs:Sl yp w a n bs)(hn:n<=1048576)(Zv:n<=cap)(hp:p<=1048576)(hb:xL w g p k 0 0):
  Calls prog 100 #[.slice a n cap,.pointer (some ⟨g,0,none⟩),.int .i64 6] w (tV bs p 6 g k w):=by
 have HS:=Z' hs;have Xi:=Z' hb;have HV:Hid ((yi bs ((p:Int)+1) 2).1=yv bs p 6):=Z' rfl;have HU:=Z' (vz bs ((p:Int)+1) 2);have YA:=vF bs ((p:Int)+1) 2 2 (by decide) (by decide);have HC:=Z' (fun w' (h:Below w.heap.size w w')=>sV w' a n cap bs ((p:Int)+1) 2 (hs.below h) hn Zv (by unfold yw;omega) (by unfold yw;omega));rw[HV.out]at HC HU YA;generalize(yi bs ((p:Int)+1) 2).2=e2 at*;have Zi:Hid (yB bs p 6=yv bs p 6):=Z' (by unfold yB;simp);have YT:Hid (yt bs p 6=0):=Z' (by unfold yt;simp);obtain⟨x,hx⟩:=Z8 (yB bs p 6);obtain⟨y,hy⟩:=Z8 (yt bs p 6);have HX:=Z' hx;have HY:=Z' hy;rw[<-hx]at Zi;rw[<-hy]at YT;clear hs hb hx hy HV;generalize yv bs p 6=v at*;rw[show((256^2:Nat):Int)=65536 from rfl]at YA;have WB:=HU.out.1;go_enter func100,ntmps100
 go_wp2_with fail
 obtain⟨⟨c0,c1,c2,c3⟩,_,Ya⟩:=Xi.out.box;have d0:=fun w' (h:Below w.heap.size w w')=>yF h c0
 clear c0 c1 c2 c3
 refine ye (Below w.heap.size w) (.stir [(0,true),(1,true),(2,true),(3,true),(4,true),(5,true),(6,true),(7,false),(8,true),(9,true),(10,false),(11,true),(12,true),(13,true),(14,true),(15,true)]) (by kernel_rfl) (by kernel_rfl) (fun c a d v w h=>by cases d<;>exact h) ?_
 refine yA (Below w.heap.size w) (fun _ h=>h) Z6.drew ?_
 iterate 7
  refine yH fun K hK=>tkX ?_
  go_simp
  try go_bits
  refine hK _ ?_;clear hK K
 refine yH (fun K hK=> ?_);simp only[xy,List.getElem?_toArray,List.getElem?_cons_succ,List.getElem?_cons_zero];rw[if_pos (by rfl)];apply Exists.intro;refine⟨fun w' Y7=> ?_,?_⟩
 ·go_simp;exact xg.call (Calls.mono ((tW w' 6 (by decide))) fun e w'' h=>⟨h.1,(fun Zr=>Zr▸Y7) h.2⟩)
 go_simp;refine hK _ ?_;clear hK K;rw[show yC 6=3 from rfl]
 iterate 2
  refine yH fun K hK=>tkX ?_
  go_simp
  try go_bits
  refine hK _ ?_;clear hK K
 refine yH (fun K hK=> ?_);simp only[xy,List.getElem?_toArray,List.getElem?_cons_succ,List.getElem?_cons_zero];rw[if_pos (by rfl)];apply Exists.intro;refine⟨fun w' Y7=> ?_,?_⟩
 ·go_simp;exact xg.call (Calls.mono ((HC.out w' Y7)) fun e w'' h=>⟨h.1,(fun Zr=>Zr▸Y7) h.2⟩)
 go_simp;refine hK _ ?_;clear hK K
 iterate 5
  refine yH fun K hK=>tkX ?_
  go_simp
  try go_bits
  refine hK _ ?_;clear hK K
 refine yE (fun y1 hy=> ?_);have Vx:=Z' hy;have ZM:=Z' (Xi.out.below hy);clear d0 hy HC;obtain⟨⟨c0,c1,c2,c3⟩,⟨f2,f3⟩,Ua⟩:=ZM.out.box
 go_wp2_with fail
 go_ret;exact⟨rfl,by rw[<-HX.out,<-HY.out,Zi.out,YT.out];exact ZM.out.set2,tK (uc Vx.out)⟩
theorem E5j(w:World)(a:Option Addr)(n cap:Nat)(bs:List UInt8)(g p k:Nat)(hs:Sl yp w a n bs)(hn:n<=1048576)(Zv:n<=cap)(hp:p<=1048576)(hb:xL w g p k 0 0):
  Calls prog 100 #[.slice a n cap,.pointer (some ⟨g,0,none⟩),.int .i64 7] w (tV bs p 7 g k w):=by
 have HS:=Z' hs;have Xi:=Z' hb;have HV:Hid ((yi bs ((p:Int)+1) 2).1=yv bs p 7):=Z' rfl;have HU:=Z' (vz bs ((p:Int)+1) 2);have YA:=vF bs ((p:Int)+1) 2 2 (by decide) (by decide);have HC:=Z' (fun w' (h:Below w.heap.size w w')=>sV w' a n cap bs ((p:Int)+1) 2 (hs.below h) hn Zv (by unfold yw;omega) (by unfold yw;omega));rw[HV.out]at HC HU YA;generalize(yi bs ((p:Int)+1) 2).2=e2 at*;have Zi:Hid (yB bs p 7=(p:Int)+yu (yv bs p 7) 2):=Z' (by unfold yB;simp);have YT:Hid (yt bs p 7=0):=Z' (by unfold yt;simp);obtain⟨x,hx⟩:=Z8 (yB bs p 7);obtain⟨y,hy⟩:=Z8 (yt bs p 7);have HX:=Z' hx;have HY:=Z' hy;rw[<-hx]at Zi;rw[<-hy]at YT;clear hs hb hx hy HV;generalize yv bs p 7=v at*;rw[show((256^2:Nat):Int)=65536 from rfl]at YA;have WB:=HU.out.1;go_enter func100,ntmps100
 go_wp2_with fail
 obtain⟨⟨c0,c1,c2,c3⟩,_,Ya⟩:=Xi.out.box;have d0:=fun w' (h:Below w.heap.size w w')=>yF h c0
 clear c0 c1 c2 c3
 refine ye (Below w.heap.size w) (.stir [(0,true),(1,true),(2,true),(3,true),(4,true),(5,true),(6,true),(7,false),(8,true),(9,true),(10,false),(11,true),(12,true),(13,true),(14,true),(15,true)]) (by kernel_rfl) (by kernel_rfl) (fun c a d v w h=>by cases d<;>exact h) ?_
 refine yA (Below w.heap.size w) (fun _ h=>h) Z6.drew ?_
 iterate 7
  refine yH fun K hK=>tkX ?_
  go_simp
  try go_bits
  refine hK _ ?_;clear hK K
 refine yH (fun K hK=> ?_);simp only[xy,List.getElem?_toArray,List.getElem?_cons_succ,List.getElem?_cons_zero];rw[if_pos (by rfl)];apply Exists.intro;refine⟨fun w' Y7=> ?_,?_⟩
 ·go_simp;exact xg.call (Calls.mono ((tW w' 7 (by decide))) fun e w'' h=>⟨h.1,(fun Zr=>Zr▸Y7) h.2⟩)
 go_simp;refine hK _ ?_;clear hK K;rw[show yC 7=3 from rfl]
 iterate 2
  refine yH fun K hK=>tkX ?_
  go_simp
  try go_bits
  refine hK _ ?_;clear hK K
 refine yH (fun K hK=> ?_);simp only[xy,List.getElem?_toArray,List.getElem?_cons_succ,List.getElem?_cons_zero];rw[if_pos (by rfl)];apply Exists.intro;refine⟨fun w' Y7=> ?_,?_⟩
 ·go_simp;exact xg.call (Calls.mono ((HC.out w' Y7)) fun e w'' h=>⟨h.1,(fun Zr=>Zr▸Y7) h.2⟩)
 go_simp;refine hK _ ?_;clear hK K
 iterate 5
  refine yH fun K hK=>tkX ?_
  go_simp
  try go_bits
  refine hK _ ?_;clear hK K
 refine yE (fun y1 hy=> ?_);have Vx:=Z' hy;have ZM:=Z' (Xi.out.below hy);clear d0 hy HC;obtain⟨⟨c0,c1,c2,c3⟩,⟨f2,f3⟩,Ua⟩:=ZM.out.box;have S9:=Z' (fun w'=>nZ w' v 2 HU.out (by unfold yw;omega));have Xe:=qk v
 go_wp2_with fail
 have d0:=fun w' (h:ky y1 g p k w')=>h.1.choose_spec.box.1.1
 have GD:=ZM.out.below (Below.refl y1.heap.size y1).drew;have Z3:ky y1 g p k y1.drew:=⟨⟨0,GD⟩,uc Z6.drew⟩;clear c0 c1 c2 c3 f2 f3;have Yk:=Z' GD;clear GD
 refine ye (ky y1 g p k) (.of [(0,true),(1,true),(2,true),(3,true),(4,true),(5,true),(6,false),(7,true),(8,true),(9,true),(10,false)] (.stir [])) (by kernel_rfl) (by kernel_rfl) (fun c a d v w h=>by cases d<;>exact h) ?_
 iterate 6
  refine yY fun K hK=>tkF ?_
  go_simp
  try go_bits
  refine hK _ _ ?_;clear hK K
 refine yY fun K hK=>alF ?_
 go_step;refine(S9.out _).mono ?_;rintro e w' ⟨rfl,rfl⟩;go_simp;refine hK _ _ ?_;clear hK K
 iterate 3
  refine yY fun K hK=>tkF ?_
  go_simp
  try go_bits
  refine hK _ _ ?_;clear hK K
 obtain⟨⟨c0,c1,c2,c3⟩,⟨f2,f3⟩,Ua⟩:=Yk.out.box;refine yY fun K hK=>alF ?_
 go_step;have WG:xL (y1.setCell ⟨g,2,none⟩ (.int .i64 ((p:Int)+yu v 2))).drew g p k ((p:Int)+yu v 2) 0:=ZM.out.set2;have UV:w.grownBy (y1.setCell ⟨g,2,none⟩ (.int .i64 ((p:Int)+yu v 2))).drew (some g):=nd (tK (uc Vx.out));refine⟨⟨⟨_,WG⟩,nd (tK (uc Z6))⟩,hK _ _ ?_⟩;clear hK K;have Yp:=Z' WG;have Bu:=Z' UV;clear WG UV c0 c1 c2 c3 f2 f3 d0 Z3;refine yA (fun z=>z=(y1.setCell ⟨g,2,none⟩ (.int .i64 ((p:Int)+yu v 2))).drew) (fun z hz=>by subst hz;exact⟨⟨_,Yp.out⟩,nd (tK (uc Z6))⟩) rfl ?_;refine yE (fun y2 hy=> ?_);subst hy
 go_wp2_with fail
 go_ret;exact⟨rfl,by rw[<-HX.out,<-HY.out,Zi.out,YT.out];exact Yp.out,Bu.out⟩
theorem E7b(w:World)(a:Option Addr)(n cap:Nat)(bs:List UInt8)(g p k:Nat)(hs:Sl yp w a n bs)(hn:n<=1048576)(Zv:n<=cap)(hp:p<=1048576)(hb:xL w g p k 0 0):
  Calls prog 100 #[.slice a n cap,.pointer (some ⟨g,0,none⟩),.int .i64 8] w (tV bs p 8 g k w):=by
 have HS:=Z' hs;have Xi:=Z' hb;have HV:Hid ((yi bs ((p:Int)+1) 2).1=yv bs p 8):=Z' rfl;have HU:=Z' (vz bs ((p:Int)+1) 2);have YA:=vF bs ((p:Int)+1) 2 2 (by decide) (by decide);have HC:=Z' (fun w' (h:Below w.heap.size w w')=>sV w' a n cap bs ((p:Int)+1) 2 (hs.below h) hn Zv (by unfold yw;omega) (by unfold yw;omega));rw[HV.out]at HC HU YA;generalize(yi bs ((p:Int)+1) 2).2=e2 at*;have Zi:Hid (yB bs p 8=yv bs p 8/256):=Z' (by unfold yB;simp);have YT:Hid (yt bs p 8=yu (yv bs p 8) 1):=Z' (by unfold yt;simp);obtain⟨x,hx⟩:=Z8 (yB bs p 8);obtain⟨y,hy⟩:=Z8 (yt bs p 8);have HX:=Z' hx;have HY:=Z' hy;rw[<-hx]at Zi;rw[<-hy]at YT;clear hs hb hx hy HV;generalize yv bs p 8=v at*;rw[show((256^2:Nat):Int)=65536 from rfl]at YA;have WB:=HU.out.1;go_enter func100,ntmps100
 go_wp2_with fail
 obtain⟨⟨c0,c1,c2,c3⟩,_,Ya⟩:=Xi.out.box;have d0:=fun w' (h:Below w.heap.size w w')=>yF h c0
 clear c0 c1 c2 c3
 refine ye (Below w.heap.size w) (.stir [(0,true),(1,true),(2,true),(3,true),(4,true),(5,true),(6,true),(7,false),(8,true),(9,true),(10,false),(11,true),(12,true),(13,true),(14,true),(15,true)]) (by kernel_rfl) (by kernel_rfl) (fun c a d v w h=>by cases d<;>exact h) ?_
 refine yA (Below w.heap.size w) (fun _ h=>h) Z6.drew ?_
 iterate 7
  refine yH fun K hK=>tkX ?_
  go_simp
  try go_bits
  refine hK _ ?_;clear hK K
 refine yH (fun K hK=> ?_);simp only[xy,List.getElem?_toArray,List.getElem?_cons_succ,List.getElem?_cons_zero];rw[if_pos (by rfl)];apply Exists.intro;refine⟨fun w' Y7=> ?_,?_⟩
 ·go_simp;exact xg.call (Calls.mono ((tW w' 8 (by decide))) fun e w'' h=>⟨h.1,(fun Zr=>Zr▸Y7) h.2⟩)
 go_simp;refine hK _ ?_;clear hK K;rw[show yC 8=3 from rfl]
 iterate 2
  refine yH fun K hK=>tkX ?_
  go_simp
  try go_bits
  refine hK _ ?_;clear hK K
 refine yH (fun K hK=> ?_);simp only[xy,List.getElem?_toArray,List.getElem?_cons_succ,List.getElem?_cons_zero];rw[if_pos (by rfl)];apply Exists.intro;refine⟨fun w' Y7=> ?_,?_⟩
 ·go_simp;exact xg.call (Calls.mono ((HC.out w' Y7)) fun e w'' h=>⟨h.1,(fun Zr=>Zr▸Y7) h.2⟩)
 go_simp;refine hK _ ?_;clear hK K
 iterate 5
  refine yH fun K hK=>tkX ?_
  go_simp
  try go_bits
  refine hK _ ?_;clear hK K
 refine yE (fun y1 hy=> ?_);have Vx:=Z' hy;have ZM:=Z' (Xi.out.below hy);clear d0 hy HC;obtain⟨⟨c0,c1,c2,c3⟩,⟨f2,f3⟩,Ua⟩:=ZM.out.box;have S9:=Z' (nZ y1 v 1 HU.out (by unfold yw;omega))
 go_wp2_with fail
 refine S9.out.mono ?_;rintro e w' ⟨rfl,rfl⟩
 go_wp2_with fail
 go_ret;exact⟨rfl,by rw[<-HX.out,<-HY.out,Zi.out,YT.out];exact ZM.out.set2.set3,tK (tK (uc Vx.out))⟩
theorem E5c(w:World)(a:Option Addr)(n cap:Nat)(bs:List UInt8)(g p k:Nat)(hs:Sl yp w a n bs)(hn:n<=1048576)(Zv:n<=cap)(hp:p<=1048576)(hb:xL w g p k 0 0):
  Calls prog 100 #[.slice a n cap,.pointer (some ⟨g,0,none⟩),.int .i64 9] w (tV bs p 9 g k w):=by
 have HS:=Z' hs;have Xi:=Z' hb;have HV:Hid ((yi bs ((p:Int)+1) 1).1=yv bs p 9):=Z' rfl;have HU:=Z' (vz bs ((p:Int)+1) 1);have YA:=vF bs ((p:Int)+1) 1 1 (by decide) (by decide);have HC:=Z' (fun w' (h:Below w.heap.size w w')=>sV w' a n cap bs ((p:Int)+1) 1 (hs.below h) hn Zv (by unfold yw;omega) (by unfold yw;omega));rw[HV.out]at HC HU YA;generalize(yi bs ((p:Int)+1) 1).2=e2 at*;have Zi:Hid (yB bs p 9=yv bs p 9):=Z' (by unfold yB;simp);have YT:Hid (yt bs p 9=0):=Z' (by unfold yt;simp);obtain⟨x,hx⟩:=Z8 (yB bs p 9);obtain⟨y,hy⟩:=Z8 (yt bs p 9);have HX:=Z' hx;have HY:=Z' hy;rw[<-hx]at Zi;rw[<-hy]at YT;clear hs hb hx hy HV;generalize yv bs p 9=v at*;rw[show((256^1:Nat):Int)=256 from rfl]at YA;have WB:=HU.out.1;go_enter func100,ntmps100
 go_wp2_with fail
 obtain⟨⟨c0,c1,c2,c3⟩,_,Ya⟩:=Xi.out.box;have d0:=fun w' (h:Below w.heap.size w w')=>yF h c0
 clear c0 c1 c2 c3
 refine ye (Below w.heap.size w) (.stir [(0,true),(1,true),(2,true),(3,true),(4,true),(5,true),(6,true),(7,false),(8,true),(9,true),(10,false),(11,true),(12,true),(13,true),(14,true),(15,true)]) (by kernel_rfl) (by kernel_rfl) (fun c a d v w h=>by cases d<;>exact h) ?_
 refine yA (Below w.heap.size w) (fun _ h=>h) Z6.drew ?_
 iterate 7
  refine yH fun K hK=>tkX ?_
  go_simp
  try go_bits
  refine hK _ ?_;clear hK K
 refine yH (fun K hK=> ?_);simp only[xy,List.getElem?_toArray,List.getElem?_cons_succ,List.getElem?_cons_zero];rw[if_pos (by rfl)];apply Exists.intro;refine⟨fun w' Y7=> ?_,?_⟩
 ·go_simp;exact xg.call (Calls.mono ((tW w' 9 (by decide))) fun e w'' h=>⟨h.1,(fun Zr=>Zr▸Y7) h.2⟩)
 go_simp;refine hK _ ?_;clear hK K;rw[show yC 9=2 from rfl]
 iterate 2
  refine yH fun K hK=>tkX ?_
  go_simp
  try go_bits
  refine hK _ ?_;clear hK K
 refine yH (fun K hK=> ?_);simp only[xy,List.getElem?_toArray,List.getElem?_cons_succ,List.getElem?_cons_zero];rw[if_pos (by rfl)];apply Exists.intro;refine⟨fun w' Y7=> ?_,?_⟩
 ·go_simp;exact xg.call (Calls.mono ((HC.out w' Y7)) fun e w'' h=>⟨h.1,(fun Zr=>Zr▸Y7) h.2⟩)
 go_simp;refine hK _ ?_;clear hK K
 iterate 5
  refine yH fun K hK=>tkX ?_
  go_simp
  try go_bits
  refine hK _ ?_;clear hK K
 refine yE (fun y1 hy=> ?_);have Vx:=Z' hy;have ZM:=Z' (Xi.out.below hy);clear d0 hy HC;obtain⟨⟨c0,c1,c2,c3⟩,⟨f2,f3⟩,Ua⟩:=ZM.out.box;have Yk:Hid (xz bs p 9=(!(yB bs p 9==8)&& !(yB bs p 9==10))):=Z' rfl;rw[<-HX.out,Zi.out]at Yk
 have Yt:=Z9 (∀r:Int,r=(if xz bs p 9=true then 8 else 0)->tV bs p 9 g k w (.returned (.int .i64 r)) (y1.setCell ⟨g,2,none⟩ (.int .i64 v))) (fun r hr=>
  ⟨by rw[hr],by rw[<-HX.out,<-HY.out,Zi.out,YT.out];exact ZM.out.set2,tK (uc Vx.out)⟩)
 by_cases h8:v=8
 ·have e8:(v !=8)=false:=by simp[h8]
  have HR:=Z' (show xz bs p 9=false by rw[Yk.out];simp[h8]);rw[HR.out]at Yt;clear h8 Yk
  go_wp2_with fail
  go_ret;exact Yt.out 0 rfl
 have e8:(v !=8)=true:=by simp[h8]
 by_cases X1:v=10
 ·have MY:(v !=10)=false:=by simp[X1]
  have HR:=Z' (show xz bs p 9=false by rw[Yk.out];simp[X1]);rw[HR.out]at Yt;clear h8 X1 Yk
  go_wp2_with fail
  go_ret;exact Yt.out 0 rfl
 have MY:(v !=10)=true:=by simp[X1]
 have HR:=Z' (show xz bs p 9=true by rw[Yk.out];simp[h8,X1]);rw[HR.out]at Yt;clear h8 X1 Yk
 go_wp2_with fail
 go_ret;exact Yt.out 8 rfl
theorem D8b(w:World)(a:Option Addr)(n cap:Nat)(bs:List UInt8)(g p k f:Nat)(hs:Sl yp w a n bs)(hn:n<=1048576)(Zv:n<=cap)(hp:p<=1048576)(hb:xL w g p k 0 0)(h1:f≠0)(h9:f<=9):
  Calls prog 100 #[.slice a n cap,.pointer (some ⟨g,0,none⟩),.int .i64 (f:Nat)] w (tV bs p f g k w):=by
 have h:f=1\/f=2\/f=3\/f=4\/f=5\/f=6\/f=7\/f=8\/f=9:=by omega
 rcases h with rfl|rfl|rfl|rfl|rfl|rfl|rfl|rfl|rfl
 ·exact E5b w a n cap bs g p k hs hn Zv hp hb
 ·exact E6g w a n cap bs g p k hs hn Zv hp hb
 ·exact E7e w a n cap bs g p k hs hn Zv hp hb
 ·exact E6z w a n cap bs g p k hs hn Zv hp hb
 ·exact E5v w a n cap bs g p k hs hn Zv hp hb
 ·exact E6d w a n cap bs g p k hs hn Zv hp hb
 ·exact E5j w a n cap bs g p k hs hn Zv hp hb
 ·exact E7b w a n cap bs g p k hs hn Zv hp hb
 exact E5c w a n cap bs g p k hs hn Zv hp hb
theorem kT(bs:List UInt8)(p:Nat):yK bs p<256:=(bs.getD p 0).toNat_lt
theorem rT{f:Nat}(h0:f≠0)(h9:f<=9):1<=yC f:=by
 match f,h0,h9 with
 |1,_,_|2,_,_|3,_,_|4,_,_|5,_,_|6,_,_|7,_,_|8,_,_|9,_,_=>decide
 |n+10,_,h=>omega
theorem nh(bs:List UInt8)(p f:Nat):0<=yv bs p f/\yv bs p f<65536:=by
 have h1:=vz bs ((p:Int)+1) ((max (yC f-1) 1:Nat):Int);have h2:=vF bs ((p:Int)+1) ((max (yC f-1) 1:Nat):Int) 2 (by have:=qs f;omega) (by decide);unfold yv;refine⟨h1.1,?_⟩;rw[show((256^2:Nat):Int)=65536 from rfl]at h2;exact h2
theorem cA(bs:List UInt8)(p f:Nat): -32768<=yB bs p f/\yB bs p f<=(p:Int)+65536:=by
 have h:=nh bs p f;unfold yB;generalize yv bs p f=v at*;have h1:=q9 v;have h2:=qk v;simp only;split
 ·omega
 split
 ·omega
 split
 ·omega
 split
 ·omega
 split
 ·omega
 omega
theorem xp{n:Int}(h: -9223372036854775808<=n/\n<=9223372036854775807):xZ n:=by
 unfold xZ Lit.wf;simp only[Bool.and_eq_true,decide_eq_true_eq];exact h
theorem mu(bs:List UInt8)(p:Nat)(hp:p<=1048576):xZ (vZ bs p).pos/\xZ (vZ bs p).a/\(vZ bs p).op<256:=by
 have h:=cA bs p (yX (yK bs p));exact⟨xp (by unfold vZ;simp only;omega),xp (by unfold vZ;simp only;omega),kT bs p⟩
theorem qt(bs:List UInt8)(fuel p:Nat)(acc:List RW)(h:bs.length<=p):xC bs fuel p acc=(0,acc):=by
 cases fuel
 ·rfl
 unfold xC;rw[if_pos h]
theorem pg(bs:List UInt8)(fuel p:Nat)(acc:List RW)(h:p<bs.length)(h0:yX (yK bs p)=0):xC bs (fuel+1) p acc=(8,[]):=by
 rw[xC,if_neg (by omega),if_pos h0]
theorem px(bs:List UInt8)(fuel p:Nat)(acc:List RW)(h:p<bs.length)(h0:yX (yK bs p)≠0)(h1:bs.length-p<yC (yX (yK bs p))):xC bs (fuel+1) p acc=(6,[]):=by
 rw[xC,if_neg (by omega),if_neg h0,if_pos h1]
theorem nY(bs:List UInt8)(fuel p:Nat)(acc:List RW)(h:p<bs.length)(h0:yX (yK bs p)≠0)(h1:¬bs.length-p<yC (yX (yK bs p)))(h2:xz bs p (yX (yK bs p))=true):xC bs (fuel+1) p acc=(8,[]):=by
 rw[xC,if_neg (by omega),if_neg h0,if_neg h1,if_pos h2]
theorem qy(bs:List UInt8)(fuel p:Nat)(acc:List RW)(h:p<bs.length)(h0:yX (yK bs p)≠0)(h1:¬bs.length-p<yC (yX (yK bs p)))(h2:xz bs p (yX (yK bs p))=false):
  xC bs (fuel+1) p acc=xC bs fuel (p+yC (yX (yK bs p))) (acc++[vZ bs p]):=by
 rw[xC,if_neg (by omega),if_neg h0,if_neg h1,if_neg (by rw[h2];decide)]
theorem jC{bs:List UInt8}(h:4096<bs.length):xW bs=(9,[]):=by unfold xW;rw[if_pos h]
theorem uB{bs:List UInt8}{e:Int}(h:¬4096<bs.length)(hd:xC bs (bs.length+1) 0 []=(e,[]))(he:e≠0):xW bs=(e,[]):=by
 unfold xW;rw[if_neg h,hd,if_pos he]
theorem jN{bs:List UInt8}{l:List RW}(h:¬4096<bs.length)(hd:xC bs (bs.length+1) 0 []=(0,l))(hg:wL l=false):xW bs=(2,[]):=by
 unfold xW;rw[if_neg h,hd,if_neg (by simp),if_neg (by simp[hg])]
theorem mR{bs:List UInt8}{l:List RW}(h:¬4096<bs.length)(hd:xC bs (bs.length+1) 0 []=(0,l))(hg:wL l=true):xW bs=(0,l):=by
 unfold xW;rw[if_neg h,hd,if_neg (by simp),if_pos hg]
theorem stR:StE 112 118 (.agg #[.int .i64 0,.int .u8 0,.int .i64 0,.int .i64 0]) 4 32:=⟨underlying112,by kernel_rfl,rfl⟩
theorem bV{w:World}{B:Nat}{e:TypeId}{size:Nat}{v:Value}{n:Nat}{xs:List Value}(h:w.ownsRow B e size v n xs):some w.heap.size≠v.ownBlock:=by
 intro he;have:=(h.lt _ he.symm).2;omega
theorem ia{w w':World}{B:Nat}{e t:TypeId}{size:Nat}{v:Value}{n g:Nat}{xs:List Value}{o:Obj}{cs:Array Value}{fr:Nat×Nat}(ho:w.ownsRow B e size v n xs)(hg:(w.alloc o).grownBy w' v.ownBlock)(hx:w.heap[g]? =some (.cells cs t fr))(ZF:e≠t):w'.heap[g]? =some (.cells cs t fr):=by
 have ZX:=(Array.getElem?_eq_some_iff.1 hx).1;rw[hg.block g (by simp;omega) ?_,Below.heap_alloc _ _ _ ZX]
 ·exact hx
 intro he
 rcases ho.2 with⟨rfl,_⟩|⟨g2,cap,cur,rfl,_,hg2,_⟩
 ·simp[Value.ownBlock]at he
 simp[Value.ownBlock]at he;subst he;rw[hg2]at hx;simp at hx;exact ZF hx.2.1
theorem D6n{w w':World}{o:Obj}{row:Option Nat}{g:Nat}(hg:(w.alloc o).grownBy w' row)(h:g<w.heap.size):g<w'.heap.size:=by
 have h1:=hg.size;simp at h1;omega
def vX(R:Int×List RW)(w:World)(e:Ending)(w':World):Prop:=
 ∃v m,e= .returned (.tuple #[v,.int .i64 R.1])/\w'.ownsRow w.heap.size 118 4 v m (R.2.flatMap RW.cells)/\(∀r∈R.2,xZ r.pos/\xZ r.a/\r.op<256)/\Below w.heap.size w w'
theorem vX.err{R:Int×List RW}{w w':World}{e:Int}(h:R=(e,[]))(hb:Below w.heap.size w w'):vX R w (.returned (.tuple #[.slice none 0 0,.int .i64 e])) w':=by
 subst h
 exact⟨_,0,rfl,World.ownsRow_nil _ _ _ _,(fun r hr=>by cases hr),hb⟩
theorem bR(w:World)(a:Option Addr)(n cap:Nat)(bs:List UInt8)(hs:Sl yp w a n bs)(hn:n<=65536)(Zv:n<=cap):Calls prog 53 #[.slice a n cap] w (vX (xW bs) w):=by
 have HS:=Z' hs;have Zd:=Z' hs.1;obtain⟨R,hR⟩:=Z8 (xW bs);rw[<-hR];have HR:=Z' hR;clear hs hR;by_cases h4:4096<n
 ·have HQ:=Z' (show R=(9,[]) by rw[HR.out];exact jC (by rw[Zd.out];exact h4));have e1:decide ((4096:Int)<n)=true:=by simp;omega
  go_enter func53,ntmps53
  go_wp2_with fail
  go_ret2;exact vX.err HQ.out Z6
 have e1:decide ((4096:Int)<n)=false:=by simp;omega
 have H4:=Z' (show ¬4096<bs.length by rw[Zd.out];exact h4);have hz:=ku;go_enter func53,ntmps53
 go_wp2_with fail
 refine(mU _).mono ?_;rintro e w1 ⟨rfl,ZQ⟩;have ZM:=Z' ZQ;clear ZQ
 go_wp2_with (first
  |(refine jY rfl _ _ _ rfl _ rfl rfl _ _ (by rw[uA];exact rN) (by simp[uA,zs8]) (mB _) ?_))
 clear hz;have Y3:=Z' (heap_alloc_last w1 (.cells (xB yX) 164));have ZT:=Z' (ZM.out.alloc ZM.out.size (.cells (xB yX) 164));have Ua:w1.heap.size<(w1.alloc (.cells (xB yX) 164)).heap.size:=by simp
 generalize w1.alloc _=w2 at*;generalize Sm:w1.heap.size=gt at*;clear Sm ZM
 go_loopg [5,6] n (fun gn v i wr=>∃p fuel m:Nat,∃acc,p<=n/\gn=n-p/\i= .int .i64 p/\n<fuel+p/\m<=p/\Hid (wr.ownsRow w.heap.size 118 4 v m (acc.flatMap RW.cells))/\Hid (∀r∈acc,xZ r.pos/\xZ r.a/\r.op<256)/\
  Hid (wr.heap[gt]? =some (.cells (xB yX) 164))/\Hid (Below w.heap.size w wr)/\Hid (xC bs (bs.length+1) 0 []=xC bs fuel p acc)/\gt<wr.heap.size)
 case atStart=>exact⟨0,n+1,0,[],by omega,by omega,by go_num,by omega,by omega,Z' (World.ownsRow_nil _ _ _ _),Z' (fun r hr=>by cases hr),Y3,ZT,Z' (by rw[Zd.out]),Ua⟩
 obtain⟨p,fuel,m,acc,hp,rfl,rfl,hf,hm,HO,HW,HT,HB,HD,Ya⟩:=hrel;by_cases ZX:p<n
 ·obtain⟨fuel,rfl⟩:∃f,fuel=f+1:=⟨fuel-1,by omega⟩;obtain⟨b,off,rfl,Zu,hc⟩:=(HS.out.below HB.out).2 (by omega);have XJ:p<bs.length:=by rw[Zd.out];exact ZX
  have q0:=hc p XJ;have Zx:bs[p].toNat=yK bs p:=by unfold yK;simp[List.getD,XJ]
  unfold yp at q0;rw[Zx]at q0;have G9:=kT bs p;have PQ:=vg (yK bs p);have Vf:=Z' (fun(w':World) (hb:Below w.heap.size w w') (g:Nat) (hk:xL w' g p (yK bs p) 0 0) (h0:yX (yK bs p)≠0)=>D8b w' (some ⟨b,off,none⟩) n cap bs g p (yK bs p) (yX (yK bs p)) (HS.out.below hb) (by omega) Zv (by omega) hk h0 PQ);have YS:=Z' (fun(w':World)=>tW w' (yX (yK bs p)) PQ);have T6:=Z' (pg bs fuel p acc XJ);have Wn:=Z' (px bs fuel p acc XJ);have Yx:=Z' (nY bs fuel p acc XJ);have YL:=Z' (qy bs fuel p acc XJ);have D6:Hid (vZ bs p=⟨p,yK bs p,yB bs p (yX (yK bs p)),yt bs p (yX (yK bs p))⟩):=Z' rfl;have WK:=Z' (mu bs p (by omega));have SF:=fun h0=>rT (f:=yX (yK bs p)) h0 PQ
  have Zz:=qs (yX (yK bs p));have tc:wr.cell? ⟨gt,yK bs p,none⟩=some (.int .u8 (yX (yK bs p):Nat)):=by rw[cell_of_row wr _ _ _ _ _ HT.out];exact rM _ _ G9
  have p1:(p:Int)<n:=by omega
  have o1:(yK bs p:Int)<256:=by omega
  rw[Zd.out]at Wn Yx YL;clear hc Zx XJ;unfold tV at Vf;generalize xz bs p (yX (yK bs p))=bad at*;generalize yB bs p (yX (yK bs p))=ra at*;generalize yt bs p (yX (yK bs p))=rb at*;generalize yX (yK bs p)=f at*;generalize yC f=s at*;generalize yK bs p=o at*;by_cases h0:f=0
  ·subst h0;have HQ:=Z' (show R=(8,[]) by rw[HR.out];exact uB H4.out (by rw[HD.out];exact T6.out rfl) (by decide));clear T6 Wn Yx YL Vf YS
   go_wp2_with fail
   go_ret2;exact vX.err HQ.out (HB.out.alloc HB.out.size _)
  have Yd:=SF h0;have e0:((f:Int)==0)=false:=by simp;omega
  clear SF;by_cases h1:n-p<s
  ·have HQ:=Z' (show R=(6,[]) by rw[HR.out];exact uB H4.out (by rw[HD.out];exact Wn.out h0 h1) (by decide));have e2:decide ((n:Int) -p<s)=true:=by simp;omega
   clear T6 Wn Yx YL Vf h0
   go_wp2_with fail
   refine(YS.out _).mono ?_;rintro e w' ⟨rfl,rfl⟩
   go_wp2_with fail
   go_ret2;exact vX.err HQ.out (HB.out.alloc HB.out.size _)
  have e2:decide ((n:Int) -p<s)=false:=by simp;omega
  have H0:=Z' h0;have H1:=Z' h1;have hsn:p+s<=n:=by omega
  clear h0 h1
  go_wp2_with fail
  refine(YS.out _).mono ?_;rintro e w' ⟨rfl,rfl⟩
  go_wp2_with fail
  have ZY:Below w.heap.size w (wr.alloc (.cells #[.int .i64 p,.int .u8 (o:Nat),.int .i64 0,.int .i64 0] 118)):=HB.out.alloc HB.out.size _;refine(Vf.out _ ZY wr.heap.size (heap_alloc_last wr _) H0.out).mono ?_;rintro e w3 ⟨rfl,ZH,Qa⟩
  have U':=Z' (((Below.refl wr.heap.size wr).alloc Z5 (.cells #[.int .i64 p,.int .u8 (o:Nat),.int .i64 0,.int .i64 0] 118)).grown Qa (by simp) (fun k hk=>by cases hk;exact Nat.le_refl _))
  have ZG:=Z7 HB U'.out;have ZL:=Z' ZH;clear ZH Qa ZY;obtain⟨⟨c0,c1,c2,c3⟩,_,Fm⟩:=ZL.out.box
  cases bad
  ·simp only[Bool.false_eq_true,if_false];have VX:=Z' (wE HO.out U'.out);have VF:=Z' (show w3.heap[gt]? =some (.cells (xB yX) 164) by rw[U'.out.block gt Ya];exact HT.out);have Ek:gt<w3.heap.size:=(Array.getElem?_eq_some_iff.1 VF.out).1;have Vb:=Z' (HD.out.trans (YL.out H0.out H1.out rfl));rw[D6.out]at Vb WK
   go_wp2_with (at_builtin;first
    |(refine wU stR rfl _ _ rfl w.heap.size _ _ _ rfl VX.out _ 1 _ _ rfl rfl rfl rfl (by omega) (by unfold maxLen;omega) ZG.out.size ?_;intro v4 w4 ZD Xd Y1;have Vw:=Z' ZD;have YY:=Z' (ZG.out.trans Y1);have Xq:=Z' (ia VX.out Xd VF.out (by decide));have FL:=D6n Xd Ek;clear ZD Xd Y1))
   refine(YS.out _).mono ?_;rintro e w' ⟨rfl,rfl⟩
   go_wp2_with fail
   go_roundg (n-(p+s))
   case measure=>omega
   case rel=>exact⟨p+s,fuel,m+1,acc++[⟨p,o,ra,rb⟩],by omega,rfl,by go_num,by omega,by omega,Z' (by rw[List.flatMap_append];exact Vw.out),Z' (fun r hr=>by
    rcases List.mem_append.1 hr with h|h
    ·exact HW.out r h
    rw[List.mem_singleton.1 h];exact WK.out),Xq,YY,Vb,FL⟩
  simp only[if_true];have HQ:=Z' (show R=(8,[]) by rw[HR.out];exact uB H4.out (by rw[HD.out];exact Yx.out H0.out H1.out rfl) (by decide));clear T6 Wn Yx YL Vf YS
  go_wp2_with fail
  go_ret2;exact vX.err HQ.out ZG.out
 obtain rfl:p=n:=by omega
 have Lc:=Z' (HD.out.trans (qt bs fuel p acc (by rw[Zd.out];exact Nat.le_refl _)));obtain⟨va,vc,rfl,NB,SH⟩:=Ss.ofOwn RW.cells_length (by decide) HO.out;have HG:=Z' (fun w' (hb:Below wr.heap.size wr w')=>gL w' va m vc acc (Rs.below NB hb) (by omega) HW.out);clear NB
 go_wp2_with (first
  |(refine wpList_load_row rfl _ _ rfl _ rfl _ _ _ _ HT.out underlying164 rfl (by rw[uA];exact rN) ?_))
 refine(HG.out _ Z6).mono ?_;rintro e w3 ⟨rfl,Zn⟩;have ZG:=Z7 HB Zn;have VX:=Z' (wE HO.out Zn);clear Zn
 cases hg:wL acc
 ·have HQ:=Z' (show R=(2,[]) by rw[HR.out];exact jN H4.out Lc.out hg);clear hg
  go_wp2_with fail
  go_ret2;exact vX.err HQ.out ZG.out
 have HQ:=Z' (show R=(0,acc) by rw[HR.out];exact mR H4.out Lc.out hg);clear hg
 go_wp2_with fail
 go_ret2;exact⟨_,m,by rw[HQ.out];rfl,by rw[HQ.out];exact VX.out,by rw[HQ.out];exact HW.out,ZG.out⟩
end
end Go.Proofs.YtclpkipaehpkdaaGreatDoor
