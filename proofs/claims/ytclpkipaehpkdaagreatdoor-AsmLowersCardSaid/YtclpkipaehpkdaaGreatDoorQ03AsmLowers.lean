/- asm -/
import Derived.Test.YtclpkipaehpkdaaGreatDoorQ00AsmLowers
import Derived.OrdersHeld
import Derived.Deep.LoopGhost
import Derived.Deep.DeepCutAuto
import Derived.StillTail
set_option linter.unusedVariables false
set_option linter.unusedSimpArgs false
set_option maxRecDepth 100000
set_option maxHeartbeats 64000000
namespace Go.Proofs.YtclpkipaehpkdaaGreatDoor
section
open Go.RowKit
def A5i(P:Program)(ops:Array Oper)(Q:Exit->Act->World->Prop)(S:World->Prop)(i:Nat)(b:Bool)(K:Act->World->Prop)(a:Act)(w:World):Prop:=
 match ops[i]? with
 |none=>False
 |some o=>
  if Region.wanted o (yielded ops a.tmps)=true then
   (match b with
    |true=>∃v,(∀w',S w'->(execOp a.eval o).run P w'= .ok (.value v) w')/\S w/\K (a.put o.dst v) w
    |false=>o.wp P a w (fun a' w'=>S w'/\K a' w') Q)
  else S w/\K (a.put o.dst undef) w
def C3v(P:Program)(ops:Array Oper)(Q:Exit->Act->World->Prop)(S:World->Prop):List (Nat×Bool)->Act->World->Prop
 |[],a,w=>Q .normal a w
 |(i,b)::l,a,w=>A5i P ops Q S i b (C3v P ops Q S l) a w
def B2r(ops:Array Oper):Array Bool->List (Nat×Bool)->Bool
 |listed,[]=>(Region.ready .any ops listed).isEmpty
 |listed,(i,b)::l=>(if b then Region.free .any ops listed i&&(Region.ready .any ops listed).contains i else Region.ready .any ops listed==[i])&&B2r ops (listed.setIfInBounds i true) l
theorem D2i{P:Program}{ops:Array Oper}{Q:Exit->Act->World->Prop}{S:World->Prop}(hs:Region.noSelect ops=true)(hQ:∀c a d v w,Q (.panic c) (a.put d v) w->Q (.panic c) a w):
  ∀(l:List (Nat×Bool)) (listed:Array Bool) (a:Act) (w:World),B2r ops listed l=true->C3v P ops Q S l a w->wpAnyH P .any ops Q S l.length listed a w:=by
 intro l
 induction l with
 |nil=>
  intro listed a w hc h;exact⟨by simpa[B2r]using hc,h⟩
 |cons p l ih=>
  obtain⟨i,b⟩:=p;intro listed a w hc h;simp only[B2r,Bool.and_eq_true]at hc;obtain⟨hc1,hc2⟩:=hc;change A5i P ops Q S i b (C3v P ops Q S l) a w at h;unfold A5i at h
  cases ho:ops[i]? with
  |none=>rw[ho]at h;exact h.elim
  |some o=>
  rw[ho]at h;simp only at h
  cases b with
  |true=>
   simp only[if_true,Bool.and_eq_true]at hc1;obtain⟨hf,hr⟩:=hc1;by_cases hw:Region.wanted o (yielded ops a.tmps)=true
   ·rw[if_pos hw]at h;obtain⟨v,h1,h2,h3⟩:=h;exact wpAnyH_take ho hs hf hr (fun c a w=>hQ c a _ _ w) (.inl ⟨hw,h1⟩) h2 (ih _ _ _ hc2 h3)
   rw[if_neg hw]at h;exact wpAnyH_take ho hs hf hr (fun c a w=>hQ c a _ _ w) (.inr ⟨by simpa using hw,rfl⟩) h.1 (ih _ _ _ hc2 h.2)
  |false=>
  simp only[Bool.false_eq_true,if_false]at hc1;have hr:Region.ready .any ops listed=[i]:=by simpa using hc1
  refine wpAnyH_all hr (by simp) (fun j hj=> ?_);obtain rfl:j=i:=by simpa using hj
  unfold wpOp;rw[ho];simp only;by_cases hw:Region.wanted o (yielded ops a.tmps)=true
  ·rw[if_pos hw]at h;simp only[hw,if_true];exact .inl (Oper.wp_mono (fun a' w' h'=>⟨h'.1,ih _ _ _ hc2 h'.2⟩) h)
  rw[if_neg hw]at h;simp only[hw];exact⟨h.1,ih _ _ _ hc2 h.2⟩
theorem A4e{P:Program}{id:Nat}{ops:Array Oper}{Q:Exit->Act->World->Prop}{a:Act}{w:World}(S:World->Prop)(l:List (Nat×Bool))(hm:P.follows .mixedOrders=true)
  (hc:(Region.noSelect ops&&(l.length==ops.size)&&B2r ops (Array.replicate ops.size false) l)=true) (hQ:∀c a d v w,Q (.panic c) (a.put d v) w->Q (.panic c) a w)
  (h:C3v P ops Q S l a w.drew):(Code.region id ops true).wp P Q a w:=by
 simp only[Bool.and_eq_true,beq_iff_eq]at hc;obtain⟨⟨hs,hl⟩,hk⟩:=hc;have:=D2i (P:=P) (Q:=Q) (S:=S) hs hQ l _ a _ hk h;rw[hl]at this;exact wp_region_held hm this
theorem A1m{P:Program}{ops:Array Oper}{Q:Exit->Act->World->Prop}{S:World->Prop}{i:Nat}{b:Bool}{l:List (Nat×Bool)}{a:Act}{w:World}
  (h:∀K:Act->World->Prop,(∀a w,C3v P ops Q S l a w->K a w)->A5i P ops Q S i b K a w):C3v P ops Q S ((i,b)::l) a w:=h _ (fun _ _ h=>h)
theorem B0a{P:Program}{ops:Array Oper}{Q:Exit->Act->World->Prop}{S:World->Prop}{a:Act}{w:World}(h:Q .normal a w):C3v P ops Q S [] a w:=h
theorem D6e{P:Program}{ops:Array Oper}{Q:Exit->Act->World->Prop}{S:World->Prop}{i:Nat}{o:Oper}{K:Act->World->Prop}{a:Act}{w:World}(ho:ops[i]? =some o)(hw:Region.wanted o (yielded ops a.tmps)=true)(v:Value)
  (hv:∀w',S w'->(execOp a.eval o).run P w'= .ok (.value v) w') (hS:S w) (h:K (a.put o.dst v) w):A5i P ops Q S i true K a w:=by
 unfold A5i;rw[ho];simp only[];rw[if_pos hw];exact⟨v,hv,hS,h⟩
theorem D3p{P:Program}{ops:Array Oper}{Q:Exit->Act->World->Prop}{S:World->Prop}{i:Nat}{o:Oper}{K:Act->World->Prop}{a:Act}{w:World}(ho:ops[i]? =some o)(hw:Region.wanted o (yielded ops a.tmps)=true)
  (h:o.wp P a w (fun a' w'=>S w'/\K a' w') Q):A5i P ops Q S i false K a w:=by
 unfold A5i;rw[ho];simp only[];rw[if_pos hw];exact h
theorem D4w{P:Program}{ops:Array Oper}{Q:Exit->Act->World->Prop}{S:World->Prop}{i:Nat}{b:Bool}{o:Oper}{K:Act->World->Prop}{a:Act}{w:World}(ho:ops[i]? =some o)(hw:Region.wanted o (yielded ops a.tmps)=false)
  (hS:S w) (h:K (a.put o.dst undef) w):A5i P ops Q S i b K a w:=by
 unfold A5i;rw[ho];simp only[];rw[if_neg (by rw[hw];decide)];exact⟨hS,h⟩
end
section
open Go.ChangeShapes Go.WideShapes Go.ChangeAt Go.RowKit
theorem D0q{t e:TypeId}{z:Value}{bytes:Nat}(hO:C9y t e z bytes){w:World}{ops:Array Oper}{o:Oper}{a:Act}{K:Act->World->Prop}{Q:Exit->Act->World->Prop}(hgd:Region.wanted o (yielded ops a.tmps)=true)(s x:Operand)(tx:TypeId)
  (ho:o.op= .call {callee:= .builtin .append,args:= #[s,x],argTypes:= #[t,tx]})
  (base:Nat) (v:Value) (n:Nat) (xs:List Value) (hv:a.eval s=v) (hown:w.ownsRow base e 1 v n xs)
  (y:Value) (m:Nat) (news:List Value) (hy:a.eval x=y) (hs:Src Tryz.prog 1 tx y m news w) (hlen:(n+m)*bytes<=140737488355328) (hm:n+m<=maxLen) (hbase:base<=w.heap.size)
  (h:∀v' w',w'.ownsRow base e 1 v' (n+m) (xs++news)->w.grownBy w' v.ownBlock->Below base w w'->K (a.put o.dst v') w'):Oper.wp Tryz.prog o a w K Q:=by
 have h1:=B9t (E:=True) (ops:=ops) (Q:=Q) hO hgd s x tx ho base v n xs hv hown y m news hy hs hlen hm hbase h
 rwa [if_pos hgd]at h1
def C2n(s:Nat×Nat×Nat):List Value:=[.int .u8 (s.1:Nat),.int .u8 (s.2.1:Nat),.int .i64 (s.2.2:Nat)]
theorem B6x(s:Nat×Nat×Nat):(C2n s).length=3:=rfl
def B1x:List (Nat×Nat×Nat):=[(0,10,1),(16,16,3),(17,17,4),(18,18,5),(20,20,6),(21,22,2),(25,25,2),(46,46,1),(50,51,1),(54,55,2),(58,58,2),(79,79,1),(83,84,1),(87,87,1),(89,89,1),(95,97,1),(100,101,1),(104,105,1),(108,109,1),(112,113,1),(116,117,1),(120,131,1),(132,132,8),(133,133,1),(136,136,1),(145,145,1),(148,148,1),(153,167,7),(172,173,1),(176,177,1),(178,182,6),(184,184,6),(187,187,6),(188,188,9),(189,189,6),(190,191,1),(192,193,6),(198,199,7)]
theorem C1b:∀s∈B1x,(s:Nat×Nat×Nat).1<=s.2.1/\s.2.1<=255/\s.2.2<=9:=by decide
def C2q(f:Nat->Nat)(s:Nat×Nat×Nat):Nat->Nat:=fun i=>if s.1<=i/\i<=s.2.1 then s.2.2 else f i
def B8k(k:Nat):Nat->Nat:=(B1x.take k).foldl C2q (fun _=>0)
def A0q(op:Nat):Nat:=B8k 38 op
theorem C7a(k:Nat)(h:k<B1x.length):B8k (k+1)=C2q (B8k k) B1x[k]:=by
 unfold B8k;rw[List.take_succ_eq_append_getElem h,List.foldl_append];rfl
theorem D6q(f:Nat->Nat)(s:Nat×Nat×Nat)(h:s.2.2<=9)(hf:∀i,f i<=9)(i:Nat):C2q f s i<=9:=by
 unfold C2q;split
 ·exact h
 exact hf i
theorem E0x(l:List (Nat×Nat×Nat))(hl:∀s∈l,(s:Nat×Nat×Nat).2.2<=9)(f:Nat->Nat)(hf:∀i,f i<=9)(i:Nat):l.foldl C2q f i<=9:=by
 induction l generalizing f with
 |nil=>exact hf i
 |cons s l ih=>exact ih (fun x hx=>hl x (List.mem_cons_of_mem _ hx)) _ (fun j=>D6q f s (hl s List.mem_cons_self) hf j)
theorem A3s(op:Nat):A0q op<=9:=by
 unfold A0q B8k;exact E0x _ (fun s hs=>(C1b s (List.mem_of_mem_take hs)).2.2) _ (fun _=>Nat.zero_le _) op
def A1r(f:Nat):Nat:=[0,1,2,2,3,2,3,3,3,2].getD f 0
def A9h(f:Nat->Nat):Array Value:=((List.range 256).map fun i=>Value.int .u8 (f i:Nat)).toArray
theorem A3p(f:Nat->Nat):(A9h f).size=256:=by simp[A9h]
theorem B1f(f:Nat->Nat)(j:Nat)(h:j<256):(A9h f)[j]? =some (.int .u8 (f j:Nat)):=by simp[A9h,h]
def E1b(f:Nat->Nat)(j x:Nat):Nat->Nat:=fun i=>if i=j then x else f i
theorem D4z(f:Nat->Nat)(j x:Nat):(A9h f).setIfInBounds j (.int .u8 (x:Nat))=A9h (E1b f j x):=by
 apply Array.ext_getElem?;intro i;rw[Array.getElem?_setIfInBounds];by_cases hi:i<256
 ·rw[B1f _ _ hi,B1f _ _ hi];unfold E1b;by_cases hk:j=i
  ·subst hk;simp[A3p,hi]
  simp only[hk,if_false];rw[if_neg (Ne.symm hk)]
 have h1:(A9h f)[i]? =none:=by simp[A3p];omega
 have h2:(A9h (E1b f j x))[i]? =none:=by simp[A3p];omega
 rw[h1,h2];split
 ·simp[A3p];omega
 rfl
theorem B8w(f:Nat->Nat):(A9h f).all (·.oneCell')=true:=by
 simp[A9h,Array.all_eq_true];intro i hi;rfl
def C2b(f:Nat->Nat)(a j x:Nat):Nat->Nat:=fun i=>if a<=i/\i<j then x else f i
theorem C5a(f:Nat->Nat)(a x:Nat):C2b f a a x=f:=by
 funext i;unfold C2b;rw[if_neg (by omega)]
theorem C7k(f:Nat->Nat)(a j x:Nat)(h:a<=j):E1b (C2b f a j x) j x=C2b f a (j+1) x:=by
 funext i;unfold E1b C2b;by_cases h1:i=j
 ·rw[if_pos h1,if_pos (by omega)]
 rw[if_neg h1];by_cases h2:a<=i/\i<j
 ·rw[if_pos h2,if_pos (by omega)]
 rw[if_neg h2,if_neg (by omega)]
theorem D2v(f:Nat->Nat)(a b x:Nat):C2b f a (b+1) x=C2q f (a,b,x):=by
 funext i;unfold C2b C2q;by_cases h:a<=i/\i<=b
 ·rw[if_pos (by omega),if_pos h]
 rw[if_neg (by omega),if_neg h]
theorem Ss.lit{α:Type}{z:Nat}{enc:α->List Value}(hz:∀x,(enc x).length=z){w:World}{g n:Nat}{xs:List α}{C:Array Value}{e:TypeId}{fr:Nat×Nat}(hg:w.heap[g]? =some (.cells C e fr))(hC:C=(xs.flatMap enc).toArray)(hn:xs.length=n):Ss z enc w (some ⟨g,0,none⟩) n xs:=by
 subst hC;refine⟨hn,fun _=>⟨g,0,rfl,(Array.getElem?_eq_some_iff.1 hg).1,fun i hi j hj=> ?_⟩⟩;rw[cell_of_row w g (0+i*z+j) _ e fr hg,Nat.zero_add];simp only[List.getElem?_toArray]
 exact B6p hz xs i hi j hj
def D4j(w:World)(e:Ending)(w':World):Prop:=e= .returned (.slice (some ⟨w.heap.size,0,none⟩) 38 38)/\Ss 3 C2n w' (some ⟨w.heap.size,0,none⟩) 38 B1x/\Below w.heap.size w w'/\w'.heap.size=w.heap.size+1
theorem D4d(w:World):Calls Tryz.prog 146 #[] w (D4j w):=by
 go_enter Tryz.func146,Tryz.ntmps146
 go_wp2_with fail
 go_ret;exact⟨rfl,Ss.lit B6x (heap_alloc_last w _) rfl rfl,brz.alloc nlz _,by simp⟩
theorem B6f{w:World}{g:Nat}{cs:Array Value}{t:TypeId}{fr:Nat×Nat}(h:w.heap[g]? =some (.cells cs t fr))(o:Nat)(v:Value):(w.setCell ⟨g,o,none⟩ v).heap[g]? =some (.cells (cs.setIfInBounds o v) t fr):=by
 unfold World.setCell;simp[Array.getElem?_modify,h]
theorem B2m{w:World}{g h:Nat}(hne:h≠g)(o:Nat)(v:Value):(w.setCell ⟨g,o,none⟩ v).heap[h]? =w.heap[h]? :=by
 unfold World.setCell;simp[Array.getElem?_modify,Ne.symm hne]
theorem C1j{w:World}{g:Nat}(o:Nat)(v:Value):(w.setCell ⟨g,o,none⟩ v).heap.size=w.heap.size:=by
 unfold World.setCell;simp
def zs8:Array Value:=Array.replicate 256 (.int .u8 0)
theorem D9n(w:World):(zeroValue 164).run Tryz.prog w= .ok (.agg zs8) w:=by kernel_rfl
theorem B1j:(Tryz.prog.info? 164).map (·.size)=some 256:=by kernel_rfl
theorem D1k:A9h (fun _=>0)=zs8:=by
 unfold A9h zs8;apply Array.ext';simp[List.map_const']
structure FW(w wr:World)(f:Nat->Nat):Prop where
 z:wr.heap[w.heap.size]? =some (.cells zs8 164)
 t:wr.heap[w.heap.size+1]? =some (.cells (A9h f) 164)
 sp:Ss 3 C2n wr (some ⟨w.heap.size+2,0,none⟩) 38 B1x
 b:Below w.heap.size w wr
theorem FW.below{w wr w':World}{f:Nat->Nat}(h:FW w wr f)(hb:Below wr.heap.size wr w'):FW w w' f:=
 ⟨by rw[hb.block _ (Array.getElem?_eq_some_iff.1 h.z).1];exact h.z,by rw[hb.block _ (Array.getElem?_eq_some_iff.1 h.t).1];exact h.t,h.sp.below hb,h.b.trans (hb.mono h.b.size)⟩
theorem FW.set{w wr:World}{f:Nat->Nat}(h:FW w wr f)(j x:Nat):FW w (wr.setCell ⟨w.heap.size+1,j,none⟩ (.int .u8 (x:Nat))) (E1b f j x):=by
 refine⟨by rw[B2m (by omega)];exact h.z,by rw[<-D4z];exact B6f h.t j _,⟨h.sp.1,fun hn=> ?_⟩,h.b.setCell (by show w.heap.size<=w.heap.size+1;omega) _⟩
 obtain⟨b,off,ha,hlt,hc⟩:=h.sp.2 hn;refine⟨b,off,ha,by rw[C1j];exact hlt,fun i hi k hk=> ?_⟩;rw[<-hc i hi k hk];simp only[Option.some.injEq,Addr.mk.injEq,and_true]at ha;unfold World.cell?
 rw[B2m (by show b≠_;omega)]
theorem FW.cell{w wr:World}{f:Nat->Nat}(h:FW w wr f)(j:Nat)(hj:j<256):wr.cell? ⟨w.heap.size+1,j,none⟩=some (.int .u8 (f j:Nat))/\wr.frozen? ⟨w.heap.size+1,j,none⟩=false:=by
 refine⟨by rw[cell_of_row wr _ j _ _ _ h.t];exact B1f f j hj,?_⟩;unfold World.frozen?;rw[h.t];simp
structure D9k(w:World)(g:Nat)(x y z:Nat):Prop where
 c0:w.cell? ⟨g,0,none⟩=some (.int .u8 (x:Nat))
 c1:w.cell? ⟨g,1,none⟩=some (.int .u8 (y:Nat))
 c2:w.cell? ⟨g,2,none⟩=some (.int .i64 (z:Nat))
theorem D9k.new(w:World)(x y z:Nat)(t:TypeId):D9k (w.alloc (.cells #[.int .u8 (x:Nat),.int .u8 (y:Nat),.int .i64 (z:Nat)] t)) w.heap.size x y z:=
 ⟨by rw[cell_of_row _ _ 0 _ _ _ (heap_alloc_last w _)];rfl,by rw[cell_of_row _ _ 1 _ _ _ (heap_alloc_last w _)];rfl,by rw[cell_of_row _ _ 2 _ _ _ (heap_alloc_last w _)];rfl⟩
theorem D9k.set{w:World}{g h:Nat}{x y z:Nat}(k:D9k w g x y z)(hne:g≠h)(o:Nat)(v:Value):D9k (w.setCell ⟨h,o,none⟩ v) g x y z:=by
 have key:∀i,(w.setCell ⟨h,o,none⟩ v).cell? ⟨g,i,none⟩=w.cell? ⟨g,i,none⟩:=fun i=>by unfold World.cell?;rw[B2m hne]
 exact⟨by rw[key];exact k.c0,by rw[key];exact k.c1,by rw[key];exact k.c2⟩
def D6s(w:World)(e:Ending)(w':World):Prop:=e= .returned (.agg (A9h A0q))/\Below w.heap.size w w'
theorem B5j(w:World):Calls Tryz.prog 98 #[] w (D6s w):=by
 have hz:=D9n;go_enter Tryz.func98,Tryz.ntmps98
 go_wp2_with fail
 clear hz;refine(D4d _).mono ?_;rintro e w1 ⟨rfl,hsp,hb1,hz1⟩;have hsz:((w.alloc (.cells zs8 164)).alloc (.cells zs8 164)).heap.size=w.heap.size+2:=by simp
 rw[hsz]at hsp
 have HF:=hzz (show FW w w1 (B8k 0)from⟨by
   rw[hb1.block _ (by simp;omega),Below.heap_alloc _ _ _ (by simp)];exact heap_alloc_last w _,by
   rw[hb1.block _ (by simp)];have:=heap_alloc_last (w.alloc (.cells zs8 164)) (.cells zs8 164);rw[show(w.alloc (.cells zs8 164)).heap.size=w.heap.size+1 by simp]at this
   rw[show B8k 0=(fun _=>0)from rfl,D1k];exact this,hsp,((brz.alloc nlz _).alloc (by simp) _).trans (hb1.mono (by simp;omega))⟩)
 clear hsp hb1 hz1 hsz
 go_wp2_with fail
 go_loopg [7] 38 (fun gn i wr=>∃k:Nat,k<=38/\gn=38-k/\i= .int .i64 k/\Hid (FW w wr (B8k k)))
 case atStart=>exact⟨0,by omega,rfl,by go_num,HF⟩
 obtain⟨k,hk,rfl,rfl,HF⟩:=hrel;by_cases hlt:k<38
 ·obtain⟨b,off,ha,_,hc⟩:=HF.out.sp.2 (by decide);simp only[Option.some.injEq,Addr.mk.injEq,and_true]at ha;obtain⟨rfl,rfl⟩:=ha;have hkl:k<B1x.length:=hlt;have q0:=hc k hkl 0 (by decide)
  have q1:=hc k hkl 1 (by decide);have q2:=hc k hkl 2 (by decide);have hok:=C1b B1x[k] (List.getElem_mem hkl);have HN:=hzz (C7a k hkl);clear hc;generalize hs:B1x[k]=s at*
  obtain⟨x,y,z⟩:=s;simp only at hok;have r0:wr.cell? ⟨w.heap.size+1+1,k*3,none⟩=some (.int .u8 (x:Nat)):=by rw[Nat.zero_add,Nat.add_zero]at q0;exact q0
  have r1:wr.cell? ⟨w.heap.size+1+1,k*3+1,none⟩=some (.int .u8 (y:Nat)):=by rw[Nat.zero_add]at q1;exact q1
  have r2:wr.cell? ⟨w.heap.size+1+1,k*3+2,none⟩=some (.int .i64 (z:Nat)):=by rw[Nat.zero_add]at q2;exact q2
  clear q0 q1 q2;clear hs;have k1:(k:Int)<38:=by omega
  go_upto_region 5 with fail
  have HS:=hzz (D9k.new wr x y z 208);have HFa:=hzz (HF.out.below (brz.alloc nlz (.cells #[.int .u8 (x:Nat),.int .u8 (y:Nat),.int .i64 (z:Nat)] 208)))
  have hg:w.heap.size+1<wr.heap.size:=by have:=(Array.getElem?_eq_some_iff.1 HF.out.t).1;omega
  clear r0 r1 r2;generalize hW:wr.alloc (.cells #[.int .u8 (x:Nat),.int .u8 (y:Nat),.int .i64 (z:Nat)] 208)=W at*;clear hW;obtain⟨p0,p1,p2⟩:=HS.out
  go_wp2_with fail
  clear p0 p1 p2;generalize wr.heap.size=g at*
  go_loopg [4] (y+1-x) (fun gn i wx=>∃j:Nat,x<=j/\j<=y+1/\gn=y+1-j/\i= .int .i64 j/\Hid (FW w wx (C2b (B8k k) x j z))/\Hid (D9k wx g x y z))
  case atStart=>exact⟨x,by omega,by omega,rfl,by go_num,hzz (by rw[C5a];exact HFa.out),HS⟩
  obtain⟨j,hj1,hj2,rfl,rfl,HW,HX⟩:=hrel;obtain⟨p0,p1,p2⟩:=HX.out;by_cases hjt:j<y+1
  ·have e1:decide ((j:Int)<=y)=true:=by simp;omega
   obtain⟨c0,f0⟩:=HW.out.cell j (by omega);have j1:(j:Int)<256:=by omega
   have z1:(z:Int)<256:=by omega
   go_wp2_with fail
   go_roundg (y+1-(j+1))
   case measure=>omega
   exact⟨j+1,by omega,by omega,rfl,by go_num,hzz (by rw[<-C7k _ _ _ _ hj1];exact HW.out.set j z),hzz (HX.out.set (by omega) j _)⟩
  have e1:decide ((j:Int)<=y)=false:=by simp;omega
  obtain rfl:j=y+1:=by omega
  go_wp2_with fail
  go_roundg (38-(k+1))
  case measure=>omega
  exact⟨k+1,by omega,rfl,by go_num,hzz (by rw[HN.out,<-D2v];exact HW.out)⟩
 obtain rfl:k=38:=by omega
 have H:=hzz HF.out.t;have H0:=hzz HF.out.z
 go_wp2_with (first
  |(refine wpList_load_row rfl _ _ rfl _ rfl _ _ _ _ H.out Tryz.underlying164 rfl (by rw[A3p];exact B1j) ?_)
  |(refine wpList_store_row rfl _ _ _ rfl _ _ rfl rfl _ _ H0.out (by rw[A3p];exact B1j) (by simp[A3p,zs8]) (B8w _) ?_))
 refine bodyPost_ret (v:= .agg (A9h A0q)) (results_cell_row rfl _ _ w.heap.size _ _ _ _ rfl (setRow_heap _ _ _ _ _ _ H0.out) Tryz.underlying164 rfl (by rw[A3p];exact B1j)) rfl ⟨rfl,below_setRow HF.out.b nlz _⟩
end
section
open Go.RowKit
theorem A7m{P:Program}{md:Region.Mode}{ops:Array Oper}{Q:Exit->Act->World->Prop}{S S':World->Prop}(hS:∀x,S' x->S x):
  ∀(fuel:Nat) (listed:Array Bool) (a:Act) (w:World),wpAnyH P md ops Q S' fuel listed a w->wpAnyH P md ops Q S fuel listed a w
 |0,_,_,_,h=>h
 |fuel+1,_,_,_,h=>⟨h.1,fun i hi=>wpOp_mono (fun a' w' h'=>⟨hS _ h'.1,A7m hS fuel _ a' w' h'.2⟩) (h.2 i hi)⟩
def A4r(P:Program)(S:World->Prop)(v:Value):Result Next->Prop
 | .ok (.value u) w'=>u=v/\S w'
 | .ok (.enter f args) w'=>Calls P f args w' fun e w''=>e= .returned v/\S w''
 |_=>False
def A9s(P:Program)(ops:Array Oper)(S:World->Prop)(o:Oper)(v:Value)(a:Act):Prop:=
 (Region.wanted o (yielded ops a.tmps)=true/\∀w,S w->A4r P S v ((execOp a.eval o).run P w))\/
 (Region.wanted o (yielded ops a.tmps)=false/\v=undef)
section
variable {P:Program} {ops:Array Oper} {Q:Exit->Act->World->Prop} {md:Region.Mode} {S:World->Prop}
theorem A9s.of_same{o:Oper}{v:Value}{a a':Act}(hy:A9s P ops S o v a)(he:execOp a'.eval o=execOp a.eval o)
  (hw:Region.wanted o (yielded ops a'.tmps)=Region.wanted o (yielded ops a.tmps)):A9s P ops S o v a':=by
 unfold A9s at*;rw[he,hw];exact hy
theorem A4r.wp{o:Oper}{v:Value}{a:Act}{w:World}{K:Act->World->Prop}(h:A4r P S v ((execOp a.eval o).run P w))(hK:∀w',S w'->K (a.put o.dst v) w'):o.wp P a w K Q:=by
 unfold Oper.wp;generalize(execOp a.eval o).run P w=r at*
 cases r with
 |ok n w'=>
  cases n<;>simp only[A4r,Oper.upon]at h⊢
  case value u=>obtain⟨rfl,hs⟩:=h;exact hK _ hs
  case enter f args=>
   refine Calls.mono h fun e w'' he=> ?_
   obtain⟨rfl,hs⟩:=he;exact hK _ hs
 |halt x w'=>cases x<;>simp only[A4r]at h
theorem A9s.wpOp{i:Nat}{o:Oper}{v:Value}{a:Act}(hi:ops[i]? =some o)(hy:A9s P ops S o v a)
  {K:Act->World->Prop} {w:World} (hS:S w) (h:∀w',S w'->K (a.put o.dst v) w'):wpOp P ops Q i K a w:=by
 unfold Go.wpOp;simp only[hi]
 rcases hy with⟨hw,hv⟩|⟨hw,rfl⟩
 ·simp only[hw,if_true];exact .inl ((hv w hS).wp h)
 simp only[hw,Bool.false_eq_true,if_false];exact h w hS
def A2h(P:Program)(ops:Array Oper)(S:World->Prop)(i:Nat)(b:Bool)(K:Act->Prop)(a:Act):Prop:=
 match ops[i]? with
 |none=>False
 |some o=>
  if Region.wanted o (yielded ops a.tmps)=true then
   (match b with
    |true=>∃v,(∀w',S w'->(execOp a.eval o).run P w'= .ok (.value v) w')/\K (a.put o.dst v)
    |false=>∃v,(∀w',S w'->A4r P S v ((execOp a.eval o).run P w'))/\K (a.put o.dst v))
  else K (a.put o.dst undef)
def B3r(P:Program)(ops:Array Oper)(Q:Exit->Act->World->Prop)(S:World->Prop):List (Nat×Bool)->Act->Prop
 |[],a=>∀w,S w->Q .normal a w
 |(i,b)::l,a=>A2h P ops S i b (B3r P ops Q S l) a
def B4w(P:Program)(ops:Array Oper)(Q:Exit->Act->World->Prop)(S:World->Prop):List Nat->Act->Prop
 |[],a=>∀w,S w->Q .normal a w
 |i::l,a=>∃o v,ops[i]? =some o/\A9s P ops S o v a/\B4w P ops Q S l (a.put o.dst v)
theorem D6u:∀(l:List (Nat×Bool)) (a:Act),B3r P ops Q S l a->B4w P ops Q S (l.map (·.1)) a:=by
 intro l
 induction l with
 |nil=>exact fun a h=>h
 |cons p l ih=>
  obtain⟨i,b⟩:=p;intro a h;change A2h P ops S i b (B3r P ops Q S l) a at h;unfold A2h at h
  cases ho:ops[i]? with
  |none=>rw[ho]at h;exact h.elim
  |some o=>
  rw[ho]at h;simp only at h;by_cases hw:Region.wanted o (yielded ops a.tmps)=true
  ·rw[if_pos hw]at h
   cases b with
   |true=>
    obtain⟨v,h1,h2⟩:=h;exact⟨o,v,ho,.inl ⟨hw,fun w hs=>by rw[h1 w hs];exact⟨rfl,hs⟩⟩,ih _ h2⟩
   |false=>
   obtain⟨v,h1,h2⟩:=h;exact⟨o,v,ho,.inl ⟨hw,h1⟩,ih _ h2⟩
  rw[if_neg hw]at h;exact⟨o,undef,ho,.inr ⟨by simpa using hw,rfl⟩,ih _ h⟩
def D7b(ops:Array Oper)(listed:Array Bool)(i:Nat):Prop:=
 ∀oi,ops[i]? =some oi->∀j oj,ops[j]? =some oj->j≠i->listed.getD j true=false->(∀e∈oj.after,Region.binds .any e=true->e.on≠i)->oi.apart ops oj=true
def C1w(ops:Array Oper):Array Bool->List Nat->Prop
 |listed,[]=>Region.ready .any ops listed=[]
 |listed,i::l=>i∈Region.ready .any ops listed/\D7b ops listed i/\C1w ops (listed.setIfInBounds i true) l
theorem D7b.mono{listed:Array Bool}{i j:Nat}(h:D7b ops listed i):D7b ops (listed.setIfInBounds j true) i:=by
 intro oi hi k ok hk hki hun hno;refine h oi hi k ok hk hki ?_ hno;by_cases hjk:j=k
 ·subst hjk;by_cases hl:j<listed.size
  ·simp[hl]at hun
  rw[Array.setIfInBounds_eq_of_size_le (by omega)]at hun;exact hun
 rw[getD_set_ne true hjk]at hun;exact hun
theorem D1m(hs:Region.noSelect ops=true):∀(l:List Nat) (listed:Array Bool) (j:Nat),C1w ops listed l->j∈Region.ready .any ops listed->
  j∈l/\C1w ops (listed.setIfInBounds j true) (l.erase j)/\∀a,B4w P ops Q S l a->B4w P ops Q S (j::l.erase j) a:=by
 intro l
 induction l with
 |nil=>intro listed j hc hj;rw[show Region.ready .any ops listed=[]from hc]at hj;cases hj
 |cons i l ih=>
  intro listed j hc hj;obtain⟨hr,hf,hc'⟩:=hc;by_cases hji:j=i
  ·subst hji;simp only[List.erase_cons_head];exact⟨by simp,hc',fun a h=>h⟩
  obtain⟨hjl,hcj,hmv⟩:=ih _ j hc' (ready_mono hj hji);have hij:(i==j)=false:=by simp[Ne.symm hji]
  rw[List.erase_cons_tail (by rw[hij];decide)];refine⟨by simp[hjl],⟨ready_mono hr (Ne.symm hji),hf.mono,?_⟩,fun a h=> ?_⟩
  ·rw[Array.setIfInBounds_comm _ _ hji];exact hcj
  obtain⟨oi,v,hoi,hyi,hrest⟩:=h;obtain⟨oj,u,hoj,hyj,hrest'⟩:=hmv _ hrest;obtain⟨hjun,oj',hoj',hall⟩:=mem_ready.1 hj
  obtain rfl:oj'=oj:=by rw[hoj]at hoj';exact(Option.some.inj hoj').symm
  have hnot:∀e∈oj'.after,Region.binds .any e=true->e.on≠i:=fun e he hb heq=>by
   have h1:=hall e he hb;have h0:=(mem_ready.1 hr).1;rw[heq]at h1
   rcases Nat.lt_or_ge i listed.size with h'|h'
   ·simp[h']at h0 h1;rw[h0]at h1;cases h1
   simp[Array.getElem?_eq_none h']at h1
  have hap:=hf oi hoi j oj' hoj hji hjun hnot;obtain⟨h1,h2,h3⟩:=Oper.apart_spec hap;have hsi:∀cs b,oi.op≠ .select cs b:=fun cs b=>Region.noSelect_spec hs i oi cs b hoi
  have hsj:∀cs b,oj'.op≠ .select cs b:=fun cs b=>Region.noSelect_spec hs j oj' cs b hoj
  have hyj':A9s P ops S oj' u a:=hyj.of_same (execOp_put oj' hsj a oi.dst v h1).symm (wanted_put oj' a oi.dst v h1).symm
  refine⟨oj',u,hoj,hyj',oi,v,hoi,hyi.of_same (execOp_put oi hsi a oj'.dst u h3) (wanted_put oi a oj'.dst u h3),?_⟩;rw[<-Act.put_comm a v u h2];exact hrest'
theorem C7j(hs:Region.noSelect ops=true):∀(n:Nat) (l:List Nat) (listed:Array Bool) (a:Act),l.length=n->C1w ops listed l->B4w P ops Q S l a->
  ∀w,S w->wpAnyH P .any ops Q S n listed a w:=by
 intro n
 induction n with
 |zero=>
  intro l listed a hl hc h w hS;obtain rfl:=List.eq_nil_of_length_eq_zero hl;exact⟨hc,h w hS⟩
 |succ n ih=>
  intro l listed a hl hc h w hS;refine⟨fun h0=> ?_,fun j hj=> ?_⟩
  ·cases l with
   |nil=>simp at hl
   |cons i l=>obtain⟨hr,_⟩:=hc;rw[h0]at hr;cases hr
  obtain⟨hjl,hcj,hmv⟩:=D1m (P:=P) (Q:=Q) (S:=S) hs l listed j hc hj;obtain⟨o,v,ho,hy,hrest⟩:=hmv a h;refine hy.wpOp ho hS fun w' hs'=>⟨hs',?_⟩
  exact ih (l.erase j) _ _ (by rw[List.length_erase_of_mem hjl];omega) hcj hrest w' hs'
inductive B6z where
 |stir:List (Nat×Bool)->B6z
 |step:Nat->Bool->B6z->B6z
 |fork:Nat->B6z->Nat->B6z->B6z
 |fork3:Nat->B6z->Nat->B6z->Nat->B6z->B6z
def A5d(P:Program)(ops:Array Oper)(Q:Exit->Act->World->Prop):B6z->(World->Prop)->Act->World->Prop
 | .stir l,S,a,w=>∃S':World->Prop,(∀x,S' x->S x)/\S' w/\B3r P ops Q S' l a
 | .step i b l,S,a,w=>∃S':World->Prop,(∀x,S' x->S x)/\A5i P ops Q S' i b (A5d P ops Q l S') a w
 | .fork i l j m,S,a,w=>∃S':World->Prop,(∀x,S' x->S x)/\A5i P ops Q S' i false (A5d P ops Q l S') a w/\A5i P ops Q S' j false (A5d P ops Q m S') a w
 | .fork3 i l j m k r,S,a,w=>∃S':World->Prop,(∀x,S' x->S x)/\A5i P ops Q S' i false (A5d P ops Q l S') a w/\A5i P ops Q S' j false (A5d P ops Q m S') a w/\A5i P ops Q S' k false (A5d P ops Q r S') a w
def A8h(ops:Array Oper):Array Bool->List (Nat×Bool)->Bool
 |listed,[]=>(Region.ready .any ops listed).isEmpty
 |listed,(i,_)::l=>Region.free .any ops listed i&&(Region.ready .any ops listed).contains i&&A8h ops (listed.setIfInBounds i true) l
def A7x(ops:Array Oper):Nat->Array Bool->B6z->Bool
 |n,listed,.stir l=>(l.length==n)&&A8h ops listed l
 |n+1,listed,.step i b l=>(if b then Region.free .any ops listed i&&(Region.ready .any ops listed).contains i else Region.ready .any ops listed==[i])&&A7x ops n (listed.setIfInBounds i true) l
 |n+1,listed,.fork i l j m=>(Region.ready .any ops listed==[i,j])&&A7x ops n (listed.setIfInBounds i true) l&&A7x ops n (listed.setIfInBounds j true) m
 |n+1,listed,.fork3 i l j m k r=>(Region.ready .any ops listed==[i,j,k])&&A7x ops n (listed.setIfInBounds i true) l&&A7x ops n (listed.setIfInBounds j true) m&&A7x ops n (listed.setIfInBounds k true) r
 |_,_,_=>false
theorem C4d:∀(l:List (Nat×Bool)) (listed:Array Bool),A8h ops listed l=true->C1w ops listed (l.map (·.1)):=by
 intro l
 induction l with
 |nil=>intro listed h;show Region.ready .any ops listed=[];simpa[A8h]using h
 |cons p l ih=>
  obtain⟨i,b⟩:=p;intro listed h;simp only[A8h,Bool.and_eq_true]at h;obtain⟨⟨hf,hr⟩,hc⟩:=h;exact⟨by simpa using hr,fun oi hoi=>Region.free_spec hoi hf,ih _ hc⟩
theorem C8e(hs:Region.noSelect ops=true)(hQ:∀c a d v w,Q (.panic c) (a.put d v) w->Q (.panic c) a w):
  ∀(l:B6z) (S:World->Prop) (n:Nat) (listed:Array Bool) (a:Act) (w:World),A7x ops n listed l=true->A5d P ops Q l S a w->wpAnyH P .any ops Q S n listed a w:=by
 intro l
 induction l with
 |stir l=>
  intro S n listed a w hc h
  have hc':((l.length==n)&&A8h ops listed l)=true:=by cases n<;>exact hc
  simp only[Bool.and_eq_true,beq_iff_eq]at hc';obtain⟨hl,hk⟩:=hc';obtain⟨S',hSS,hw,h⟩:=h
  exact A7m hSS _ _ _ _ (C7j hs n (l.map (·.1)) listed a (by simpa using hl) (C4d _ _ hk) (D6u _ _ h) w hw)
 |step i b l ih=>
  intro S n listed a w hc h
  cases n with
  |zero=>simp[A7x]at hc
  |succ n=>
  simp only[A7x,Bool.and_eq_true]at hc;obtain⟨hc1,hc2⟩:=hc;obtain⟨S',hSS,h⟩:=h;refine A7m hSS _ _ _ _ ?_;unfold A5i at h
  cases ho:ops[i]? with
  |none=>rw[ho]at h;exact h.elim
  |some o=>
  rw[ho]at h;simp only at h
  cases b with
  |true=>
   simp only[if_true,Bool.and_eq_true]at hc1;obtain⟨hf,hr⟩:=hc1;by_cases hw:Region.wanted o (yielded ops a.tmps)=true
   ·rw[if_pos hw]at h;obtain⟨v,h1,h2,h3⟩:=h;exact wpAnyH_take ho hs hf hr (fun c a w=>hQ c a _ _ w) (.inl ⟨hw,h1⟩) h2 (ih _ _ _ _ _ hc2 h3)
   rw[if_neg hw]at h;exact wpAnyH_take ho hs hf hr (fun c a w=>hQ c a _ _ w) (.inr ⟨by simpa using hw,rfl⟩) h.1 (ih _ _ _ _ _ hc2 h.2)
  |false=>
  simp only[Bool.false_eq_true,if_false]at hc1;have hr:Region.ready .any ops listed=[i]:=by simpa using hc1
  refine wpAnyH_all hr (by simp) (fun j hj=> ?_);obtain rfl:j=i:=by simpa using hj
  unfold wpOp;rw[ho];simp only;by_cases hw:Region.wanted o (yielded ops a.tmps)=true
  ·rw[if_pos hw]at h;simp only[hw,if_true];exact .inl (Oper.wp_mono (fun a' w' h'=>⟨h'.1,ih _ _ _ _ _ hc2 h'.2⟩) h)
  rw[if_neg hw]at h;simp only[hw];exact⟨h.1,ih _ _ _ _ _ hc2 h.2⟩
 |fork i l j m ih1 ih2=>
  intro S n listed a w hc h
  cases n with
  |zero=>simp[A7x]at hc
  |succ n=>
  simp only[A7x,Bool.and_eq_true]at hc;obtain⟨⟨hc1,hc2⟩,hc3⟩:=hc;have hr:Region.ready .any ops listed=[i,j]:=by simpa using hc1
  obtain⟨S',hSS,h1,h2⟩:=h;refine A7m hSS _ _ _ _ ?_;refine wpAnyH_all hr (by simp) (fun k hk=> ?_);have hk':k=i\/k=j:=by simpa using hk
  rcases hk' with rfl|rfl
  ·unfold A5i at h1
   cases ho:ops[k]? with
   |none=>rw[ho]at h1;exact h1.elim
   |some o=>
   rw[ho]at h1;simp only at h1;unfold wpOp;rw[ho];simp only;by_cases hw:Region.wanted o (yielded ops a.tmps)=true
   ·rw[if_pos hw]at h1;simp only[hw,if_true];exact .inl (Oper.wp_mono (fun a' w' h'=>⟨h'.1,ih1 _ _ _ _ _ hc2 h'.2⟩) h1)
   rw[if_neg hw]at h1;simp only[hw];exact⟨h1.1,ih1 _ _ _ _ _ hc2 h1.2⟩
  unfold A5i at h2
  cases ho:ops[k]? with
  |none=>rw[ho]at h2;exact h2.elim
  |some o=>
  rw[ho]at h2;simp only at h2;unfold wpOp;rw[ho];simp only;by_cases hw:Region.wanted o (yielded ops a.tmps)=true
  ·rw[if_pos hw]at h2;simp only[hw,if_true];exact .inl (Oper.wp_mono (fun a' w' h'=>⟨h'.1,ih2 _ _ _ _ _ hc3 h'.2⟩) h2)
  rw[if_neg hw]at h2;simp only[hw];exact⟨h2.1,ih2 _ _ _ _ _ hc3 h2.2⟩
 |fork3 i l j m k r ih1 ih2 ih3=>
  intro S n listed a w hc h
  cases n with
  |zero=>simp[A7x]at hc
  |succ n=>
  simp only[A7x,Bool.and_eq_true]at hc;obtain⟨⟨⟨hc1,hc2⟩,hc3⟩,hc4⟩:=hc;have hr:Region.ready .any ops listed=[i,j,k]:=by simpa using hc1
  obtain⟨S',hSS,h1,h2,h3⟩:=h;refine A7m hSS _ _ _ _ ?_
  have one:∀(x:Nat) (y:B6z),(∀(a:Act) (w:World),A5d P ops Q y S' a w->wpAnyH P .any ops Q S' n (listed.setIfInBounds x true) a w)->A5i P ops Q S' x false (A5d P ops Q y S') a w->
    wpOp P ops Q x (fun a' w'=>S' w'/\wpAnyH P .any ops Q S' n (listed.setIfInBounds x true) a' w') a w:=by
   intro x y ih h1;unfold A5i at h1
   cases ho:ops[x]? with
   |none=>rw[ho]at h1;exact h1.elim
   |some o=>
    rw[ho]at h1;simp only at h1;unfold wpOp;rw[ho];simp only;by_cases hw:Region.wanted o (yielded ops a.tmps)=true
    ·rw[if_pos hw]at h1;simp only[hw,if_true];exact .inl (Oper.wp_mono (fun a' w' h'=>⟨h'.1,ih _ _ h'.2⟩) h1)
    rw[if_neg hw]at h1;simp only[hw];exact⟨h1.1,ih _ _ h1.2⟩
  refine wpAnyH_all hr (by simp) (fun x hx=> ?_);have hx':x=i\/x=j\/x=k:=by simpa using hx
  rcases hx' with rfl|rfl|rfl
  ·exact one _ l (fun a w h=>ih1 _ _ _ _ _ hc2 h) h1
  ·exact one _ m (fun a w h=>ih2 _ _ _ _ _ hc3 h) h2
  exact one _ r (fun a w h=>ih3 _ _ _ _ _ hc4 h) h3
def B6z.of:List (Nat×Bool)->B6z->B6z
 |[],t=>t
 |(i,b)::l,t=> .step i b (B6z.of l t)
theorem A0g{id:Nat}{a:Act}{w:World}(S:World->Prop)(l:B6z)(hm:P.follows .mixedOrders=true)
  (hc:(Region.noSelect ops&&A7x ops ops.size (Array.replicate ops.size false) l)=true) (hQ:∀c a d v w,Q (.panic c) (a.put d v) w->Q (.panic c) a w)
  (h:A5d P ops Q l S a w.drew):(Code.region id ops true).wp P Q a w:=by
 simp only[Bool.and_eq_true]at hc;obtain⟨hs,hk⟩:=hc;exact wp_region_held hm (C8e (P:=P) (Q:=Q) hs hQ l S _ _ a _ hk h)
theorem A0b{i:Nat}{b:Bool}{l:B6z}{a:Act}{w:World}
  (h:∀K:Act->World->Prop,(∀a w,A5d P ops Q l S a w->K a w)->A5i P ops Q S i b K a w):A5d P ops Q (.step i b l) S a w:=⟨S,fun _ h=>h,h _ (fun _ _ h=>h)⟩
theorem A3g{i j:Nat}{l m:B6z}{a:Act}{w:World}
  (h1:∀K:Act->World->Prop,(∀a w,A5d P ops Q l S a w->K a w)->A5i P ops Q S i false K a w) (h2:∀K:Act->World->Prop,(∀a w,A5d P ops Q m S a w->K a w)->A5i P ops Q S j false K a w):A5d P ops Q (.fork i l j m) S a w:=
 ⟨S,fun _ h=>h,h1 _ (fun _ _ h=>h),h2 _ (fun _ _ h=>h)⟩
theorem A0k{l:List (Nat×Bool)}{a:Act}{w:World}(S':World->Prop)(hSS:∀x,S' x->S x)(hS:S' w)(h:B3r P ops Q S' l a):A5d P ops Q (.stir l) S a w:=⟨S',hSS,hS,h⟩
theorem A0h{i:Nat}{b:Bool}{l:List (Nat×Bool)}{a:Act}
  (h:∀K:Act->Prop,(∀a,B3r P ops Q S l a->K a)->A2h P ops S i b K a):B3r P ops Q S ((i,b)::l) a:=h _ (fun _ h=>h)
theorem A0n{a:Act}(h:∀w,S w->Q .normal a w):B3r P ops Q S [] a:=h
theorem A4r.call{v:Value}{f:FuncId}{args:Array Value}{w':World}(h:Calls P f args w' fun e w''=>e= .returned v/\S w''):A4r P S v (.ok (.enter f args) w'):=h
end
end
section
open Go.ChangeShapes Go.WideShapes Go.ChangeAt Go.RowKit
theorem B2e{t e:TypeId}{len:Nat}(ht:Tryz.prog.underlying t=some (.array len e))(hs:∀w,(sizeOf e).run Tryz.prog w= .ok 1 w)(hp:∀w (cs:Array Value) (i:Nat) (v:Value),cs[i]? =some v->(part e cs i).run Tryz.prog w= .ok v w){cs:Array Value}{k:Nat}(hk:k<len){v:Value}(hx:cs[k]? =some v)(kd:IntKind)(w:World):
  (Instr.index t (.agg cs) (.int kd k)).run Tryz.prog w= .ok v w:=by
 have h2:(0:Int)<=(k:Int)/\(k:Int)<(len:Int):=⟨by omega,by omega⟩;simp[Instr.index,asIntOf,run_underlying ht,hk,hs,hp _ _ _ _ hx]
theorem D1z(w:World):(sizeOf 5).run Tryz.prog w= .ok 1 w:=by kernel_rfl
theorem B7t{e:TypeId}{d:TypeDesc}(h1:Tryz.prog.underlying e=some d)(h2:(match d with| .struct _| .array _ _=>false|_=>true)=true)(w:World)(cs:Array Value)(i:Nat)(v:Value)(h3:cs[i]? =some v):(part e cs i).run Tryz.prog w= .ok v w:=by
 cases d<;>simp[part,isAgg,run_underlying h1,h3]at h2⊢
theorem D8y(w:World)(f:Nat->Nat)(k:Nat)(h:k<256)(kd:IntKind):(Instr.index 164 (.agg (A9h f)) (.int kd k)).run Tryz.prog w= .ok (.int .u8 (f k:Nat)) w:=
 B2e Tryz.underlying164 D1z (B7t Tryz.underlying5 rfl) h (B1f f k h) kd w
def B0s(v:Value)(w:World)(e:Ending)(w':World):Prop:=e= .returned v/\Below w.heap.size w w'
theorem B1u(w:World)(k:Nat)(hk:k<256):Calls Tryz.prog 102 #[.int .u8 (k:Nat)] w (B0s (.int .i64 (A0q k:Nat)) w):=by
 have h9:=A3s k;go_enter Tryz.func102,Tryz.ntmps102
 go_wp2_with fail
 refine(B5j _).mono ?_;rintro e w1 ⟨rfl,hb1⟩;have HB:=hzz hb1;have hi:=D8y w1 A0q k hk .u8;clear hb1;generalize A0q k=f at*
 go_wp2_with fail
 go_ret;exact⟨rfl,HB.out⟩
theorem B1q(f:Nat):A1r f<=3:=by
 unfold A1r
 match f with
 |0|1|2|3|4|5|6|7|8|9=>decide
 |n+10=>simp
theorem A5h(w:World)(f:Nat)(hf:f<=9):Calls Tryz.prog 99 #[.int .i64 (f:Nat)] w fun e w'=>e= .returned (.int .i64 (A1r f:Nat))/\w=w':=by
 have hi:=fun(w:World)=>B2e (cs:= #[.int .u8 0,.int .u8 1,.int .u8 2,.int .u8 2,.int .u8 3,.int .u8 2,.int .u8 3,.int .u8 3,.int .u8 3,.int .u8 2]) (v:= .int .u8 (A1r f:Nat)) (k:=f) Tryz.underlying209 D1z (B7t Tryz.underlying5 rfl) (by omega) (by
  match f,hf with
  |0,_|1,_|2,_|3,_|4,_|5,_|6,_|7,_|8,_|9,_=>rfl
  |n+10,h=>omega) .i64 w
 have h3:=B1q f;generalize A1r f=s at*;go_enter Tryz.func99,Tryz.ntmps99
 go_wp2_with fail
 go_ret;exact⟨rfl,rfl⟩
theorem D7g(w:World)(k:Nat)(hk:k<256):Calls Tryz.prog 122 #[.int .u8 (k:Nat)] w (B0s (.int .i64 (A1r (A0q k):Nat)) w):=by
 have h9:=A3s k;go_enter Tryz.func122,Tryz.ntmps122
 go_wp2_with fail
 refine(B1u _ k hk).mono ?_;rintro e w1 ⟨rfl,hb1⟩;have HB:=hzz hb1;clear hb1
 go_wp2_with fail
 refine(A5h _ _ h9).mono ?_;rintro e w' ⟨rfl,rfl⟩
 go_wp2_with fail
 go_ret;exact⟨rfl,HB.out⟩
theorem C8m{k:Nat}{m:Int}{c:Int}(h:((k:Int)==m)=true)(hm:(A0q m.toNat:Int)=c):c=(A0q k:Int):=by
 have:(k:Int)=m:=by simpa using h
 subst this;simpa using hm.symm
def D9r(k:Int):Bool:=[21,22,25,54,55,58,16,17,18,20,178,179,180,181,182,184,187,189,192,193,153,154,155,156,157,158,159,160,161,162,163,164,165,166,167,198,199,132,188,0,1,9,10,46,50,51,79,83,84,87,89,95,96,97,100,101,104,105,108,109,112,113,116,117,120,121,122,123,124,125,126,127,128,129,130,131,133,136,145,148,172,173,176,177,190,191].all fun m:Int=>(k==m)==false
theorem C4z:∀k:Fin 256,8<k.val->D9r (k.val:Int)=true->A0q k.val=0:=by decide
theorem C9m{k:Nat}(hk:k<256)(h8:8<k)(h:D9r k=true):(0:Int)=(A0q k:Int):=by
 have:=C4z ⟨k,hk⟩ h8 h;simp only at this;rw[this];rfl
theorem C7b:∀k:Fin 9,A0q k.val=1:=by decide
theorem D3k{k:Nat}(h8:k<=8):(1:Int)=(A0q k:Int):=by
 have:=C7b ⟨k,by omega⟩;simp only at this;rw[this];rfl
theorem A8x(w:World)(k:Nat)(hk:k<256):Calls Tryz.prog 113 #[.int .u8 (k:Nat)] w fun e w'=>e= .returned (.int .i64 (A0q k:Nat))/\w=w':=by
 obtain⟨f,hf⟩:=exz (A0q k);rw[<-hf];have HF:=hzz hf;clear hf;go_enter Tryz.func113,Tryz.ntmps113
 go_wp2_with fail
 all_goals first|(go_ret;exact⟨A2v (by rw[HF.out];exact C8m (by assumption) (by decide)),rfl⟩)|skip
 ·go_ret;exact⟨A2v (by rw[HF.out];exact D3k (by omega)),rfl⟩
 ·go_ret;exact⟨A2v (by rw[HF.out];exact C9m hk (by omega) (by simp only[D9r,List.all_cons,List.all_nil, *];rfl)),rfl⟩
 exfalso;have h0:((k:Int)==0)=false:=by assumption
 have h1:((k:Int)==1)=false:=by assumption
 simp at h0 h1;omega
end
section
open Go.RowKit
section
variable {P:Program} {ops:Array Oper} {Q:Exit->Act->World->Prop} {md:Region.Mode} {S:World->Prop}
def C0q(P:Program)(md:Region.Mode)(ops:Array Oper)(Q:Exit->Act->World->Prop)(S:World->Prop)(n:Nat):Nat->Array Bool->Act->World->Prop
 |0,listed,a,w=>Region.ready md ops listed=[]/\Q .normal a w
 |fuel+1,listed,a,w=>(Region.ready md ops listed=[]->Q .normal a w)/\
  ∀i∈Region.ready md ops listed,wpOp P ops Q i (fun a' w'=>(i≠n->S w')/\C0q P md ops Q S n fuel (listed.setIfInBounds i true) a' w') a w
theorem B7p{n:Nat}:∀(fuel:Nat) (listed:Array Bool) (a:Act) (w:World),C0q P md ops Q S n fuel listed a w->wpAny P md ops Q fuel listed a w
 |0,_,_,_,h=>h
 |fuel+1,_,_,_,h=>⟨h.1,fun i hi=>wpOp_mono (fun a' w' h'=>B7p fuel _ a' w' h'.2) (h.2 i hi)⟩
theorem B3n{n i:Nat}{oi:Oper}{v:Value}(hsk:Region.sinkB md ops n=true)(hch:Region.chainB md ops n=true)(hn:ops.size=n+1)(hin:i<n)
  (hi:ops[i]? =some oi) (hsel:∀(j:Nat) (o:Oper) cs b,ops[j]? =some o->o.op≠ .select cs b)
  (hQ:∀c a w,Q (.panic c) (a.put oi.dst v) w->Q (.panic c) a w):
  ∀(fuel:Nat) (listed:Array Bool) (a:Act) (w:World),HeadInv md ops n listed->
   (∀j oj,ops[j]? =some oj->j≠i->listed.getD j true=false->(∀e∈oj.after,Region.binds md e=true->e.on≠i)->oi.apart ops oj=true)->
   i∈Region.ready md ops listed->YieldsIf P ops S oi v a->S w->
   C0q P md ops Q S n fuel (listed.setIfInBounds i true) (a.put oi.dst v) w->C0q P md ops Q S n (fuel+1) listed a w:=by
 intro fuel
 induction fuel with
 |zero=>
  intro listed a w _ _ hr hy hS H
  refine⟨fun h=>(by rw[h]at hr;cases hr),fun j hj=> ?_⟩
  by_cases hji:j=i
  ·subst hji;exact hy.wpOp hi hS ⟨fun _=>hS,H⟩
  have:=ready_mono hj hji;rw[H.1]at this
  cases this
 |succ fuel ih=>
  intro listed a w inv hfree hr hy hS H
  refine⟨fun h=>(by rw[h]at hr;cases hr),fun j hj=> ?_⟩
  by_cases hji:j=i
  ·subst hji;exact hy.wpOp hi hS ⟨fun _=>hS,H⟩
  have h1:=H.2 j (ready_mono hj hji);obtain⟨hjun,oj,hoj,hall⟩:=mem_ready.1 hj
  have hnot:∀e∈oj.after,Region.binds md e=true->e.on≠i:=fun e he hb heq=>by
   have h1:=hall e he hb;have h0:=(mem_ready.1 hr).1;rw[heq,getD_both h0]at h1
   cases h1
  have hjs:j<ops.size:=(Array.getElem?_eq_some_iff.1 hoj).1;have hjn:j≠n:=fun e=>tail_waits hsk hch (by omega) inv (n-i) i rfl hin (mem_ready.1 hr).1 j (by omega) hj
  have h2:=wpOp_putIf hoj (hfree j oj hoj hji hjun hnot) (fun cs b=>hsel i oi cs b hi) (fun cs b=>hsel j oj cs b hoj) hQ hy h1
  have hfree':∀k ok,ops[k]? =some ok->k≠i->(listed.setIfInBounds j true).getD k true=false->
    (∀e∈ok.after,Region.binds md e=true->e.on≠i)->oi.apart ops ok=true:=fun k ok hk hki hun hno=>by
   refine hfree k ok hk hki ?_ hno;by_cases hjk:j=k
   ·subst hjk;exact hjun
   ·rw[getD_set_ne true hjk]at hun;exact hun
  refine wpOp_mono (fun a' w' h3=>⟨fun _=>h3.2.1 hjn,ih (listed.setIfInBounds j true) a' w' (inv.set hj (by omega)) hfree' (ready_mono hr (Ne.symm hji)) h3.1 (h3.2.1 hjn) ?_⟩) h2
  rw[Array.setIfInBounds_comm _ _ hji];exact h3.2.2
def B7s(P:Program)(ops:Array Oper)(Q:Exit->Act->World->Prop)(n:Nat)(a:Act)(w:World):Prop:=
 match ops[n]? with
 |none=>False
 |some o=>if Region.wanted o (yielded ops a.tmps)=true then o.wp P a w (fun a' w'=>Q .normal a' w') Q else Q .normal (a.put o.dst undef) w
def B6c(P:Program)(ops:Array Oper)(Q:Exit->Act->World->Prop)(S:World->Prop)(n:Nat):List (Nat×Bool)->Act->World->Prop
 |[],a,w=>B7s P ops Q n a w
 |(i,b)::l,a,w=>A5i P ops Q S i b (B6c P ops Q S n l) a w
def A9i(ops:Array Oper)(n:Nat):Array Bool->List (Nat×Bool)->Bool
 |listed,[]=>Region.ready .any ops listed==[n]&&(Region.ready .any ops (listed.setIfInBounds n true)).isEmpty
 |listed,(i,b)::l=>decide (i<n)&&(if b then Region.free .any ops listed i&&(Region.ready .any ops listed).contains i else Region.ready .any ops listed==[i])&&A9i ops n (listed.setIfInBounds i true) l
theorem C7x{n:Nat}(hs:Region.noSelect ops=true)(hQ:∀c a d v w,Q (.panic c) (a.put d v) w->Q (.panic c) a w)(hsk:Region.sinkB .any ops n=true)(hch:Region.chainB .any ops n=true)(hn:ops.size=n+1):
  ∀(l:List (Nat×Bool)) (listed:Array Bool) (a:Act) (w:World),HeadInv .any ops n listed->A9i ops n listed l=true->B6c P ops Q S n l a w->C0q P .any ops Q S n (l.length+1) listed a w:=by
 intro l
 induction l with
 |nil=>
  intro listed a w inv hc h;simp only[A9i,Bool.and_eq_true,beq_iff_eq]at hc
  refine⟨fun h0=>(by rw[hc.1]at h0;cases h0),fun j hj=> ?_⟩
  rw[hc.1]at hj;obtain rfl:j=n:=by simpa using hj
  change B7s P ops Q j a w at h;unfold B7s at h;unfold wpOp
  cases ho:ops[j]? with
  |none=>rw[ho]at h;exact h.elim
  |some o=>
  rw[ho]at h;simp only at h⊢;by_cases hw:Region.wanted o (yielded ops a.tmps)=true
  ·rw[if_pos hw]at h;simp only[hw,if_true];exact .inl (Oper.wp_mono (fun a' w' h'=>⟨fun hne=>absurd rfl hne,by simpa using hc.2,h'⟩) h)
  rw[if_neg hw]at h;simp only[hw];exact⟨fun hne=>absurd rfl hne,by simpa using hc.2,h⟩
 |cons p l ih=>
  obtain⟨i,b⟩:=p;intro listed a w inv hc h;simp only[A9i,Bool.and_eq_true,decide_eq_true_eq]at hc;obtain⟨⟨hin,hc1⟩,hc2⟩:=hc;change A5i P ops Q S i b (B6c P ops Q S n l) a w at h
  unfold A5i at h
  cases ho:ops[i]? with
  |none=>rw[ho]at h;exact h.elim
  |some o=>
  rw[ho]at h;simp only at h
  cases b with
  |true=>
   simp only[if_true,Bool.and_eq_true]at hc1;obtain⟨hf,hr⟩:=hc1;have hr':i∈Region.ready .any ops listed:=by simpa using hr
   by_cases hw:Region.wanted o (yielded ops a.tmps)=true
   ·rw[if_pos hw]at h;obtain⟨v,h1,h2,h3⟩:=h
    exact B3n hsk hch hn hin ho (Region.noSelect_spec hs) (fun c a w=>hQ c a _ _ w) _ listed a w inv (Region.free_spec ho hf) hr' (.inl ⟨hw,h1⟩) h2 (ih _ _ _ (inv.set hr' hin) hc2 h3)
   rw[if_neg hw]at h
   exact B3n hsk hch hn hin ho (Region.noSelect_spec hs) (fun c a w=>hQ c a _ _ w) _ listed a w inv (Region.free_spec ho hf) hr' (.inr ⟨by simpa using hw,rfl⟩) h.1 (ih _ _ _ (inv.set hr' hin) hc2 h.2)
  |false=>
  simp only[Bool.false_eq_true,if_false,beq_iff_eq]at hc1
  refine⟨fun h0=>(by rw[hc1]at h0;cases h0),fun j hj=> ?_⟩
  have hj0:=hj;rw[hc1]at hj;obtain rfl:j=i:=by simpa using hj
  unfold wpOp;rw[ho];simp only;by_cases hw:Region.wanted o (yielded ops a.tmps)=true
  ·rw[if_pos hw]at h;simp only[hw,if_true];exact .inl (Oper.wp_mono (fun a' w' h'=>⟨fun _=>h'.1,ih _ _ _ (inv.set hj0 hin) hc2 h'.2⟩) h)
  rw[if_neg hw]at h;simp only[hw];exact⟨fun _=>h.1,ih _ _ _ (inv.set hj0 hin) hc2 h.2⟩
theorem A2x{id:Nat}{a:Act}{w:World}(S:World->Prop)(n:Nat)(l:List (Nat×Bool))(hm:P.follows .mixedOrders=true)
  (hc:(Region.noSelect ops&&(ops.size==n+1)&&(l.length==n)&&Region.sinkB .any ops n&&Region.chainB .any ops n&&A9i ops n (Array.replicate ops.size false) l)=true) (hQ:∀c a d v w,Q (.panic c) (a.put d v) w->Q (.panic c) a w)
  (h:B6c P ops Q S n l a w.drew):(Code.region id ops true).wp P Q a w:=by
 simp only[Bool.and_eq_true,beq_iff_eq]at hc;obtain⟨⟨⟨⟨⟨hs,hl⟩,hl2⟩,hsk⟩,hch⟩,hk⟩:=hc
 have inv0:HeadInv .any ops n (Array.replicate ops.size false):=
  ⟨by simp,fun j oj _ hl=>(by rw[getD_replicate_false]at hl;cases hl),fun t _ ht=>getD_in (by simpa using ht) (getD_replicate_false _ _)⟩
 have:=C7x (P:=P) (Q:=Q) (S:=S) hs hQ hsk hch hl l _ a _ inv0 hk h;rw[hl2,<-hl]at this;exact wp_region_any hm (B7p _ _ _ _ this)
theorem A0u{n i:Nat}{b:Bool}{l:List (Nat×Bool)}{a:Act}{w:World}
  (h:∀K:Act->World->Prop,(∀a w,B6c P ops Q S n l a w->K a w)->A5i P ops Q S i b K a w):B6c P ops Q S n ((i,b)::l) a w:=h _ (fun _ _ h=>h)
theorem A5v{n:Nat}{a:Act}{w:World}(h:B7s P ops Q n a w):B6c P ops Q S n [] a w:=h
end
end
section
theorem tkF{P:Program}{ops:Array Oper}{Q:Exit->Act->World->Prop}{S:World->Prop}{i:Nat}{o:Oper}{K:Act->World->Prop}{a:Act}{w:World}{v:Value}(h:K (a.put o.dst v) w)(ho:ops[i]? =some o:=by rfl)(hw:Region.wanted o (yielded ops a.tmps)=true:=by rfl)
  (hv:∀w',S w'->(execOp a.eval o).run P w'= .ok (.value v) w':=by(intro w' hS';first|(go_simp<;>with_reducible rfl)|(go_simp;go_bits;with_reducible rfl))) (hS:S w:=by assumption):A5i P ops Q S i true K a w:=D6e ho hw v hv hS h
theorem alF{P:Program}{ops:Array Oper}{Q:Exit->Act->World->Prop}{S:World->Prop}{i:Nat}{o:Oper}{K:Act->World->Prop}{a:Act}{w:World}(h:o.wp P a w (fun a' w'=>S w'/\K a' w') Q)(ho:ops[i]? =some o:=by rfl)(hw:Region.wanted o (yielded ops a.tmps)=true:=by rfl):A5i P ops Q S i false K a w:=D3p ho hw h
theorem skF{P:Program}{ops:Array Oper}{Q:Exit->Act->World->Prop}{S:World->Prop}{i:Nat}{b:Bool}{o:Oper}{K:Act->World->Prop}{a:Act}{w:World}(h:K (a.put o.dst undef) w)(ho:ops[i]? =some o:=by rfl)(hw:Region.wanted o (yielded ops a.tmps)=false:=by rfl)(hS:S w:=by assumption):A5i P ops Q S i b K a w:=D4w ho hw hS h
theorem tkX{P:Program}{ops:Array Oper}{S:World->Prop}{i:Nat}{o:Oper}{K:Act->Prop}{a:Act}{v:Value}(h:K (a.put o.dst v))(ho:ops[i]? =some o:=by rfl)(hw:Region.wanted o (yielded ops a.tmps)=true:=by rfl)
  (hv:∀w',S w'->(execOp a.eval o).run P w'= .ok (.value v) w':=by(intro w' hS';first|(go_simp<;>with_reducible rfl)|(go_simp;go_bits;with_reducible rfl))):A2h P ops S i true K a:=by
 unfold A2h;rw[ho];simp only[];rw[if_pos hw];exact⟨v,hv,h⟩
theorem skX{P:Program}{ops:Array Oper}{S:World->Prop}{i:Nat}{b:Bool}{o:Oper}{K:Act->Prop}{a:Act}(h:K (a.put o.dst undef))(ho:ops[i]? =some o:=by rfl)(hw:Region.wanted o (yielded ops a.tmps)=false:=by rfl):A2h P ops S i b K a:=by
 unfold A2h;rw[ho];simp only[];rw[if_neg (by rw[hw];decide)];exact h
theorem laF{P:Program}{ops:Array Oper}{Q:Exit->Act->World->Prop}{n:Nat}{o:Oper}{a:Act}{w:World}(h:o.wp P a w (fun a' w'=>Q .normal a' w') Q)(ho:ops[n]? =some o:=by rfl)(hw:Region.wanted o (yielded ops a.tmps)=true:=by rfl):B7s P ops Q n a w:=by
 unfold B7s;rw[ho];simp only[];rw[if_pos hw];exact h
end
section
open Go.ChangeShapes Go.WideShapes Go.ChangeAt Go.RowKit
def A3a(e:TypeId)(w w':World):Prop:=w.heap.size<=w'.heap.size/\∀(g:Nat) (cs:Array Value) (t:TypeId) (fr:Nat×Nat),w.heap[g]? =some (.cells cs t fr)->t≠e->w'.heap[g]? =some (.cells cs t fr)
theorem A1a{w w':World}{B:Nat}{e e':TypeId}{size:Nat}{v:Value}{n:Nat}{xs:List Value}(h:w.ownsRow B e size v n xs)(hk:A3a e' w w')(hne:e≠e'):w'.ownsRow B e size v n xs:=by
 refine⟨h.1,?_⟩
 rcases h.2 with⟨h1,h2⟩|⟨g,cap,cur,hv,hb,hg,r⟩
 ·exact .inl ⟨h1,h2⟩
 exact .inr ⟨g,cap,cur,hv,hb,hk.2 _ _ _ _ hg hne,r⟩
theorem C9f{w w':World}{B:Nat}{e t:TypeId}{size:Nat}{v:Value}{n g:Nat}{xs:List Value}{o:Obj}{cs:Array Value}{fr:Nat×Nat}(ho:w.ownsRow B e size v n xs)(hg:(w.alloc o).grownBy w' v.ownBlock)(hx:w.heap[g]? =some (.cells cs t fr))(hne:e≠t):w'.heap[g]? =some (.cells cs t fr):=by
 have hlt:=(Array.getElem?_eq_some_iff.1 hx).1;rw[hg.block g (by simp;omega) ?_,Below.heap_alloc _ _ _ hlt]
 ·exact hx
 intro he
 rcases ho.2 with⟨rfl,_⟩|⟨g2,cap,cur,rfl,_,hg2,_⟩
 ·simp[Value.ownBlock]at he
 simp[Value.ownBlock]at he;subst he;rw[hg2]at hx;simp at hx;exact hne hx.2.1
theorem A3a.app{w w':World}{B:Nat}{e:TypeId}{size:Nat}{v:Value}{n:Nat}{xs:List Value}{o:Obj}(ho:w.ownsRow B e size v n xs)(hg:(w.alloc o).grownBy w' v.ownBlock):A3a e w w':=by
 refine⟨?_,fun g cs t fr hx hne=>C9f ho hg hx (Ne.symm hne)⟩;have h:=hg.size;simp at h;omega
theorem A3a.refl{e:TypeId}(w:World):A3a e w w:=⟨Nat.le_refl _,fun _ _ _ _ h _=>h⟩
attribute [local go_sem↓] Go.wp_at_zero Go.wp_at_succ
theorem B8g(w:World)(a:Option Addr)(n cap:Nat)(bs:List UInt8)(hs:Sl A5q w a n bs)(hn:n<=65536)(hcap:n<=cap):
  Calls Tryz.prog 151 #[.slice a n cap] w (D7u w (A3m bs)):=by
 have HS:=hzz hs;have hnl:=hs.1;clear hs;go_enter Tryz.func151,Tryz.ntmps151
 go_wp2
 go_loopw [4,5] (fun t i wr=>∃j f k:Nat,i= .int .i64 j/\j<=n/\n-j<=f/\k<=j/\∃us,Hid (wr.ownsRow w.heap.size 231 1 t k (us.map D7j))/\Hid (Below w.heap.size w wr)/\Hid (A3m bs=(A6f f (bs.drop j)).map (us++·))) (fun _ i _=>n-(intOf i).toNat)
 case atStart=>exact⟨0,n,0,rfl,by omega,by omega,by omega,[],World.ownsRow_nil _ _ _ _,brz,by show _=_;unfold A3m;rw[hnl];simp⟩
 obtain⟨j,f,k,rfl,hj,hf,hkj,us,HO,HW,HD⟩:=hrel;by_cases hlt:j<n
 ·obtain⟨b,off,rfl,hbl,hc⟩:=(HS.out.below HW.out).2 (by omega);have hjl:j<bs.length:=by omega
  obtain⟨f,rfl⟩:∃f',f=f'+1:=⟨f-1,by omega⟩;have hne:bs.drop j≠[]:=by rw[Ne,List.drop_eq_nil_iff];omega
  have HST:=hzz (B4a (f:=f) (bs:=bs.drop j) (by rw[List.length_drop];omega) hne);have hrt:=D6j (bs.drop j) hne;clear hne
  have hck:wr.cell? ⟨b,off+j,none⟩=some (.int .u8 (bs[j].toNat:Int)):=hc j hjl
  have hRN:B7b (bs.drop j)=B5g bs[j].toNat (n-j) (bs[j+1]?.getD 0).toNat (bs[j+2]?.getD 0).toNat:=by
   unfold B7b;simp[hnl,List.getElem?_eq_getElem hjl]
  obtain⟨c,hcq⟩:=exz (bs[j].toNat);have hc2:c<256:=by have:=bs[j].toNat_lt;omega
  rw[<-hcq]at hck hRN;obtain⟨v,hv⟩:∃v,v=(B7b (bs.drop j)).1:=⟨_,rfl⟩;obtain⟨q,hq⟩:∃q,q=(B7b (bs.drop j)).2:=⟨_,rfl⟩;rw[<-hv,<-hq]at hrt;have HRT:=hzz hrt;clear hrt
  have HV:=hzz hv;have HQ:=hzz hq;have HRN:=hzz hRN;have hj1:(0:Int)<=(j:Int):=by omega
  have hways:(192<=c/\c<224/\j+1<n)\/(224<=c/\c<240/\j+2<n)\/c<192\/(192<=c/\c<224/\n<=j+1)\/(224<=c/\c<240/\n<=j+2)\/240<=c:=by omega
  have HSL:∀m,j+m<=n->Sl A5q w (some ⟨b,off+j,none⟩) m ((bs.drop j).take m):=fun m hm=>by
   obtain⟨b',off',he,hSl⟩:=HS.out.drop hlt;simp only[Option.some.injEq,Addr.mk.injEq,and_true]at he;rw[he.1,he.2];exact hSl.take (by omega)
  have HSLL:=hzz HSL;clear hv hq hRN hcq hbl HSL
  rcases hways with⟨c3,c4,c5⟩|⟨c3,c4,c5⟩|c3|⟨c3,c4,c5⟩|⟨c3,c4,c5⟩|c3
  case' inl=>
   have hjl1:j+1<bs.length:=by omega
   have hck1:wr.cell? ⟨b,off+(j+1),none⟩=some (.int .u8 (bs[j+1].toNat:Int)):=hc (j+1) hjl1
   have hr:B7b (bs.drop j)=(((c:Int) -192)*64+bs[j+1].toNat-128,2):=by
    rw[HRN.out,List.getElem?_eq_getElem hjl1];unfold B5g;rw[if_pos ⟨c3,c4,by omega⟩];rfl
   obtain⟨x,hxq⟩:∃c,c=bs[j+1].toNat:=⟨_,rfl⟩;have hx2:x<256:=by have:=bs[j+1].toNat_lt;omega
   rw[<-hxq]at hck1 hr;have HR:=hzz hr;have HSl:=hzz (HSLL.out 2 (by omega));have HQ2:=hzz (show q=2 by rw[HQ.out,hr]);obtain⟨S,hS⟩:∃S,S=(bs.drop j).take 2:=⟨_,rfl⟩;rw[<-hS]at HSl
   have HSq:=hzz (show S=(bs.drop j).take q by rw[HQ2.out,hS]);clear hS;have hve:((c:Int) -192)*64+x-128=v:=by rw[HV.out,hr]
   have HVE:=hzz hve;clear hc hxq hr hjl hjl1 hve
   go_wp2_with fail
   rw[HVE.out];have hjq:j+2<=n:=by omega
   have g4:(j:Int)+2<=(cap:Int):=by omega
   have g5:(0:Int)<=(j:Int)+2:=by omega
   have g6:(j:Int)<=(j:Int)+2:=by omega
   clear hck1 hck HVE c3 c4 c5 hc2 hx2;obtain⟨wx,hwx⟩:=exz (wr);rw[<-hwx]at HO HW⊢;clear hwx
  case' inr.inl=>
   have hjl1:j+1<bs.length:=by omega
   have hjl2:j+2<bs.length:=by omega
   have hck1:wr.cell? ⟨b,off+(j+1),none⟩=some (.int .u8 (bs[j+1].toNat:Int)):=hc (j+1) hjl1
   have hck2:wr.cell? ⟨b,off+(j+2),none⟩=some (.int .u8 (bs[j+2].toNat:Int)):=hc (j+2) hjl2
   have hr:B7b (bs.drop j)=(((c:Int) -224)*4096+((bs[j+1].toNat:Int) -128)*64+bs[j+2].toNat-128,3):=by
    rw[HRN.out,List.getElem?_eq_getElem hjl1,List.getElem?_eq_getElem hjl2];unfold B5g;rw[if_neg (by omega),if_pos ⟨c3,c4,by omega⟩];rfl
   obtain⟨x,hxq⟩:∃c,c=bs[j+1].toNat:=⟨_,rfl⟩;have hx2:x<256:=by have:=bs[j+1].toNat_lt;omega
   obtain⟨y,hyq⟩:∃c,c=bs[j+2].toNat:=⟨_,rfl⟩;have hy2:y<256:=by have:=bs[j+2].toNat_lt;omega
   rw[<-hxq]at hck1 hr;rw[<-hyq]at hck2 hr;have HR:=hzz hr;have HSl:=hzz (HSLL.out 3 (by omega));have HQ2:=hzz (show q=3 by rw[HQ.out,hr])
   obtain⟨S,hS⟩:∃S,S=(bs.drop j).take 3:=⟨_,rfl⟩;rw[<-hS]at HSl;have HSq:=hzz (show S=(bs.drop j).take q by rw[HQ2.out,hS]);clear hS
   have hve:((c:Int) -224)*4096+((x:Int) -128)*64+y-128=v:=by rw[HV.out,hr]
   have HVE:=hzz hve;have g1:(j:Int)+1<n:=by omega
   have g2:(j:Int)+2<n:=by omega
   clear hc hxq hyq hr hjl hjl1 hjl2 hve
   go_wp2_with fail
   go_quiet (fail)
   go_wp2_with fail
   rw[HVE.out];have hjq:j+3<=n:=by omega
   have g4:(j:Int)+3<=(cap:Int):=by omega
   have g5:(0:Int)<=(j:Int)+3:=by omega
   have g6:(j:Int)<=(j:Int)+3:=by omega
   clear hck1 hck2 hck HVE c3 c4 c5 hc2 hx2 hy2 g1 g2;replace HO:Hid ((wr.drewN nq).ownsRow w.heap.size 231 1 u4 k (us.map D7j)):=HO;replace HW:Hid (Below w.heap.size w (wr.drewN nq)):=D7x HW.out nq
   obtain⟨wx,hwx⟩:=exz (wr.drewN nq);rw[<-hwx]at HO HW⊢;clear hwx
  case' inr.inr.inl|inr.inr.inr.inl|inr.inr.inr.inr.inl|inr.inr.inr.inr.inr=>
   have hr:B7b (bs.drop j)=((c:Int),1):=by
    rw[HRN.out];unfold B5g;rw[if_neg (by omega),if_neg (by omega)]
   have HR:=hzz hr;have HSl:=hzz (HSLL.out 1 (by omega));have HQ2:=hzz (show q=1 by rw[HQ.out,hr]);obtain⟨S,hS⟩:∃S,S=(bs.drop j).take 1:=⟨_,rfl⟩;rw[<-hS]at HSl
   have HSq:=hzz (show S=(bs.drop j).take q by rw[HQ2.out,hS]);clear hS;have hve:(c:Int)=v:=by rw[HV.out,hr]
   have HVE:=hzz hve;clear hc hr hjl hve
   go_wp2_with fail
   rw[HVE.out];have hjq:j+1<=n:=by omega
   have g4:(j:Int)+1<=(cap:Int):=by omega
   have g5:(0:Int)<=(j:Int)+1:=by omega
   have g6:(j:Int)<=(j:Int)+1:=by omega
   obtain⟨wx,hwx⟩:=exz (wr);rw[<-hwx]at HO HW⊢;clear hwx hck HVE hc2
  all_goals
   have hcj:¬cap=j:=by omega
   have g1:(j:Int)<=(n:Int):=by omega
   by_cases inr:0<=v/\v<=65535
   ·obtain⟨i1,i2⟩:=inr;obtain⟨u,rfl⟩:=Int.eq_ofNat_of_zero_le i1;have hcv0:∀w',Below wx.heap.size wx w'->_:=fun w' h=>B4k (HSl.out.below (HW.out.trans (h.mono HW.out.size))) (cap-j)
    have u1:u<65536:=by omega
    have hd1:decide ((65535:Int)<(u:Int))=false:=by simp;omega
    have hd2:decide ((u:Int)<0)=false:=by simp
    have hd4:(u:Int)<=65535:=by omega
    have hSw:Below wx.heap.size wx wx.drew:=brz.drew;clear i1 i2
    refine A4e (Below wx.heap.size wx) [(0,true),(1,true),(2,true),(3,true),(4,true),(5,true),(6,true),(7,true),(8,true),(11,true),(12,true),(13,true),(14,true),(15,true),(16,true),(17,true),(9,false),(10,false),(18,true),(19,true)] (by kernel_rfl) (by kernel_rfl) (fun c a d v w h=>by cases d<;>exact h) ?_
    iterate 16
     refine A1m fun K hK=>tkF ?_
     go_simp
     try go_bits
     refine hK _ _ ?_;clear hK K
    refine A1m fun K hK=>alF ?_
    go_step;refine(C3q _ u u1).mono ?_;rintro e w5 ⟨v5,m5,rfl,hown5,hb5⟩;obtain⟨a5,cap5,rfl,hsl5,_⟩:=Sl.ofOwn hown5;replace hSw:Below wx.heap.size wx w5:=hSw.trans hb5
    have hcv1:=B4k hsl5 cap5;have H5:=btz HW hSw;clear hown5 hsl5 hb5;go_simp;refine hK _ _ ?_;clear hK K;refine A1m fun K hK=>alF ?_
    go_step;refine hK _ _ ?_;clear hK K hcv1 hcv0
    cases hE:(A9q u==S)
    ·have HN:=hzz (show A3m bs=none by
      rw[HD.out,HST.out,if_pos (HRT.out.2 (fun h=>by
       have h3:=h.2.2;rw[Int.toNat_natCast,<-HSq.out]at h3;simp[h3]at hE))];rfl)
     iterate 2
      refine A1m fun K hK=>tkF ?_
      go_simp
      try go_bits
      refine hK _ _ ?_;clear hK K
     refine B0a ?_
     go_wp2_with fail
     go_ret2;rw[HN.out];exact⟨rfl,H5.out⟩
    have hE2:A9q u=S:=by simpa using hE
    have htk:=HRT.out.1 ⟨by omega,by omega,by rw[Int.toNat_natCast,<-HSq.out];exact hE2⟩;have hq1:q≠0:=by rw[HQ2.out];decide
    have HD2:=hzz (show A3m bs=(A6f f (bs.drop (j+q))).map ((us++[UInt16.ofNat u])++·) by
     rw[HD.out,HST.out,htk,if_neg hq1,Int.toNat_natCast,List.drop_drop]
     cases A6f f (bs.drop (j+q))<;>simp)
    rw[HQ2.out]at HD2;have HE:=hzz (show(Value.int .u16 (u:Int))=D7j (UInt16.ofNat u) by unfold D7j;rw[UInt16.toNat_ofNat_of_lt' u1]);have HO5:=hzz (A1p HO.out hSw);clear hE2 htk hq1
    iterate 2
     refine A1m fun K hK=>tkF ?_
     go_simp
     try go_bits
     refine hK _ _ ?_;clear hK K
    refine B0a ?_;clear hE hSw
    go_wp2_with (at_builtin;refine A6h E3y rfl _ _ rfl w.heap.size _ _ _ rfl HO5.out _ 1 _ rfl rfl rfl (by omega) (by unfold maxLen;omega) H5.out.size ?_;intro v1 w7 hown1 hg1 hb1;have HO7:=hzz hown1;have HB7:=hzz (H5.out.trans hb1);clear hown1 hg1 hb1)
    go_roundw
    case rel=>exact⟨_,f,k+1,by go_num,by omega,by omega,by omega,us++[UInt16.ofNat u],by rw[List.map_append];show World.ownsRow _ _ _ _ _ _ (_++[_]);rw[<-HE.out];exact HO7.out,HB7,HD2⟩
    simp[intOf];omega
   ·have HN:=hzz (show A3m bs=none by rw[HD.out,HST.out,if_pos (HRT.out.2 (fun h=>inr ⟨h.1,h.2.1⟩))];rfl);have hSw:Below wx.heap.size wx wx.drew:=brz.drew;by_cases neg:v<0
    ·refine A4e (Below wx.heap.size wx) [(0,true),(1,true),(2,true),(3,true),(4,true),(5,true),(6,true),(7,true),(8,true),(11,true),(12,true),(13,true),(14,true),(15,true),(16,true),(17,true),(9,false),(10,false),(18,true),(19,true)] (by kernel_rfl) (by kernel_rfl) (fun c a d v w h=>by cases d<;>exact h) ?_
     have hd:=decide_eq_true neg
     iterate 3
      refine A1m fun K hK=>tkF ?_
      go_simp
      try go_bits
      refine hK _ _ ?_;clear hK K
     iterate 2
      refine A1m fun K hK=>skF ?_
      go_simp;refine hK _ _ ?_;clear hK K
     iterate 2
      refine A1m fun K hK=>tkF ?_
      go_simp
      try go_bits
      refine hK _ _ ?_;clear hK K
     iterate 12
      refine A1m fun K hK=>skF ?_
      go_simp;refine hK _ _ ?_;clear hK K
     iterate 1
      refine A1m fun K hK=>tkF ?_
      go_simp
      try go_bits
      refine hK _ _ ?_;clear hK K
     refine B0a ?_
     go_wp2_with fail
     go_ret2;rw[HN.out];exact⟨rfl,HW.out.drew⟩
    have pos:65535<v:=by omega
    have hd:=decide_eq_true pos;have hd0:=decide_eq_false neg
    refine A4e (Below wx.heap.size wx) [(0,true),(1,true),(2,true),(3,true),(4,true),(5,true),(6,true),(7,true),(8,true),(11,true),(12,true),(13,true),(14,true),(15,true),(16,true),(17,true),(9,false),(10,false),(18,true),(19,true)] (by kernel_rfl) (by kernel_rfl) (fun c a d v w h=>by cases d<;>exact h) ?_
    iterate 7
     refine A1m fun K hK=>tkF ?_
     go_simp
     try go_bits
     refine hK _ _ ?_;clear hK K
    iterate 12
     refine A1m fun K hK=>skF ?_
     go_simp;refine hK _ _ ?_;clear hK K
    iterate 1
     refine A1m fun K hK=>tkF ?_
     go_simp
     try go_bits
     refine hK _ _ ?_;clear hK K
    refine B0a ?_
    go_wp2_with fail
    go_ret2;rw[HN.out];exact⟨rfl,HW.out.drew⟩
 have hN:A3m bs=some us:=by
  rw[HD.out,List.drop_of_length_le (by omega)]
  cases f<;>simp[A6f]
 have HN:=hzz hN;clear hN
 go_wp2
 go_ret2;rw[HN.out];exact⟨_,k,rfl,HO.out,HW.out⟩
end
end Go.Proofs.YtclpkipaehpkdaaGreatDoor
