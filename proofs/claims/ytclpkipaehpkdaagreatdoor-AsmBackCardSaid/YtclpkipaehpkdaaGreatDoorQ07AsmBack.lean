/- asm -/
import Derived.Test.YtclpkipaehpkdaaGreatDoorQ04AsmBack
import Derived.Laws.StructEq
set_option linter.unusedVariables false
set_option linter.unusedSimpArgs false
set_option maxRecDepth 100000
set_option maxHeartbeats 64000000
open Go.Proofs.Tryz
namespace Go.Proofs.YtclpkipaehpkdaaGreatDoor
section
open Go.ChangeShapes Go.WideShapes Go.ChangeAt Go.RowKit
theorem rU(w:World)(n lo hi:Int):Calls prog 176 #[.int .i64 n,.int .i64 lo,.int .i64 hi] w fun e w'=>e= .returned (.bool (decide (lo<=n/\n<=hi)))/\w=w':=by
 by_cases h1:lo<=n
 ·by_cases h2:n<=hi
  ·rw[decide_eq_true (And.intro h1 h2)];have e1:=decide_eq_true h1;have e2:=decide_eq_true h2;go_enter func176,ntmps176
   go_wp2_with fail
   go_ret;exact⟨rfl,rfl⟩
  rw[decide_eq_false (fun x:lo<=n/\n<=hi=>h2 x.2)];have e1:=decide_eq_true h1;have e2:=decide_eq_false h2;go_enter func176,ntmps176
  go_wp2_with fail
  go_ret;exact⟨rfl,rfl⟩
 rw[decide_eq_false (fun x:lo<=n/\n<=hi=>h1 x.1)];have e1:=decide_eq_false h1;go_enter func176,ntmps176
 go_wp2_with fail
 go_ret;exact⟨rfl,rfl⟩
def tG(r:Bool)(w:World)(e:Ending)(w':World):Prop:=e= .returned (.bool r)/\Below w.heap.size w w'
theorem E5p(w:World)(p:Int)(k:Nat)(x y:Int):Calls prog 156 #[.agg #[.int .i64 p,.int .u8 (k:Nat),.int .i64 x,.int .i64 y],.int .i64 0] w (tG (yz ⟨p,k,x,y⟩ 0) w):=by
 by_cases hy:y=0
 ·rw[show yz ⟨p,k,x,y⟩ 0=false from by unfold yz;simp[hy]];subst hy;go_enter func156,ntmps156
  go_wp2_with fail
  go_ret;exact⟨rfl,Z6.alloc Z5 _⟩
 rw[show yz ⟨p,k,x,y⟩ 0=false from by unfold yz;simp[hy]];have ey:(y !=0)=true:=by simp[hy]
 clear hy;go_enter func156,ntmps156
 go_wp2_with fail
 go_ret;exact⟨rfl,Z6.alloc Z5 _⟩
theorem E5w(w:World)(p:Int)(k:Nat)(x y:Int):Calls prog 156 #[.agg #[.int .i64 p,.int .u8 (k:Nat),.int .i64 x,.int .i64 y],.int .i64 1] w (tG (yz ⟨p,k,x,y⟩ 1) w):=by
 by_cases hy:y=0
 ·rw[show yz ⟨p,k,x,y⟩ 1=decide (x=0)from by unfold yz;simp[hy]];subst hy;by_cases ha:x=0
  ·subst ha;go_enter func156,ntmps156
   go_wp2_with fail
   go_ret;exact⟨rfl,Z6.alloc Z5 _⟩
  have ea:(x==0)=false:=by simp[ha]
  rw[decide_eq_false ha];clear ha;go_enter func156,ntmps156
  go_wp2_with fail
  go_ret;exact⟨rfl,Z6.alloc Z5 _⟩
 rw[show yz ⟨p,k,x,y⟩ 1=false from by unfold yz;simp[hy]];have ey:(y !=0)=true:=by simp[hy]
 clear hy;go_enter func156,ntmps156
 go_wp2_with fail
 go_ret;exact⟨rfl,Z6.alloc Z5 _⟩
theorem E5z(w:World)(p:Int)(k:Nat)(x y:Int):Calls prog 156 #[.agg #[.int .i64 p,.int .u8 (k:Nat),.int .i64 x,.int .i64 y],.int .i64 2] w (tG (yz ⟨p,k,x,y⟩ 2) w):=by
 by_cases hy:y=0
 ·rw[show yz ⟨p,k,x,y⟩ 2=decide ((0:Int)<=x/\x<=255)from by unfold yz;simp[hy]];subst hy;have RA:=Z' (fun w'=>rU w' x (0) (255));generalize decide ((0:Int)<=x/\x<=255)=d at*;go_enter func156,ntmps156
  go_wp2_with fail
  refine(RA.out _).mono ?_;rintro e w' ⟨rfl,rfl⟩
  go_wp2_with fail
  go_ret;exact⟨rfl,Z6.alloc Z5 _⟩
 rw[show yz ⟨p,k,x,y⟩ 2=false from by unfold yz;simp[hy]];have ey:(y !=0)=true:=by simp[hy]
 clear hy;go_enter func156,ntmps156
 go_wp2_with fail
 go_ret;exact⟨rfl,Z6.alloc Z5 _⟩
theorem E5u(w:World)(p:Int)(k:Nat)(x y:Int):Calls prog 156 #[.agg #[.int .i64 p,.int .u8 (k:Nat),.int .i64 x,.int .i64 y],.int .i64 3] w (tG (yz ⟨p,k,x,y⟩ 3) w):=by
 by_cases hy:y=0
 ·rw[show yz ⟨p,k,x,y⟩ 3=decide ((-128:Int)<=x/\x<=127)from by unfold yz;simp[hy]];subst hy;have RA:=Z' (fun w'=>rU w' x (-128) (127));generalize decide ((-128:Int)<=x/\x<=127)=d at*;go_enter func156,ntmps156
  go_wp2_with fail
  refine(RA.out _).mono ?_;rintro e w' ⟨rfl,rfl⟩
  go_wp2_with fail
  go_ret;exact⟨rfl,Z6.alloc Z5 _⟩
 rw[show yz ⟨p,k,x,y⟩ 3=false from by unfold yz;simp[hy]];have ey:(y !=0)=true:=by simp[hy]
 clear hy;go_enter func156,ntmps156
 go_wp2_with fail
 go_ret;exact⟨rfl,Z6.alloc Z5 _⟩
theorem E5d(w:World)(p:Int)(k:Nat)(x y:Int):Calls prog 156 #[.agg #[.int .i64 p,.int .u8 (k:Nat),.int .i64 x,.int .i64 y],.int .i64 4] w (tG (yz ⟨p,k,x,y⟩ 4) w):=by
 by_cases hy:y=0
 ·rw[show yz ⟨p,k,x,y⟩ 4=decide ((-32768:Int)<=x/\x<=32767)from by unfold yz;simp[hy]];subst hy;have RA:=Z' (fun w'=>rU w' x (-32768) (32767));generalize decide ((-32768:Int)<=x/\x<=32767)=d at*;go_enter func156,ntmps156
  go_wp2_with fail
  refine(RA.out _).mono ?_;rintro e w' ⟨rfl,rfl⟩
  go_wp2_with fail
  go_ret;exact⟨rfl,Z6.alloc Z5 _⟩
 rw[show yz ⟨p,k,x,y⟩ 4=false from by unfold yz;simp[hy]];have ey:(y !=0)=true:=by simp[hy]
 clear hy;go_enter func156,ntmps156
 go_wp2_with fail
 go_ret;exact⟨rfl,Z6.alloc Z5 _⟩
theorem E6m(w:World)(p:Int)(k:Nat)(x y:Int):Calls prog 156 #[.agg #[.int .i64 p,.int .u8 (k:Nat),.int .i64 x,.int .i64 y],.int .i64 5] w (tG (yz ⟨p,k,x,y⟩ 5) w):=by
 by_cases hy:y=0
 ·rw[show yz ⟨p,k,x,y⟩ 5=decide ((0:Int)<=x/\x<=255)from by unfold yz;simp[hy]];subst hy;have RA:=Z' (fun w'=>rU w' x (0) (255));generalize decide ((0:Int)<=x/\x<=255)=d at*;go_enter func156,ntmps156
  go_wp2_with fail
  refine(RA.out _).mono ?_;rintro e w' ⟨rfl,rfl⟩
  go_wp2_with fail
  go_ret;exact⟨rfl,Z6.alloc Z5 _⟩
 rw[show yz ⟨p,k,x,y⟩ 5=false from by unfold yz;simp[hy]];have ey:(y !=0)=true:=by simp[hy]
 clear hy;go_enter func156,ntmps156
 go_wp2_with fail
 go_ret;exact⟨rfl,Z6.alloc Z5 _⟩
theorem E6c(w:World)(p:Int)(k:Nat)(x y:Int):Calls prog 156 #[.agg #[.int .i64 p,.int .u8 (k:Nat),.int .i64 x,.int .i64 y],.int .i64 6] w (tG (yz ⟨p,k,x,y⟩ 6) w):=by
 by_cases hy:y=0
 ·rw[show yz ⟨p,k,x,y⟩ 6=decide ((0:Int)<=x/\x<=65535)from by unfold yz;simp[hy]];subst hy;have RA:=Z' (fun w'=>rU w' x (0) (65535));generalize decide ((0:Int)<=x/\x<=65535)=d at*;go_enter func156,ntmps156
  go_wp2_with fail
  refine(RA.out _).mono ?_;rintro e w' ⟨rfl,rfl⟩
  go_wp2_with fail
  go_ret;exact⟨rfl,Z6.alloc Z5 _⟩
 rw[show yz ⟨p,k,x,y⟩ 6=false from by unfold yz;simp[hy]];have ey:(y !=0)=true:=by simp[hy]
 clear hy;go_enter func156,ntmps156
 go_wp2_with fail
 go_ret;exact⟨rfl,Z6.alloc Z5 _⟩
theorem E7i(w:World)(p:Int)(k:Nat)(x y:Int):Calls prog 156 #[.agg #[.int .i64 p,.int .u8 (k:Nat),.int .i64 x,.int .i64 y],.int .i64 7] w (tG (yz ⟨p,k,x,y⟩ 7) w):=by
 by_cases hy:y=0
 ·rw[show yz ⟨p,k,x,y⟩ 7=true from by unfold yz;simp[hy]];subst hy;go_enter func156,ntmps156
  go_wp2_with fail
  go_ret;exact⟨rfl,Z6.alloc Z5 _⟩
 rw[show yz ⟨p,k,x,y⟩ 7=false from by unfold yz;simp[hy]];have ey:(y !=0)=true:=by simp[hy]
 clear hy;go_enter func156,ntmps156
 go_wp2_with fail
 go_ret;exact⟨rfl,Z6.alloc Z5 _⟩
theorem E6b(w:World)(p:Int)(k:Nat)(x y:Int):Calls prog 156 #[.agg #[.int .i64 p,.int .u8 (k:Nat),.int .i64 x,.int .i64 y],.int .i64 8] w (tG (yz ⟨p,k,x,y⟩ 8) w):=by
 rw[show yz ⟨p,k,x,y⟩ 8=(decide ((0:Int)<=x/\x<=255)&&decide ((-128:Int)<=y/\y<=127))from by unfold yz;simp];have RA:=Z' (fun w'=>rU w' x 0 255);have Bd:=Z' (fun w'=>rU w' y (-128) 127);generalize decide ((0:Int)<=x/\x<=255)=d at*;generalize decide ((-128:Int)<=y/\y<=127)=d2 at*
 cases d
 ·go_enter func156,ntmps156
  go_wp2_with fail
  refine(RA.out _).mono ?_;rintro e w' ⟨rfl,rfl⟩
  go_wp2_with fail
  go_ret;exact⟨rfl,Z6.alloc Z5 _⟩
 go_enter func156,ntmps156
 go_wp2_with fail
 refine(RA.out _).mono ?_;rintro e w' ⟨rfl,rfl⟩
 go_wp2_with fail
 refine(Bd.out _).mono ?_;rintro e w' ⟨rfl,rfl⟩
 go_wp2_with fail
 go_ret;exact⟨rfl,Z6.alloc Z5 _⟩
theorem E6j(w:World)(p:Int)(k:Nat)(x y:Int):Calls prog 156 #[.agg #[.int .i64 p,.int .u8 (k:Nat),.int .i64 x,.int .i64 y],.int .i64 9] w (tG (yz ⟨p,k,x,y⟩ 9) w):=by
 by_cases hy:y=0
 ·rw[show yz ⟨p,k,x,y⟩ 9=decide (x=8\/x=10)from by unfold yz;simp[hy]];subst hy;by_cases h8:x=8
  ·subst h8;rw[decide_eq_true (.inl rfl)];go_enter func156,ntmps156
   go_wp2_with fail
   go_ret;exact⟨rfl,Z6.alloc Z5 _⟩
  by_cases X1:x=10
  ·subst X1;rw[decide_eq_true (.inr rfl)];go_enter func156,ntmps156
   go_wp2_with fail
   go_ret;exact⟨rfl,Z6.alloc Z5 _⟩
  have e8:(x==8)=false:=by simp[h8]
  have MY:(x==10)=false:=by simp[X1]
  rw[decide_eq_false (fun z:x=8\/x=10=>z.elim h8 X1)];clear h8 X1;go_enter func156,ntmps156
  go_wp2_with fail
  go_ret;exact⟨rfl,Z6.alloc Z5 _⟩
 rw[show yz ⟨p,k,x,y⟩ 9=false from by unfold yz;simp[hy]];have ey:(y !=0)=true:=by simp[hy]
 clear hy;go_enter func156,ntmps156
 go_wp2_with fail
 go_ret;exact⟨rfl,Z6.alloc Z5 _⟩
theorem D9t(w:World)(r:RW)(f:Nat)(hf:f<=9):Calls prog 156 #[.agg #[.int .i64 r.pos,.int .u8 (r.op:Nat),.int .i64 r.a,.int .i64 r.b],.int .i64 (f:Nat)] w (tG (yz r f) w):=by
 obtain⟨p,k,x,y⟩:=r;have h:f=0\/f=1\/f=2\/f=3\/f=4\/f=5\/f=6\/f=7\/f=8\/f=9:=by omega
 rcases h with rfl|rfl|rfl|rfl|rfl|rfl|rfl|rfl|rfl|rfl
 ·exact E5p w p k x y
 ·exact E5w w p k x y
 ·exact E5z w p k x y
 ·exact E5u w p k x y
 ·exact E5d w p k x y
 ·exact E6m w p k x y
 ·exact E6c w p k x y
 ·exact E7i w p k x y
 ·exact E6b w p k x y
 exact E6j w p k x y
def wM(w:World)(B:Nat)(v:Value)(m:Nat)(bs:List UInt8):Prop:=w.ownsRow B 5 1 v m (bs.map yp)\/∃g C,v= .slice (some ⟨g,0,none⟩) m m/\w.heap[g]? =some (.cells C 5 (0,0))/\Sl yp w (some ⟨g,0,none⟩) m bs
theorem wM.sl{w:World}{B:Nat}{v:Value}{m:Nat}{bs:List UInt8}(h:wM w B v m bs):∃a c,v= .slice a m c/\Sl yp w a m bs/\m<=c:=by
 rcases h with h|⟨g,C,rfl,_,h⟩
 ·obtain⟨a,c,rfl,hs,hc⟩:=Sl.ofOwn h;exact⟨a,c,rfl,hs,hc⟩
 exact⟨_,m,rfl,h,Nat.le_refl _⟩
theorem wM.below{w w':World}{B:Nat}{v:Value}{m:Nat}{bs:List UInt8}(h:wM w B v m bs)(hb:Below w.heap.size w w'):wM w' B v m bs:=by
 rcases h with h|⟨g,C,rfl,hg,h⟩
 ·exact .inl (wE h hb)
 exact .inr ⟨g,C,rfl,by rw[hb.block g (Array.getElem?_eq_some_iff.1 hg).1];exact hg,h.below hb⟩
theorem wM.clip{w w':World}{B B':Nat}{a:Option Addr}{c m:Nat}{bs:List UInt8}(h:w.ownsRow B 5 1 (.slice a (m+1) c) (m+1) (bs.map yp))(hb:Below w.heap.size w w')(hs:Sl yp w' a (m+1) bs):wM w' B' (.slice a (m+1) (m+1)) (m+1) bs:=by
 rcases h.2 with⟨_,h1⟩|⟨g,cap,cur,hv,_,hc,_⟩
 ·omega
 cases hv
 exact .inr ⟨g,cur,rfl,by rw[hb.block g (Array.getElem?_eq_some_iff.1 hc).1];exact hc,hs⟩
def E6f(w w':World):Prop:=w.heap.size<=w'.heap.size/\∀(g:Nat) (cs:Array Value) (t:TypeId) (fr:Nat×Nat),w.heap[g]? =some (.cells cs t fr)->t≠5->w'.heap[g]? =some (.cells cs t fr)
theorem qN{w:World}{ops:Array Oper}{rest:List Oper}{o:Oper}{a:Act}{Q:Exit->Act->World->Prop}(XF:Region.wanted o (yielded ops a.tmps)=true)(s x:Operand)
  (ho:o.op= .call {callee:= .builtin .append,args:= #[s,x],argTypes:= #[43,43]})
  (B:Nat) (v:Value) (m:Nat) (bs:List UInt8) (hv:a.eval s=v) (hX:wM w B v m bs)
  (C:Array Value) (k c sz:Nat) (hy:a.eval x= .slice (some ⟨sz,0,none⟩) k c) (hsz:w.heap.size=sz) (hC:C.size=k) (XE:C.toList.all (·.oneCell')=true) (hk:0<k) (ZR:m+k<=140737488355328) (hB:B<=w.heap.size)
  (h:∀v' w',w'.ownsRow B 5 1 v' (m+k) (bs.map yp++C.toList)->E6f w w'->Below B w w'->wpList prog ops Q rest (a.put o.dst v') w'):wpList prog ops Q (o::rest) a (w.alloc (.cells C 5)):=by
 subst hsz
 rcases hX with hX|⟨gd,Cd,rfl,_,hX⟩
 ·refine pQ nv XF s x ho B v m _ hv hX C k c hy hC XE (by omega) (by unfold maxLen;omega) hB (fun v' w' h1 h2 h3=>h v' w' h1 ⟨?_,fun g cs t fr hg ht=> ?_⟩ h3)
  ·have h4:=h2.size;simp at h4;omega
  exact ia hX h2 hg (Ne.symm ht)
 refine j9 (enc:=yp) nv XF s x ho w.heap.size _ m m bs hv hX C k c hy hC XE (by omega) Z5 (by omega) (by unfold maxLen;omega) Z5 (fun v' w' h1 h3=>h v' w' (wg h1 hB) ⟨h3.size,fun g cs t fr hg ht=> ?_⟩ (h3.mono hB));rw[h3.block g (Array.getElem?_eq_some_iff.1 hg).1];exact hg
theorem pf(l:List RW)(j:Nat)(r:RW)(h:l[j]? =some r):ym (l.take (j+1))=ym (l.take j)++wC r:=by
 obtain⟨hj,he⟩:=Z4 h;unfold ym;rw[List.take_succ_eq_append_getElem hj,List.flatMap_append,he];simp
theorem mL(l:List RW)(j:Nat)(r:RW)(h:l[j]? =some r):xd l j=(yz r (yX r.op)&&decide (r.pos=((ym (l.take j)).length:Nat))):=by
 unfold xd;rw[h]
theorem mD{l:List RW}(h:∀k,k<l.length->xd l k=true):(List.range l.length).all (xd l)=true:=by
 rw[List.all_eq_true];intro k hk;exact h k (by simpa using hk)
theorem aJ{l:List RW}(j:Nat)(hj:j<l.length)(h:xd l j=false):xt l=(8,[]):=by
 unfold xt
 have:(List.range l.length).all (xd l)=false:=by
  rw[List.all_eq_false];exact⟨j,by simpa using hj,by simp[h]⟩
 rw[if_pos this]
theorem dj{l:List RW}(h:∀k,k<l.length->xd l k=true)(hg:wL l=false):xt l=(2,[]):=by
 unfold xt;rw[if_neg (by rw[mD h];decide),if_pos hg]
theorem b7{l:List RW}(h:∀k,k<l.length->xd l k=true)(hg:wL l=true)(hl:4096<(ym l).length):xt l=(9,[]):=by
 unfold xt;rw[if_neg (by rw[mD h];decide),if_neg (by rw[hg];decide),if_pos hl]
theorem hH{l:List RW}(h:∀k,k<l.length->xd l k=true)(hg:wL l=true)(hl:¬4096<(ym l).length):xt l=(0,ym l):=by
 unfold xt;rw[if_neg (by rw[mD h];decide),if_neg (by rw[hg];decide),if_neg hl]
theorem E8u(p:Int)(o:Nat)(x y:Int)(h:yX o=7):wC ⟨p,o,x,y⟩=[UInt8.ofNat o]++yg (yh (x-p)) 2:=by unfold wC;simp[h]
theorem E8s(p:Int)(o:Nat)(x y:Int)(h:yX o=8):wC ⟨p,o,x,y⟩=[UInt8.ofNat o]++yg (yh x) 1++yg (yh y) 1:=by unfold wC;simp[h]
theorem E8h(p:Int)(o:Nat)(x y:Int)(h7:yX o≠7)(h8:yX o≠8):wC ⟨p,o,x,y⟩=[UInt8.ofNat o]++yg (yh x) (yC (yX o) -1):=by unfold wC;simp[h7,h8]
def sD(R:Int×List UInt8)(w:World)(e:Ending)(w':World):Prop:=
 ∃a m c,e= .returned (.tuple #[.slice a m c,.int .i64 R.1])/\Sl yp w' a m R.2/\m<=c/\Below w.heap.size w w'/\wM w' w.heap.size (.slice a m c) m R.2
theorem sD.err{R:Int×List UInt8}{w w':World}{e:Int}(h:R=(e,[]))(hb:Below w.heap.size w w'):sD R w (.returned (.tuple #[.slice none 0 0,.int .i64 e])) w':=by
 subst h;exact⟨_,0,0,rfl,Sl.nil _ _,Nat.le_refl _,hb,.inl (World.ownsRow_nil _ _ _ _)⟩
theorem D8n(o:Nat)(h:o<256):Value.int .u8 (o:Nat)=yp (UInt8.ofNat o):=by unfold yp;rw[UInt8.toNat_ofNat_of_lt' h]
theorem bS(w:World)(a:Option Addr)(n cap:Nat)(L:List RW)(hs:Rs w a n L)(hn:n<=65536)(hw:∀r∈L,xZ r.pos/\xZ r.a/\r.op<256):Calls prog 123 #[.slice a n cap] w (sD (xt L) w):=by
 have HS:=Z' hs;have Zd:=Z' hs.1;have HW:=Z' hw;obtain⟨R,hR⟩:=Z8 (xt L);rw[<-hR];have HR:=Z' hR;have Bf:=Z' (fun w' (hb:Below w.heap.size w w')=>gL w' a n cap L (hs.below hb) hn hw);clear hs hR hw;have hz:=ku;go_enter func123,ntmps123
 go_wp2_with fail
 refine(mU _).mono ?_;rintro e w1 ⟨rfl,ZQ⟩;have ZM:=Z' ZQ;clear ZQ
 go_wp2_with (first
  |(refine jY rfl _ _ _ rfl _ rfl rfl _ _ (by rw[uA];exact rN) (by simp[uA,zs8]) (mB _) ?_))
 clear hz;have Y3:=Z' (heap_alloc_last w1 (.cells (xB yX) 164));have ZT:=Z' (ZM.out.alloc ZM.out.size (.cells (xB yX) 164));generalize w1.alloc _=w2 at*;generalize Sm:w1.heap.size=gt at*;clear Sm ZM
 go_loopg [12,5] n (fun gn i v wr=>∃j m:Nat,j<=n/\gn=n-j/\i= .int .i64 j/\m<=3*j/\Hid ((ym (L.take j)).length=m)/\Hid (wM wr w.heap.size v m (ym (L.take j)))/\Hid (∀k,k<j->xd L k=true)/\
  Hid (wr.heap[gt]? =some (.cells (xB yX) 164))/\Hid (Below w.heap.size w wr))
 case atStart=>exact⟨0,0,by omega,by omega,by go_num,by omega,Z' rfl,Z' (.inl (World.ownsRow_nil _ _ _ _)),Z' (fun k h=>by omega),Y3,ZT⟩
 obtain⟨j,m,hj,rfl,rfl,hm,HM,HO,HG,HT,HB⟩:=hrel;by_cases ZX:j<n
 ·obtain⟨b,off,r,rfl,_,hr,q⟩:=(HS.out.below HB.out).at j ZX;obtain⟨q0,q1,q2,q3⟩:=q;have YP:j<L.length:=by rw[Zd.out];exact ZX
  have Pa:=HW.out r (List.mem_of_getElem? hr);have TP:=Z' (mL L j r hr);have Mf:=Z' (pf L j r hr);have Yk:=Z' (aJ (l:=L) j YP);obtain⟨p,o,x,y⟩:=r;simp only at q0 q1 q2 q3 Pa TP;rw[HM.out]at TP;obtain⟨hp,hx,ho⟩:=Pa;have o1:(o:Int)<256:=by omega
  have j1:(j:Int)<n:=by omega
  have PQ:=vg o;have Kv:=Z' (fun w'=>D9t w' ⟨p,o,x,y⟩ (yX o) PQ);have YS:=Z' (fun(w':World)=>tW w' (yX o) PQ);have Ya:gt<wr.heap.size:=(Array.getElem?_eq_some_iff.1 HT.out).1;have tc:wr.cell? ⟨gt,o,none⟩=some (.int .u8 (yX o:Nat)):=by rw[cell_of_row wr _ _ _ _ _ HT.out];exact rM _ _ ho
  have P3:=Z' (E8u p o x y);have Jr:=Z' (E8s p o x y);have Lz:=Z' (E8h p o x y);have Zz:=qs (yX o);have Ee:=Z9 (yz ⟨p,o,x,y⟩ 0=false) (by unfold yz;simp);have SF:=fun h0=>rT (f:=yX o) h0 PQ
  obtain⟨e,he⟩:=Z8 (ym (L.take j))
  have Pp:=Z9 (xd L j=true->∀k,k<j+1->xd L k=true) (fun h k hk=>by
   rcases Nat.lt_or_ge k j with h1|h1
   ·exact HG.out k h1
   obtain rfl:k=j:=by omega
   exact h)
  rw[<-he]at HM HO Mf;clear hr YP he HG;have EG:=Z9 (yX o=0->yz ⟨p,o,x,y⟩ (yX o)=false) (fun h=>by rw[h];exact Ee.out);generalize Gu:yz ⟨p,o,x,y⟩ (yX o)=ft at*;clear Gu;generalize yX o=f at*;generalize yC f=s at*;simp only at Kv
  go_upto_region 6 with fail
  have UK:=Z' (HB.out.alloc HB.out.size (.cells #[.int .i64 p,.int .u8 (o:Nat),.int .i64 x,.int .i64 y] 118));have Va:=Z' (HO.out.below ((Below.refl wr.heap.size wr).alloc Z5 (.cells #[.int .i64 p,.int .u8 (o:Nat),.int .i64 x,.int .i64 y] 118)));have RF:=Z' (show(wr.alloc (.cells #[.int .i64 p,.int .u8 (o:Nat),.int .i64 x,.int .i64 y] 118)).heap[gt]? =some (.cells (xB yX) 164) by rw[Below.heap_alloc _ _ _ Ya];exact HT.out);have Xm:=Z9 (xL (wr.alloc (.cells #[.int .i64 p,.int .u8 (o:Nat),.int .i64 x,.int .i64 y] 118)) wr.heap.size p o x y) (heap_alloc_last wr _);have tcA:=yF ((Below.refl wr.heap.size wr).alloc Z5 (.cells #[.int .i64 p,.int .u8 (o:Nat),.int .i64 x,.int .i64 y] 118)) tc;clear tc q0 q1 q2 q3;generalize wr.alloc _=W at*;generalize PN:wr.heap.size=g at*;clear PN Ya HT HB HO;obtain⟨⟨c0,c1,c2,c3⟩,_,R2⟩:=Xm.out.box;have Fi:gt<W.heap.size:=(Array.getElem?_eq_some_iff.1 RF.out).1
  go_wp2_with fail
  refine(Kv.out _).mono ?_;rintro e' w5 ⟨rfl,Yi⟩;have X9:=Z7 UK Yi;have U7:=Z' (Va.out.below Yi);have Sx:=Z' (show w5.heap[gt]? =some (.cells (xB yX) 164) by rw[Yi.block gt Fi];exact RF.out);have XD:=Z' (Xm.out.below Yi);clear Yi c0 c1 c2 c3 tcA;obtain⟨⟨c0,c1,c2,c3⟩,_,hgW5⟩:=XD.out.box
  cases ft
  ·have HQ:=Z' (show R=(8,[]) by rw[HR.out];exact Yk.out (by rw[TP.out];rfl));clear Yk TP EG
   go_wp2_with fail
   go_ret2;exact sD.err HQ.out X9.out
  have h0:f≠0:=fun h=>by have:=EG.out h;cases this
  have Yd:=SF h0;clear h0 SF EG;obtain⟨ov,oc,rfl,_,_⟩:=U7.out.sl;by_cases VL:p=m
  case' neg=>
   have HQ:=Z' (show R=(8,[]) by rw[HR.out];exact Yk.out (by rw[TP.out];simp[VL]));have epm:(p !=(m:Int))=true:=by simp[VL]
   clear Yk TP VL
   go_wp2_with fail
   go_ret2;exact sD.err HQ.out X9.out
  have epm:(p !=(m:Int))=false:=by simp[VL]
  have Xb:=Z' (Pp.out (by rw[TP.out];simp[VL]));have Ux:=Z' VL;obtain⟨ux,LB⟩:∃u,u=yh x:=⟨_,rfl⟩;obtain⟨uy,GV⟩:∃u,u=yh y:=⟨_,rfl⟩;obtain⟨ud,G1⟩:∃u,u=yh (x-p):=⟨_,rfl⟩;have wx:IntKind.u64.wrap x=(ux:Int):=by rw[LB];exact pv x
  have wy:IntKind.u64.wrap y=(uy:Int):=by rw[GV];exact pv y
  have wp:IntKind.u64.wrap p=(m:Int):=by rw[VL,IntKind.wrap_u64];omega
  have wd:IntKind.u64.wrap ((ux:Int) -(m:Int))=(ud:Int):=by
   rw[G1,<-pv,<-VL,LB,<-pv];simp only[IntKind.wrap_u64];omega
  have TX:=Z' (show ux<18446744073709551616 by rw[LB];exact kQ _);have Ag:=Z' (show uy<18446744073709551616 by rw[GV];exact kQ _);have Rm:=Z' (show ud<18446744073709551616 by rw[G1];exact kQ _);rw[<-LB,<-GV]at Jr;rw[<-LB]at Lz;rw[<-G1]at P3;have m6:m<=196608:=by omega
  have J3:=Z' (D8n o ho);clear VL LB GV G1 Yk TP Pp
  have Yt:=Z' (show ∀(u:World) (t:List UInt8) v,Hid (wC ⟨p,o,x,y⟩=t)->wM u w.heap.size v (m+t.length) (e++t)->u.heap[gt]? =some (.cells (xB yX) 164)->Below w.heap.size w u->t.length<=3->
    (∃m':Nat,m'<=3*(j+1)/\Hid ((ym (L.take (j+1))).length=m')/\Hid (wM u w.heap.size v m' (ym (L.take (j+1))))/\Hid (∀k,k<j+1->xd L k=true)/\Hid (u.heap[gt]? =some (.cells (xB yX) 164))/\Hid (Below w.heap.size w u))from fun u t v ht hO hT hB hl=>
   ⟨m+t.length,by omega,Z' (by rw[Mf.out,List.length_append,HM.out,ht.out]),Z' (by rw[Mf.out,ht.out];exact hO),Xb,Z' hT,Z' hB⟩)
  by_cases h7:f=7
  ·subst h7;clear Jr Lz YS
   go_wp2_with (at_builtin;first
    |(refine qN rfl _ _ rfl w.heap.size _ m e rfl U7.out _ 1 _ _ rfl rfl rfl rfl (by omega) (by omega) X9.out.size ?_;intro v6 w6 X6 Y2 Yy;have hq:w6.ownsRow w.heap.size 5 1 v6 (m+1) ((e++[UInt8.ofNat o]).map yp):=(by rw[List.map_append,List.map_cons,<-J3.out];exact X6);obtain⟨a6,c6,rfl,XR,Qk⟩:=Sl.ofOwn hq;have Ln:=Z' hq;have R5:=Z' XR;have U6:=Z' (X9.out.trans Yy);have Ww:=Z' (Y2.2 _ _ _ _ Sx.out (by decide));have XG:=Z9 (xL w6 g p o x y) (Y2.2 _ _ _ _ XD.out (by decide));clear X6 Y2 Yy XR hq c0 c1 c2 c3;obtain⟨⟨c0,c1,c2,c3⟩,_,PZ⟩:=XG.out.box))
   refine(qm _ a6 (m+1) c6 (e++[UInt8.ofNat o]) ud 2 R5.out (by omega) Qk Rm.out (by decide) (by decide)).mono ?_;rintro e' w7 ⟨v7,m7,rfl,Tc,Xr⟩;obtain rfl:m7=m+1+2:=by have h1:=Tc.1;have h2:=R5.out.1;rw[List.length_map,List.length_append,vh,h2]at h1;omega
   have Xz:=Z' (show w7.heap[gt]? =some (.cells (xB yX) 164) by rw[Xr.block gt (Array.getElem?_eq_some_iff.1 Ww.out).1];exact Ww.out);have M3:=Z' (wg Tc U6.out.size);have XB:=Z7 U6 Xr;clear Tc Xr c0 c1 c2 c3
   go_wp2_with fail
   go_roundg (n-(j+1))
   case measure=>omega
   obtain⟨m',h1,h2,h3,h4,h5,h6⟩:=Yt.out _ ([UInt8.ofNat o]++yg ud 2) _ (Z' (P3.out (by trivial))) (.inl (by rw[show m+([UInt8.ofNat o]++yg ud 2).length=m+1+2 by simp[vh]<;>omega,<-List.append_assoc];exact M3.out)) Xz.out XB.out (by simp[vh]);exact⟨j+1,m',by omega,rfl,by go_num,h1,h2,h3,h4,h5,h6⟩
  by_cases h8:f=8
  ·subst h8;clear P3 Lz YS h7
   go_wp2_with (at_builtin;first
    |(refine qN rfl _ _ rfl w.heap.size _ m e rfl U7.out _ 1 _ _ rfl rfl rfl rfl (by omega) (by omega) X9.out.size ?_;intro v6 w6 X6 Y2 Yy;have hq:w6.ownsRow w.heap.size 5 1 v6 (m+1) ((e++[UInt8.ofNat o]).map yp):=(by rw[List.map_append,List.map_cons,<-J3.out];exact X6);obtain⟨a6,c6,rfl,XR,Qk⟩:=Sl.ofOwn hq;have Ln:=Z' hq;have R5:=Z' XR;have U6:=Z' (X9.out.trans Yy);have Ww:=Z' (Y2.2 _ _ _ _ Sx.out (by decide));have XG:=Z9 (xL w6 g p o x y) (Y2.2 _ _ _ _ XD.out (by decide));clear X6 Y2 Yy XR hq c0 c1 c2 c3;obtain⟨⟨c0,c1,c2,c3⟩,_,PZ⟩:=XG.out.box))
   have QA:=fun w' (h:Below w6.heap.size w6 w')=>yF h c2
   have Qu:=fun w' (h:Below w6.heap.size w6 w')=>yF h c3
   have Z3:Below w6.heap.size w6 w6.drew:=Z6.drew;clear c0 c1 c2 c3
   refine rX (Below w6.heap.size w6) [(0,true),(1,true),(2,true),(3,true),(5,true),(6,true),(7,true),(4,false),(8,false),(9,true)] (by kernel_rfl) (by kernel_rfl) (fun c a d v w h=>by cases d<;>exact h) ?_
   iterate 7
    refine xh fun K hK=>tkF ?_
    go_simp
    try go_bits
    refine hK _ _ ?_;clear hK K
   refine xh fun K hK=>alF ?_
   go_step;refine(qm _ a6 (m+1) c6 (e++[UInt8.ofNat o]) ux 1 (R5.out.below Z6.drew) (by omega) Qk TX.out (by decide) (by decide)).mono ?_;rintro e' w7 ⟨v7,m7,rfl,Tc,Xr⟩;replace Z3:Below w6.heap.size w6 w7:=Z3.trans (Xr.mono (by simp));obtain rfl:m7=m+1+1:=by have h1:=Tc.1;have h2:=R5.out.1;rw[List.length_map,List.length_append,vh,h2]at h1;omega
   obtain⟨a7,c7,rfl,Sv,zP⟩:=Sl.ofOwn Tc;have Mh:=Z' Sv;clear Tc Xr Sv;go_simp;refine hK _ _ ?_;clear hK K;refine xh fun K hK=>alF ?_
   go_step;refine(qm _ a7 (m+1+1) c7 _ uy 1 Mh.out (by omega) zP Ag.out (by decide) (by decide)).mono ?_;rintro e' w8 ⟨v8,m8,rfl,EC,Wr⟩;obtain rfl:m8=m+1+1+1:=by have h1:=EC.1;have h2:=Mh.out.1;rw[List.length_map,List.length_append,vh,h2]at h1;omega
   have zT:=Z' (wg EC (Nat.le_trans U6.out.size Z3.size));replace Z3:Below w6.heap.size w6 w8:=Z3.trans (Wr.mono Z3.size);have RK:=Z7 U6 Z3;have Hn:=Z' (show w8.heap[gt]? =some (.cells (xB yX) 164) by rw[Z3.block gt (Array.getElem?_eq_some_iff.1 Ww.out).1];exact Ww.out);clear EC Wr;go_simp;refine hK _ _ ?_;clear hK K
   iterate 1
    refine xh fun K hK=>tkF ?_
    go_simp
    try go_bits
    refine hK _ _ ?_;clear hK K
   refine sr ?_;clear QA Qu Z3
   go_wp2_with fail
   go_roundg (n-(j+1))
   case measure=>omega
   obtain⟨m',h1,h2,h3,h4,h5,h6⟩:=Yt.out _ ([UInt8.ofNat o]++yg ux 1++yg uy 1) _ (Z' (Jr.out (by trivial))) (.inl (by rw[show m+([UInt8.ofNat o]++yg ux 1++yg uy 1).length=m+1+1+1 by simp[vh],<-List.append_assoc,<-List.append_assoc];exact zT.out)) Hn.out RK.out (by simp[vh]);exact⟨j+1,m',by omega,rfl,by go_num,h1,h2,h3,h4,h5,h6⟩
  have e7:((f:Int)==7)=false:=by simp;omega
  have e8:((f:Int)==8)=false:=by simp;omega
  replace h7:=Z' h7;replace h8:=Z' h8;clear P3 Jr;have Jt:s=1\/s=2\/s=3:=by omega
  rcases Jt with rfl|rfl|rfl
  ·go_wp2_with (at_builtin;first
    |(refine qN rfl _ _ rfl w.heap.size _ m e rfl U7.out _ 1 _ _ rfl rfl rfl rfl (by omega) (by omega) X9.out.size ?_;intro v6 w6 X6 Y2 Yy;have hq:w6.ownsRow w.heap.size 5 1 v6 (m+1) ((e++[UInt8.ofNat o]).map yp):=(by rw[List.map_append,List.map_cons,<-J3.out];exact X6);obtain⟨a6,c6,rfl,XR,Qk⟩:=Sl.ofOwn hq;have Ln:=Z' hq;have R5:=Z' XR;have U6:=Z' (X9.out.trans Yy);have Ww:=Z' (Y2.2 _ _ _ _ Sx.out (by decide));have XG:=Z9 (xL w6 g p o x y) (Y2.2 _ _ _ _ XD.out (by decide));clear X6 Y2 Yy XR hq c0 c1 c2 c3;obtain⟨⟨c0,c1,c2,c3⟩,_,PZ⟩:=XG.out.box))
   have QA:=fun w' (h:Below w6.heap.size w6 w')=>yF h c2
   have Qu:=fun w' (h:Below w6.heap.size w6 w')=>yF h c3
   have Z3:Below w6.heap.size w6 w6.drew:=Z6.drew;clear c0 c1 c2 c3
   refine rX (Below w6.heap.size w6) [(0,true),(1,true),(2,true),(3,true),(4,true),(5,false),(6,true),(7,false),(8,true)] (by kernel_rfl) (by kernel_rfl) (fun c a d v w h=>by cases d<;>exact h) ?_
   iterate 5
    refine xh fun K hK=>tkF ?_
    go_simp
    try go_bits
    refine hK _ _ ?_;clear hK K
   refine xh fun K hK=>alF ?_
   go_step;refine(YS.out _).mono ?_;rintro e' w' ⟨rfl,rfl⟩;go_simp;refine hK _ _ ?_;clear hK K
   iterate 1
    refine xh fun K hK=>tkF ?_
    go_simp
    try go_bits
    refine hK _ _ ?_;clear hK K
   refine xh fun K hK=>alF ?_
   go_step;refine(E3w _ a6 (m+1) c6 ux 0 Qk (by decide)).mono ?_;rintro e' w7 ⟨rfl,rfl⟩;go_simp;refine hK _ _ ?_;clear hK K
   iterate 1
    refine xh fun K hK=>tkF ?_
    go_simp
    try go_bits
    refine hK _ _ ?_;clear hK K
   refine sr ?_;have XB:=Z7 U6 Z3;have Xz:=Z9 (w6.drew.heap[gt]? =some (.cells (xB yX) 164)) Ww.out;have Mh:=Z' (R5.out.below Z3);have Fx:=Z' Z3;clear QA Qu Z3
   go_wp2_with fail
   go_roundg (n-(j+1))
   case measure=>omega
   case rel=>
    obtain⟨m',h1,h2,h3,h4,h5,h6⟩:=Yt.out _ ([UInt8.ofNat o]++yg ux (1-1)) _ (Z' (Lz.out h7.out h8.out)) (wM.clip Ln.out Fx.out Mh.out) Xz.out XB.out (by simp[vh]);exact⟨j+1,m',by omega,rfl,by go_num,h1,h2,h3,h4,h5,h6⟩
  ·go_wp2_with (at_builtin;first
    |(refine qN rfl _ _ rfl w.heap.size _ m e rfl U7.out _ 1 _ _ rfl rfl rfl rfl (by omega) (by omega) X9.out.size ?_;intro v6 w6 X6 Y2 Yy;have hq:w6.ownsRow w.heap.size 5 1 v6 (m+1) ((e++[UInt8.ofNat o]).map yp):=(by rw[List.map_append,List.map_cons,<-J3.out];exact X6);obtain⟨a6,c6,rfl,XR,Qk⟩:=Sl.ofOwn hq;have Ln:=Z' hq;have R5:=Z' XR;have U6:=Z' (X9.out.trans Yy);have Ww:=Z' (Y2.2 _ _ _ _ Sx.out (by decide));have XG:=Z9 (xL w6 g p o x y) (Y2.2 _ _ _ _ XD.out (by decide));clear X6 Y2 Yy XR hq c0 c1 c2 c3;obtain⟨⟨c0,c1,c2,c3⟩,_,PZ⟩:=XG.out.box))
   have QA:=fun w' (h:Below w6.heap.size w6 w')=>yF h c2
   have Qu:=fun w' (h:Below w6.heap.size w6 w')=>yF h c3
   have Z3:Below w6.heap.size w6 w6.drew:=Z6.drew;clear c0 c1 c2 c3
   refine rX (Below w6.heap.size w6) [(0,true),(1,true),(2,true),(3,true),(4,true),(5,false),(6,true),(7,false),(8,true)] (by kernel_rfl) (by kernel_rfl) (fun c a d v w h=>by cases d<;>exact h) ?_
   iterate 5
    refine xh fun K hK=>tkF ?_
    go_simp
    try go_bits
    refine hK _ _ ?_;clear hK K
   refine xh fun K hK=>alF ?_
   go_step;refine(YS.out _).mono ?_;rintro e' w' ⟨rfl,rfl⟩;go_simp;refine hK _ _ ?_;clear hK K
   iterate 1
    refine xh fun K hK=>tkF ?_
    go_simp
    try go_bits
    refine hK _ _ ?_;clear hK K
   refine xh fun K hK=>alF ?_
   go_step;refine(qm _ a6 (m+1) c6 (e++[UInt8.ofNat o]) ux 1 (R5.out.below Z6.drew) (by omega) Qk TX.out (by decide) (by decide)).mono ?_;rintro e' w7 ⟨v7,m7,rfl,Tc,Xr⟩;replace Z3:Below w6.heap.size w6 w7:=Z3.trans (Xr.mono (by simp));obtain rfl:m7=m+1+1:=by have h1:=Tc.1;have h2:=R5.out.1;rw[List.length_map,List.length_append,vh,h2]at h1;omega
   have M3:=Z' (wg Tc U6.out.size);have XB:=Z7 U6 Z3;have Xz:=Z' (show w7.heap[gt]? =some (.cells (xB yX) 164) by rw[Z3.block gt (Array.getElem?_eq_some_iff.1 Ww.out).1];exact Ww.out);clear Tc Xr;go_simp;refine hK _ _ ?_;clear hK K
   iterate 1
    refine xh fun K hK=>tkF ?_
    go_simp
    try go_bits
    refine hK _ _ ?_;clear hK K
   refine sr ?_;clear QA Qu Z3
   go_wp2_with fail
   go_roundg (n-(j+1))
   case measure=>omega
   case rel=>
    obtain⟨m',h1,h2,h3,h4,h5,h6⟩:=Yt.out _ ([UInt8.ofNat o]++yg ux (2-1)) _ (Z' (Lz.out h7.out h8.out)) (.inl (by rw[show m+([UInt8.ofNat o]++yg ux (2-1)).length=m+1+1 by simp[vh]<;>omega,<-List.append_assoc];exact M3.out)) Xz.out XB.out (by simp[vh]);exact⟨j+1,m',by omega,rfl,by go_num,h1,h2,h3,h4,h5,h6⟩
  go_wp2_with (at_builtin;first
   |(refine qN rfl _ _ rfl w.heap.size _ m e rfl U7.out _ 1 _ _ rfl rfl rfl rfl (by omega) (by omega) X9.out.size ?_;intro v6 w6 X6 Y2 Yy;have hq:w6.ownsRow w.heap.size 5 1 v6 (m+1) ((e++[UInt8.ofNat o]).map yp):=(by rw[List.map_append,List.map_cons,<-J3.out];exact X6);obtain⟨a6,c6,rfl,XR,Qk⟩:=Sl.ofOwn hq;have Ln:=Z' hq;have R5:=Z' XR;have U6:=Z' (X9.out.trans Yy);have Ww:=Z' (Y2.2 _ _ _ _ Sx.out (by decide));have XG:=Z9 (xL w6 g p o x y) (Y2.2 _ _ _ _ XD.out (by decide));clear X6 Y2 Yy XR hq c0 c1 c2 c3;obtain⟨⟨c0,c1,c2,c3⟩,_,PZ⟩:=XG.out.box))
  have QA:=fun w' (h:Below w6.heap.size w6 w')=>yF h c2
  have Qu:=fun w' (h:Below w6.heap.size w6 w')=>yF h c3
  have Z3:Below w6.heap.size w6 w6.drew:=Z6.drew;clear c0 c1 c2 c3
  refine rX (Below w6.heap.size w6) [(0,true),(1,true),(2,true),(3,true),(4,true),(5,false),(6,true),(7,false),(8,true)] (by kernel_rfl) (by kernel_rfl) (fun c a d v w h=>by cases d<;>exact h) ?_
  iterate 5
   refine xh fun K hK=>tkF ?_
   go_simp
   try go_bits
   refine hK _ _ ?_;clear hK K
  refine xh fun K hK=>alF ?_
  go_step;refine(YS.out _).mono ?_;rintro e' w' ⟨rfl,rfl⟩;go_simp;refine hK _ _ ?_;clear hK K
  iterate 1
   refine xh fun K hK=>tkF ?_
   go_simp
   try go_bits
   refine hK _ _ ?_;clear hK K
  refine xh fun K hK=>alF ?_
  go_step;refine(qm _ a6 (m+1) c6 (e++[UInt8.ofNat o]) ux 2 (R5.out.below Z6.drew) (by omega) Qk TX.out (by decide) (by decide)).mono ?_;rintro e' w7 ⟨v7,m7,rfl,Tc,Xr⟩;replace Z3:Below w6.heap.size w6 w7:=Z3.trans (Xr.mono (by simp));obtain rfl:m7=m+1+2:=by have h1:=Tc.1;have h2:=R5.out.1;rw[List.length_map,List.length_append,vh,h2]at h1;omega
  have M3:=Z' (wg Tc U6.out.size);have XB:=Z7 U6 Z3;have Xz:=Z' (show w7.heap[gt]? =some (.cells (xB yX) 164) by rw[Z3.block gt (Array.getElem?_eq_some_iff.1 Ww.out).1];exact Ww.out);clear Tc Xr;go_simp;refine hK _ _ ?_;clear hK K
  iterate 1
   refine xh fun K hK=>tkF ?_
   go_simp
   try go_bits
   refine hK _ _ ?_;clear hK K
  refine sr ?_;clear QA Qu Z3
  go_wp2_with fail
  go_roundg (n-(j+1))
  case measure=>omega
  obtain⟨m',h1,h2,h3,h4,h5,h6⟩:=Yt.out _ ([UInt8.ofNat o]++yg ux (3-1)) _ (Z' (Lz.out h7.out h8.out)) (.inl (by rw[show m+([UInt8.ofNat o]++yg ux (3-1)).length=m+1+2 by simp[vh]<;>omega,<-List.append_assoc];exact M3.out)) Xz.out XB.out (by simp[vh]);exact⟨j+1,m',by omega,rfl,by go_num,h1,h2,h3,h4,h5,h6⟩
 obtain rfl:j=n:=by omega
 have Xt:=Z' (show ym (L.take j)=ym L by rw[List.take_of_length_le (by rw[Zd.out];exact Nat.le_refl _)]);have TP:=Z' (show ∀k,k<L.length->xd L k=true by rw[Zd.out];exact HG.out);rw[Xt.out]at HO HM;have Sm:gt<wr.heap.size:=(Array.getElem?_eq_some_iff.1 HT.out).1
 go_wp2_with (first
  |(refine wpList_load_row rfl _ _ rfl _ rfl _ _ _ _ HT.out underlying164 rfl (by rw[uA];exact rN) ?_))
 refine(Bf.out _ HB.out).mono ?_;rintro e w3 ⟨rfl,Zn⟩;have ZG:=Z7 HB Zn;have PV:=HO.out.below Zn;obtain⟨va,vc,rfl,NB,SH⟩:=PV.sl;have VX:=Z' PV;have Vt:=Z' NB;clear Zn Sm NB PV
 cases hg:wL L
 ·have HQ:=Z' (show R=(2,[]) by rw[HR.out];exact dj TP.out hg);clear hg
  go_wp2_with fail
  go_ret2;exact sD.err HQ.out ZG.out
 have NL:=Z' hg;clear hg;by_cases hl:4096<m
 ·have HQ:=Z' (show R=(9,[]) by rw[HR.out];exact b7 TP.out NL.out (by rw[HM.out];exact hl));have e1:decide ((4096:Int)<m)=true:=by simp;omega
  go_wp2_with fail
  go_ret2;exact sD.err HQ.out ZG.out
 have HQ:=Z' (show R=(0,ym L) by rw[HR.out];exact hH TP.out NL.out (by rw[HM.out];exact hl));have e1:decide ((4096:Int)<m)=false:=by simp;omega
 go_wp2_with fail
 go_ret2;exact⟨va,m,vc,by rw[HQ.out];rfl,by rw[HQ.out];exact Vt.out,SH,ZG.out,by rw[HQ.out];exact VX.out⟩
theorem D1s(w:World)(k:Nat)(hk:k<256):Calls prog 111 #[.int .u8 (k:Nat)] w fun e w'=>e= .returned (.int .i64 (yC (yX k):Nat))/\w=w':=by
 have HF:=Z' (pH w k hk);have h9:=vg k;generalize yX k=f at*;have h:f=0\/f=1\/f=2\/f=3\/f=4\/f=5\/f=6\/f=7\/f=8\/f=9:=by omega
 clear h9
 rcases h with rfl|rfl|rfl|rfl|rfl|rfl|rfl|rfl|rfl|rfl
 all_goals
  go_enter func111,ntmps111
  go_wp2_with fail
  refine HF.out.mono ?_;rintro e w' ⟨rfl,rfl⟩
  go_wp2_with fail
  go_ret;exact⟨rfl,rfl⟩
theorem D6v{L:List RW}{r:RW}{p:Int}(hr:r∈L)(h:r.pos=p):thereB L p=true:=by
 unfold thereB;rw[List.any_eq_true];exact⟨r,hr,by simp[h]⟩
theorem D9q{L:List RW}{p:Int}(h:∀(k:Nat) r,L[k]? =some r->r.pos≠p):thereB L p=false:=by
 unfold thereB;rw[List.any_eq_false];intro r hr;obtain⟨k,hk,rfl⟩:=List.getElem_of_mem hr;simpa using h k _ (List.getElem?_eq_getElem hk)
theorem D4g(w:World)(a:Option Addr)(n cap:Nat)(L:List RW)(p:Int)(hs:Rs w a n L)(hn:n<=65536):Calls prog 152 #[.slice a n cap,.int .i64 p] w (rh (.bool (thereB L p)) w):=by
 have HS:=Z' hs;have Zd:=Z' hs.1;clear hs;go_enter func152,ntmps152
 go_wp2_with fail
 go_loopg [9] n (fun gn i wr=>∃j:Nat,j<=n/\gn=n-j/\i= .int .i64 j/\Hid (∀(k:Nat) r,k<j->L[k]? =some r->r.pos≠p)/\Hid (Below w.heap.size w wr))
 case atStart=>exact⟨0,by omega,by omega,by go_num,Z' (fun k r h=>by omega),Z' Z6⟩
 obtain⟨j,hj,rfl,rfl,HG,HB⟩:=hrel;by_cases ZX:j<n
 ·obtain⟨b,off,r,rfl,_,hr,q⟩:=(HS.out.below HB.out).at j ZX;obtain⟨q0,q1,q2,q3⟩:=q;have Pn:=Z' (fun h=>D6v (p:=p) (List.mem_of_getElem? hr) h)
  have YL:=Z9 (r.pos≠p->∀(k:Nat) r,k<j+1->L[k]? =some r->r.pos≠p) (fun h k r' hk WW=>by
   rcases Nat.lt_or_ge k j with h1|h1
   ·exact HG.out k r' h1 WW
   obtain rfl:k=j:=by omega
   rw[hr]at WW
   cases WW
   exact h)
  have j1:(j:Int)<n:=by omega
  obtain⟨x,o,y,z⟩:=r;simp only at q0 q1 q2 q3 Pn YL;clear hr;by_cases hx:x=p
  ·subst hx;have HR:=Z' (Pn.out rfl);clear Pn YL
   go_wp2_with fail
   go_ret;exact⟨by rw[HR.out];rfl,HB.out.alloc HB.out.size _⟩
  have ex:(x==p)=false:=by simp[hx]
  have HQ:=Z' (YL.out hx);clear hx Pn YL
  go_wp2_with fail
  go_roundg (n-(j+1))
  case measure=>omega
  exact⟨j+1,by omega,rfl,by go_num,HQ,Z' (HB.out.alloc HB.out.size _)⟩
 obtain rfl:j=n:=by omega
 have HR:=Z' (D9q (L:=L) (p:=p) (fun k r hk=>HG.out k r (by have:=(Z4 hk).1;rw[Zd.out]at this;exact this) hk))
 go_wp2_with fail
 go_ret;exact⟨by rw[HR.out];rfl,HB.out⟩
theorem bN(w:World)(a:Option Addr)(n cap:Nat)(L:List RW)(hs:Rs w a n L)(hn:n<=65536)(hw:∀r∈L,r.op<256):Calls prog 115 #[.slice a n cap] w (rh (.bool (wL L)) w):=by
 have HS:=Z' hs;have Zd:=Z' hs.1;have HW:=Z' hw;clear hs hw;go_enter func115,ntmps115
 go_wp2_with fail
 go_loopg [7] n (fun gn i wr=>∃j:Nat,j<=n/\gn=n-j/\i= .int .i64 j/\Hid (∀(k:Nat) r,k<j->L[k]? =some r->(!(yX r.op==7)||thereB L r.a)=true)/\Hid (Below w.heap.size w wr))
 case atStart=>exact⟨0,by omega,by omega,by go_num,Z' (fun k r h=>by omega),Z' Z6⟩
 obtain⟨j,hj,rfl,rfl,HG,HB⟩:=hrel;by_cases ZX:j<n
 ·obtain⟨b,off,r,rfl,_,hr,q⟩:=(HS.out.below HB.out).at j ZX;obtain⟨q0,q1,q2,q3⟩:=q;have Zx:=HW.out r (List.mem_of_getElem? hr);have Ra:=Z' (gK (L:=L) (List.mem_of_getElem? hr))
  have Ms:=Z9 ((!(yX r.op==7)||thereB L r.a)=true->∀(k:Nat) r,k<j+1->L[k]? =some r->(!(yX r.op==7)||thereB L r.a)=true) (fun h k r' hk WW=>by
   rcases Nat.lt_or_ge k j with h1|h1
   ·exact HG.out k r' h1 WW
   obtain rfl:k=j:=by omega
   rw[hr]at WW
   cases WW
   exact h)
  have j1:(j:Int)<n:=by omega
  have C':=Z' (fun w' (hb:Below w.heap.size w w')=>D4g w' (some ⟨b,off,none⟩) n cap L r.a (HS.out.below hb) hn);have Xn:=Z' (fun w'=>pH w' r.op Zx);obtain⟨p,o,x,y⟩:=r;simp only at q0 q1 q2 q3 Zx Ra Ms C' Xn;have f9:=vg o;generalize thereB L x=th at*;generalize yX o=f at*;clear hr;have HA:=Z' (HB.out.alloc HB.out.size (.cells #[.int .i64 p,.int .u8 (o:Nat),.int .i64 x,.int .i64 y] 118));by_cases h7:f=7
  ·subst h7
   go_wp2_with fail
   refine(Xn.out _).mono ?_;rintro e w' ⟨rfl,rfl⟩
   go_wp2_with fail
   refine(C'.out _ HA.out).mono ?_;rintro e w3 ⟨rfl,Zn⟩;have ZG:=Z7 HA Zn;clear Zn
   cases th
   ·have HR:=Z' (Ra.out rfl)
    go_wp2_with fail
    go_ret;exact⟨by rw[HR.out];rfl,ZG.out⟩
   have HQ:=Z' (Ms.out rfl)
   go_wp2_with fail
   go_roundg (n-(j+1))
   case measure=>omega
   exact⟨j+1,by omega,rfl,by go_num,HQ,ZG⟩
  have e7:((f:Int)==7)=false:=by simp;omega
  have HQ:=Z' (Ms.out (by simp[h7]));clear h7
  go_wp2_with fail
  refine(Xn.out _).mono ?_;rintro e w' ⟨rfl,rfl⟩
  go_wp2_with fail
  go_roundg (n-(j+1))
  case measure=>omega
  exact⟨j+1,by omega,rfl,by go_num,HQ,HA⟩
 obtain rfl:j=n:=by omega
 have HR:=Z' (g' (L:=L) (fun k r hk=>HG.out k r (by have:=(Z4 hk).1;rw[Zd.out]at this;exact this) hk))
 go_wp2_with fail
 go_ret;exact⟨by rw[HR.out];rfl,HB.out⟩
theorem dG(w:World)(a:Option Addr)(n cap:Nat)(bs:List UInt8)(hs:Sl yp w a n bs)(hn:n<=65536)(Zv:n<=cap):Calls prog 65 #[.slice a n cap] w (vX (xW bs) w):=by
 have HS:=Z' hs;have Zd:=Z' hs.1;obtain⟨R,hR⟩:=Z8 (xW bs);rw[<-hR];have HR:=Z' hR;clear hs hR;by_cases h4:4096<n
 ·have HQ:=Z' (show R=(9,[]) by rw[HR.out];exact jC (by rw[Zd.out];exact h4));have e1:decide ((4096:Int)<n)=true:=by simp;omega
  go_enter func65,ntmps65
  go_wp2_with fail
  go_ret2;exact vX.err HQ.out Z6
 have e1:decide ((4096:Int)<n)=false:=by simp;omega
 have H4:=Z' (show ¬4096<bs.length by rw[Zd.out];exact h4);go_enter func65,ntmps65
 go_wp2_with fail
 go_loopg [4,5] n (fun gn v i wr=>∃p fuel m:Nat,∃acc,p<=n/\gn=n-p/\i= .int .i64 p/\n<fuel+p/\m<=p/\Hid (wr.ownsRow w.heap.size 118 4 v m (acc.flatMap RW.cells))/\Hid (∀r∈acc,xZ r.pos/\xZ r.a/\r.op<256)/\
  Hid (Below w.heap.size w wr)/\Hid (xC bs (bs.length+1) 0 []=xC bs fuel p acc))
 case atStart=>exact⟨0,n+1,0,[],by omega,by omega,by go_num,by omega,by omega,Z' (World.ownsRow_nil _ _ _ _),Z' (fun r hr=>by cases hr),Z' Z6,Z' (by rw[Zd.out])⟩
 obtain⟨p,fuel,m,acc,hp,rfl,rfl,hf,hm,HO,HW,HB,HD⟩:=hrel;by_cases ZX:p<n
 ·obtain⟨fuel,rfl⟩:∃f,fuel=f+1:=⟨fuel-1,by omega⟩;obtain⟨b,off,rfl,Zu,hc⟩:=(HS.out.below HB.out).2 (by omega);have XJ:p<bs.length:=by rw[Zd.out];exact ZX
  have q0:=hc p XJ;have Zx:bs[p].toNat=yK bs p:=by unfold yK;simp[List.getD,XJ]
  unfold yp at q0;rw[Zx]at q0;have G9:=kT bs p;have PQ:=vg (yK bs p);have Xt:=Z' (fun w'=>D1s w' (yK bs p) G9);have Xn:=Z' (fun w'=>pH w' (yK bs p) G9);have T6:=Z' (pg bs fuel p acc XJ);have Wn:=Z' (px bs fuel p acc XJ);have Yx:=Z' (nY bs fuel p acc XJ);have YL:=Z' (qy bs fuel p acc XJ);have D6:Hid (vZ bs p=⟨p,yK bs p,yB bs p (yX (yK bs p)),yt bs p (yX (yK bs p))⟩):=Z' rfl;have WK:=Z' (mu bs p (by omega));rw[D6.out]at WK YL;have p1:(p:Int)<n:=by omega
  have o1:(yK bs p:Int)<256:=by omega
  rw[Zd.out]at Wn Yx YL;clear hc Zx XJ;generalize yX (yK bs p)=f at*;generalize yK bs p=o at*;have Sp:=Z' (bV HO.out)
  go_upto_region 7 with fail
  have UK:=Z' (HB.out.alloc HB.out.size (.cells #[.int .i64 p,.int .u8 (o:Nat),.int .i64 0,.int .i64 0] 118));have Xm:=Z9 (xL (wr.alloc (.cells #[.int .i64 p,.int .u8 (o:Nat),.int .i64 0,.int .i64 0] 118)) wr.heap.size p o 0 0) (heap_alloc_last wr _);have U':=Z' ((Below.refl wr.heap.size wr).alloc Z5 (.cells #[.int .i64 p,.int .u8 (o:Nat),.int .i64 0,.int .i64 0] 118));clear q0;generalize wr.alloc _=W at*;generalize PN:wr.heap.size=g at*;have T0:=Z' PN;clear PN;obtain⟨⟨c0,c1,c2,c3⟩,⟨f2,f3⟩,R2⟩:=Xm.out.box;obtain⟨s,hs⟩:=Z8 (yC f);rw[<-hs]at Xt Wn Yx YL;have YS:=Z' hs;clear hs
  go_wp2_with fail
  refine(Xt.out _).mono ?_;rintro e w' ⟨rfl,rfl⟩;have R3:f=0\/f=1\/f=2\/f=3\/f=4\/f=5\/f=6\/f=7\/f=8\/f=9:=by omega
  clear PQ
  rcases R3 with rfl|rfl|rfl|rfl|rfl|rfl|rfl|rfl|rfl|rfl
  ·have HQ:=Z' (show R=(8,[]) by rw[HR.out];exact uB H4.out (by rw[HD.out];exact T6.out rfl) (by decide));obtain rfl:s=0:=YS.out;clear T6 Wn Yx YL
   go_wp2_with fail
   go_ret2;exact vX.err HQ.out UK.out
  ·have HV:Hid ((yi bs ((p:Int)+1) 1).1=yv bs p 1):=Z' rfl;have HU:=Z' (vz bs ((p:Int)+1) 1);have YA:=vF bs ((p:Int)+1) 1 1 (by decide) (by decide);have HC:=Z' (fun w' (h:Below w.heap.size w w')=>tp w' (some ⟨b,off,none⟩) n cap bs ((p:Int)+1) 1 (HS.out.below h) (by omega) Zv (by unfold yw;omega) (by unfold yw;omega));rw[HV.out]at HC HU YA;generalize(yi bs ((p:Int)+1) 1).2=e2 at*;have Zi:Hid (yB bs p 1=0):=Z' (by unfold yB;simp);have YT:Hid (yt bs p 1=0):=Z' (by unfold yt;simp);have Yk:Hid (xz bs p 1=false):=Z' (by unfold xz;simp);obtain⟨ra,Yw⟩:∃x,x=yB bs p 1:=⟨_,rfl⟩;obtain⟨rb,We⟩:∃y,y=yt bs p 1:=⟨_,rfl⟩;rw[<-Yw]at Zi YL WK;rw[<-We]at YT YL;obtain rfl:s=1:=YS.out;clear Yw We HV T6;generalize yv bs p 1=v at*;rw[show((256^1:Nat):Int)=256 from rfl]at YA;have WB:=HU.out.1;by_cases h1:n-p<1
   ·have HQ:=Z' (show R=(6,[]) by rw[HR.out];exact uB H4.out (by rw[HD.out];exact Wn.out (by decide) h1) (by decide));have Uf:decide ((n:Int) -p<1)=true:=by simp;omega
    clear Wn Yx YL
    go_wp2_with fail
    go_ret2;exact vX.err HQ.out UK.out
   have Uf:decide ((n:Int) -p<1)=false:=by simp;omega
   have Ze:=Z' h1;have U1:p+1<=n:=by omega
   clear h1
   go_wp2_with fail
   refine(HC.out _ UK.out).mono ?_;rintro e w' ⟨rfl,rfl⟩
   go_wp2_with fail
   refine(Xn.out _).mono ?_;rintro e w' ⟨rfl,rfl⟩
   go_upto_region 27 with fail
   have X0:=Z' (show xL W g p o ra rb by rw[Zi.out,YT.out];exact Xm.out);have Wf:=U';have Ys:=Z' (HB.out.trans (Wf.out.mono (by rw[<-T0.out];exact HB.out.size)));have XL:=Z' (wE HO.out (by rw[T0.out];exact Wf.out));clear Xm U';have Xy:=Z' Yk.out;clear c0 c1 c2 c3;obtain⟨⟨c0,c1,c2,c3⟩,_,XH⟩:=X0.out.box
   go_wp2_with fail
   refine(Xn.out _).mono ?_;rintro e w' ⟨rfl,rfl⟩;clear c0 c1 c2 c3 XH;have Vb:=Z' (HD.out.trans (YL.out (by decide) Ze.out Xy.out));obtain⟨⟨c0,c1,c2,c3⟩,_,PS⟩:=X0.out.box
   go_wp2_with (at_builtin;first
    |(refine wU stR rfl _ _ rfl w.heap.size _ _ _ rfl XL.out _ 1 _ _ rfl rfl rfl rfl (by omega) (by unfold maxLen;omega) Ys.out.size ?_;intro v4 w4 ZD Xd Y1;have Vw:=Z' ZD;have YY:=Z' (Ys.out.trans Y1);clear ZD Xd Y1))
   go_roundg (n-(p+1))
   case measure=>omega
   case rel=>exact⟨p+1,fuel,m+1,acc++[⟨p,o,ra,rb⟩],by omega,rfl,by go_num,by omega,by omega,Z' (by rw[List.flatMap_append];exact Vw.out),Z' (fun r hr=>by
    rcases List.mem_append.1 hr with h|h
    ·exact HW.out r h
    rw[List.mem_singleton.1 h];exact WK.out),YY,Vb⟩
  ·have HV:Hid ((yi bs ((p:Int)+1) 1).1=yv bs p 2):=Z' rfl;have HU:=Z' (vz bs ((p:Int)+1) 1);have YA:=vF bs ((p:Int)+1) 1 1 (by decide) (by decide);have HC:=Z' (fun w' (h:Below w.heap.size w w')=>tp w' (some ⟨b,off,none⟩) n cap bs ((p:Int)+1) 1 (HS.out.below h) (by omega) Zv (by unfold yw;omega) (by unfold yw;omega));rw[HV.out]at HC HU YA;generalize(yi bs ((p:Int)+1) 1).2=e2 at*;have Zi:Hid (yB bs p 2=yv bs p 2):=Z' (by unfold yB;simp);have YT:Hid (yt bs p 2=0):=Z' (by unfold yt;simp);have Yk:Hid (xz bs p 2=false):=Z' (by unfold xz;simp);obtain⟨ra,Yw⟩:∃x,x=yB bs p 2:=⟨_,rfl⟩;obtain⟨rb,We⟩:∃y,y=yt bs p 2:=⟨_,rfl⟩;rw[<-Yw]at Zi YL WK;rw[<-We]at YT YL;obtain rfl:s=2:=YS.out;clear Yw We HV T6;generalize yv bs p 2=v at*;rw[show((256^1:Nat):Int)=256 from rfl]at YA;have WB:=HU.out.1;by_cases h1:n-p<2
   ·have HQ:=Z' (show R=(6,[]) by rw[HR.out];exact uB H4.out (by rw[HD.out];exact Wn.out (by decide) h1) (by decide));have Uf:decide ((n:Int) -p<2)=true:=by simp;omega
    clear Wn Yx YL
    go_wp2_with fail
    go_ret2;exact vX.err HQ.out UK.out
   have Uf:decide ((n:Int) -p<2)=false:=by simp;omega
   have Ze:=Z' h1;have U1:p+2<=n:=by omega
   clear h1
   go_wp2_with fail
   refine(HC.out _ UK.out).mono ?_;rintro e w' ⟨rfl,rfl⟩
   go_wp2_with fail
   refine(Xn.out _).mono ?_;rintro e w' ⟨rfl,rfl⟩
   go_upto_region 27 with fail
   have X0:=Z' (show xL (W.setCell ⟨g,2,none⟩ (.int .i64 v)) g p o ra rb by rw[Zi.out,YT.out];exact Xm.out.set2);have Wf:=Z9 (Below g wr (W.setCell ⟨g,2,none⟩ (.int .i64 v))) (U'.out.setCell (p:=⟨g,2,none⟩) Z5 _);clear c0 c1 c2 c3 f2 f3;generalize(W.setCell ⟨g,2,none⟩ (.int .i64 v))=X at*;have Ys:=Z' (HB.out.trans (Wf.out.mono (by rw[<-T0.out];exact HB.out.size)));have XL:=Z' (wE HO.out (by rw[T0.out];exact Wf.out));clear Xm U';have Xy:=Z' Yk.out;obtain⟨⟨c0,c1,c2,c3⟩,_,XH⟩:=X0.out.box
   go_wp2_with fail
   refine(Xn.out _).mono ?_;rintro e w' ⟨rfl,rfl⟩;clear c0 c1 c2 c3 XH;have Vb:=Z' (HD.out.trans (YL.out (by decide) Ze.out Xy.out));obtain⟨⟨c0,c1,c2,c3⟩,_,PS⟩:=X0.out.box
   go_wp2_with (at_builtin;first
    |(refine wU stR rfl _ _ rfl w.heap.size _ _ _ rfl XL.out _ 1 _ _ rfl rfl rfl rfl (by omega) (by unfold maxLen;omega) Ys.out.size ?_;intro v4 w4 ZD Xd Y1;have Vw:=Z' ZD;have YY:=Z' (Ys.out.trans Y1);clear ZD Xd Y1))
   go_roundg (n-(p+2))
   case measure=>omega
   case rel=>exact⟨p+2,fuel,m+1,acc++[⟨p,o,ra,rb⟩],by omega,rfl,by go_num,by omega,by omega,Z' (by rw[List.flatMap_append];exact Vw.out),Z' (fun r hr=>by
    rcases List.mem_append.1 hr with h|h
    ·exact HW.out r h
    rw[List.mem_singleton.1 h];exact WK.out),YY,Vb⟩
  ·have HV:Hid ((yi bs ((p:Int)+1) 1).1=yv bs p 3):=Z' rfl;have HU:=Z' (vz bs ((p:Int)+1) 1);have YA:=vF bs ((p:Int)+1) 1 1 (by decide) (by decide);have HC:=Z' (fun w' (h:Below w.heap.size w w')=>tp w' (some ⟨b,off,none⟩) n cap bs ((p:Int)+1) 1 (HS.out.below h) (by omega) Zv (by unfold yw;omega) (by unfold yw;omega));rw[HV.out]at HC HU YA;generalize(yi bs ((p:Int)+1) 1).2=e2 at*;have Zi:Hid (yB bs p 3=yu (yv bs p 3) 1):=Z' (by unfold yB;simp);have YT:Hid (yt bs p 3=0):=Z' (by unfold yt;simp);have Yk:Hid (xz bs p 3=false):=Z' (by unfold xz;simp);obtain⟨ra,Yw⟩:∃x,x=yB bs p 3:=⟨_,rfl⟩;obtain⟨rb,We⟩:∃y,y=yt bs p 3:=⟨_,rfl⟩;rw[<-Yw]at Zi YL WK;rw[<-We]at YT YL;obtain rfl:s=2:=YS.out;clear Yw We HV T6;generalize yv bs p 3=v at*;rw[show((256^1:Nat):Int)=256 from rfl]at YA;have WB:=HU.out.1;by_cases h1:n-p<2
   ·have HQ:=Z' (show R=(6,[]) by rw[HR.out];exact uB H4.out (by rw[HD.out];exact Wn.out (by decide) h1) (by decide));have Uf:decide ((n:Int) -p<2)=true:=by simp;omega
    clear Wn Yx YL
    go_wp2_with fail
    go_ret2;exact vX.err HQ.out UK.out
   have Uf:decide ((n:Int) -p<2)=false:=by simp;omega
   have Ze:=Z' h1;have U1:p+2<=n:=by omega
   clear h1
   go_wp2_with fail
   refine(HC.out _ UK.out).mono ?_;rintro e w' ⟨rfl,rfl⟩
   go_wp2_with fail
   refine(Xn.out _).mono ?_;rintro e w' ⟨rfl,rfl⟩;have S9:=Z' (fun w'=>pK w' v 1 HU.out (by unfold yw;omega));have Xe:=q9 v
   go_wp2_with fail
   refine(S9.out _).mono ?_;rintro e w' ⟨rfl,rfl⟩
   go_upto_region 27 with fail
   have X0:=Z' (show xL (W.setCell ⟨g,2,none⟩ (.int .i64 (yu v 1))) g p o ra rb by rw[Zi.out,YT.out];exact Xm.out.set2);have Wf:=Z9 (Below g wr (W.setCell ⟨g,2,none⟩ (.int .i64 (yu v 1)))) (U'.out.setCell (p:=⟨g,2,none⟩) Z5 _);clear c0 c1 c2 c3 f2 f3;generalize(W.setCell ⟨g,2,none⟩ (.int .i64 (yu v 1)))=X at*;have Ys:=Z' (HB.out.trans (Wf.out.mono (by rw[<-T0.out];exact HB.out.size)));have XL:=Z' (wE HO.out (by rw[T0.out];exact Wf.out));clear Xm U';have Xy:=Z' Yk.out;obtain⟨⟨c0,c1,c2,c3⟩,_,XH⟩:=X0.out.box
   go_wp2_with fail
   refine(Xn.out _).mono ?_;rintro e w' ⟨rfl,rfl⟩;clear c0 c1 c2 c3 XH;have Vb:=Z' (HD.out.trans (YL.out (by decide) Ze.out Xy.out));obtain⟨⟨c0,c1,c2,c3⟩,_,PS⟩:=X0.out.box
   go_wp2_with (at_builtin;first
    |(refine wU stR rfl _ _ rfl w.heap.size _ _ _ rfl XL.out _ 1 _ _ rfl rfl rfl rfl (by omega) (by unfold maxLen;omega) Ys.out.size ?_;intro v4 w4 ZD Xd Y1;have Vw:=Z' ZD;have YY:=Z' (Ys.out.trans Y1);clear ZD Xd Y1))
   go_roundg (n-(p+2))
   case measure=>omega
   case rel=>exact⟨p+2,fuel,m+1,acc++[⟨p,o,ra,rb⟩],by omega,rfl,by go_num,by omega,by omega,Z' (by rw[List.flatMap_append];exact Vw.out),Z' (fun r hr=>by
    rcases List.mem_append.1 hr with h|h
    ·exact HW.out r h
    rw[List.mem_singleton.1 h];exact WK.out),YY,Vb⟩
  ·have HV:Hid ((yi bs ((p:Int)+1) 2).1=yv bs p 4):=Z' rfl;have HU:=Z' (vz bs ((p:Int)+1) 2);have YA:=vF bs ((p:Int)+1) 2 2 (by decide) (by decide);have HC:=Z' (fun w' (h:Below w.heap.size w w')=>tp w' (some ⟨b,off,none⟩) n cap bs ((p:Int)+1) 2 (HS.out.below h) (by omega) Zv (by unfold yw;omega) (by unfold yw;omega));rw[HV.out]at HC HU YA;generalize(yi bs ((p:Int)+1) 2).2=e2 at*;have Zi:Hid (yB bs p 4=yu (yv bs p 4) 2):=Z' (by unfold yB;simp);have YT:Hid (yt bs p 4=0):=Z' (by unfold yt;simp);have Yk:Hid (xz bs p 4=false):=Z' (by unfold xz;simp);obtain⟨ra,Yw⟩:∃x,x=yB bs p 4:=⟨_,rfl⟩;obtain⟨rb,We⟩:∃y,y=yt bs p 4:=⟨_,rfl⟩;rw[<-Yw]at Zi YL WK;rw[<-We]at YT YL;obtain rfl:s=3:=YS.out;clear Yw We HV T6;generalize yv bs p 4=v at*;rw[show((256^2:Nat):Int)=65536 from rfl]at YA;have WB:=HU.out.1;by_cases h1:n-p<3
   ·have HQ:=Z' (show R=(6,[]) by rw[HR.out];exact uB H4.out (by rw[HD.out];exact Wn.out (by decide) h1) (by decide));have Uf:decide ((n:Int) -p<3)=true:=by simp;omega
    clear Wn Yx YL
    go_wp2_with fail
    go_ret2;exact vX.err HQ.out UK.out
   have Uf:decide ((n:Int) -p<3)=false:=by simp;omega
   have Ze:=Z' h1;have U1:p+3<=n:=by omega
   clear h1
   go_wp2_with fail
   refine(HC.out _ UK.out).mono ?_;rintro e w' ⟨rfl,rfl⟩
   go_wp2_with fail
   refine(Xn.out _).mono ?_;rintro e w' ⟨rfl,rfl⟩;have S9:=Z' (fun w'=>pK w' v 2 HU.out (by unfold yw;omega));have Xe:=qk v
   go_wp2_with fail
   refine(S9.out _).mono ?_;rintro e w' ⟨rfl,rfl⟩
   go_upto_region 27 with fail
   have X0:=Z' (show xL (W.setCell ⟨g,2,none⟩ (.int .i64 (yu v 2))) g p o ra rb by rw[Zi.out,YT.out];exact Xm.out.set2);have Wf:=Z9 (Below g wr (W.setCell ⟨g,2,none⟩ (.int .i64 (yu v 2)))) (U'.out.setCell (p:=⟨g,2,none⟩) Z5 _);clear c0 c1 c2 c3 f2 f3;generalize(W.setCell ⟨g,2,none⟩ (.int .i64 (yu v 2)))=X at*;have Ys:=Z' (HB.out.trans (Wf.out.mono (by rw[<-T0.out];exact HB.out.size)));have XL:=Z' (wE HO.out (by rw[T0.out];exact Wf.out));clear Xm U';have Xy:=Z' Yk.out;obtain⟨⟨c0,c1,c2,c3⟩,_,XH⟩:=X0.out.box
   go_wp2_with fail
   refine(Xn.out _).mono ?_;rintro e w' ⟨rfl,rfl⟩;clear c0 c1 c2 c3 XH;have Vb:=Z' (HD.out.trans (YL.out (by decide) Ze.out Xy.out));obtain⟨⟨c0,c1,c2,c3⟩,_,PS⟩:=X0.out.box
   go_wp2_with (at_builtin;first
    |(refine wU stR rfl _ _ rfl w.heap.size _ _ _ rfl XL.out _ 1 _ _ rfl rfl rfl rfl (by omega) (by unfold maxLen;omega) Ys.out.size ?_;intro v4 w4 ZD Xd Y1;have Vw:=Z' ZD;have YY:=Z' (Ys.out.trans Y1);clear ZD Xd Y1))
   go_roundg (n-(p+3))
   case measure=>omega
   case rel=>exact⟨p+3,fuel,m+1,acc++[⟨p,o,ra,rb⟩],by omega,rfl,by go_num,by omega,by omega,Z' (by rw[List.flatMap_append];exact Vw.out),Z' (fun r hr=>by
    rcases List.mem_append.1 hr with h|h
    ·exact HW.out r h
    rw[List.mem_singleton.1 h];exact WK.out),YY,Vb⟩
  ·have HV:Hid ((yi bs ((p:Int)+1) 1).1=yv bs p 5):=Z' rfl;have HU:=Z' (vz bs ((p:Int)+1) 1);have YA:=vF bs ((p:Int)+1) 1 1 (by decide) (by decide);have HC:=Z' (fun w' (h:Below w.heap.size w w')=>tp w' (some ⟨b,off,none⟩) n cap bs ((p:Int)+1) 1 (HS.out.below h) (by omega) Zv (by unfold yw;omega) (by unfold yw;omega));rw[HV.out]at HC HU YA;generalize(yi bs ((p:Int)+1) 1).2=e2 at*;have Zi:Hid (yB bs p 5=yv bs p 5):=Z' (by unfold yB;simp);have YT:Hid (yt bs p 5=0):=Z' (by unfold yt;simp);have Yk:Hid (xz bs p 5=false):=Z' (by unfold xz;simp);obtain⟨ra,Yw⟩:∃x,x=yB bs p 5:=⟨_,rfl⟩;obtain⟨rb,We⟩:∃y,y=yt bs p 5:=⟨_,rfl⟩;rw[<-Yw]at Zi YL WK;rw[<-We]at YT YL;obtain rfl:s=2:=YS.out;clear Yw We HV T6;generalize yv bs p 5=v at*;rw[show((256^1:Nat):Int)=256 from rfl]at YA;have WB:=HU.out.1;by_cases h1:n-p<2
   ·have HQ:=Z' (show R=(6,[]) by rw[HR.out];exact uB H4.out (by rw[HD.out];exact Wn.out (by decide) h1) (by decide));have Uf:decide ((n:Int) -p<2)=true:=by simp;omega
    clear Wn Yx YL
    go_wp2_with fail
    go_ret2;exact vX.err HQ.out UK.out
   have Uf:decide ((n:Int) -p<2)=false:=by simp;omega
   have Ze:=Z' h1;have U1:p+2<=n:=by omega
   clear h1
   go_wp2_with fail
   refine(HC.out _ UK.out).mono ?_;rintro e w' ⟨rfl,rfl⟩
   go_wp2_with fail
   refine(Xn.out _).mono ?_;rintro e w' ⟨rfl,rfl⟩
   go_upto_region 27 with fail
   have X0:=Z' (show xL (W.setCell ⟨g,2,none⟩ (.int .i64 v)) g p o ra rb by rw[Zi.out,YT.out];exact Xm.out.set2);have Wf:=Z9 (Below g wr (W.setCell ⟨g,2,none⟩ (.int .i64 v))) (U'.out.setCell (p:=⟨g,2,none⟩) Z5 _);clear c0 c1 c2 c3 f2 f3;generalize(W.setCell ⟨g,2,none⟩ (.int .i64 v))=X at*;have Ys:=Z' (HB.out.trans (Wf.out.mono (by rw[<-T0.out];exact HB.out.size)));have XL:=Z' (wE HO.out (by rw[T0.out];exact Wf.out));clear Xm U';have Xy:=Z' Yk.out;obtain⟨⟨c0,c1,c2,c3⟩,_,XH⟩:=X0.out.box
   go_wp2_with fail
   refine(Xn.out _).mono ?_;rintro e w' ⟨rfl,rfl⟩;clear c0 c1 c2 c3 XH;have Vb:=Z' (HD.out.trans (YL.out (by decide) Ze.out Xy.out));obtain⟨⟨c0,c1,c2,c3⟩,_,PS⟩:=X0.out.box
   go_wp2_with (at_builtin;first
    |(refine wU stR rfl _ _ rfl w.heap.size _ _ _ rfl XL.out _ 1 _ _ rfl rfl rfl rfl (by omega) (by unfold maxLen;omega) Ys.out.size ?_;intro v4 w4 ZD Xd Y1;have Vw:=Z' ZD;have YY:=Z' (Ys.out.trans Y1);clear ZD Xd Y1))
   go_roundg (n-(p+2))
   case measure=>omega
   case rel=>exact⟨p+2,fuel,m+1,acc++[⟨p,o,ra,rb⟩],by omega,rfl,by go_num,by omega,by omega,Z' (by rw[List.flatMap_append];exact Vw.out),Z' (fun r hr=>by
    rcases List.mem_append.1 hr with h|h
    ·exact HW.out r h
    rw[List.mem_singleton.1 h];exact WK.out),YY,Vb⟩
  ·have HV:Hid ((yi bs ((p:Int)+1) 2).1=yv bs p 6):=Z' rfl;have HU:=Z' (vz bs ((p:Int)+1) 2);have YA:=vF bs ((p:Int)+1) 2 2 (by decide) (by decide);have HC:=Z' (fun w' (h:Below w.heap.size w w')=>tp w' (some ⟨b,off,none⟩) n cap bs ((p:Int)+1) 2 (HS.out.below h) (by omega) Zv (by unfold yw;omega) (by unfold yw;omega));rw[HV.out]at HC HU YA;generalize(yi bs ((p:Int)+1) 2).2=e2 at*;have Zi:Hid (yB bs p 6=yv bs p 6):=Z' (by unfold yB;simp);have YT:Hid (yt bs p 6=0):=Z' (by unfold yt;simp);have Yk:Hid (xz bs p 6=false):=Z' (by unfold xz;simp);obtain⟨ra,Yw⟩:∃x,x=yB bs p 6:=⟨_,rfl⟩;obtain⟨rb,We⟩:∃y,y=yt bs p 6:=⟨_,rfl⟩;rw[<-Yw]at Zi YL WK;rw[<-We]at YT YL;obtain rfl:s=3:=YS.out;clear Yw We HV T6;generalize yv bs p 6=v at*;rw[show((256^2:Nat):Int)=65536 from rfl]at YA;have WB:=HU.out.1;by_cases h1:n-p<3
   ·have HQ:=Z' (show R=(6,[]) by rw[HR.out];exact uB H4.out (by rw[HD.out];exact Wn.out (by decide) h1) (by decide));have Uf:decide ((n:Int) -p<3)=true:=by simp;omega
    clear Wn Yx YL
    go_wp2_with fail
    go_ret2;exact vX.err HQ.out UK.out
   have Uf:decide ((n:Int) -p<3)=false:=by simp;omega
   have Ze:=Z' h1;have U1:p+3<=n:=by omega
   clear h1
   go_wp2_with fail
   refine(HC.out _ UK.out).mono ?_;rintro e w' ⟨rfl,rfl⟩
   go_wp2_with fail
   refine(Xn.out _).mono ?_;rintro e w' ⟨rfl,rfl⟩
   go_upto_region 27 with fail
   have X0:=Z' (show xL (W.setCell ⟨g,2,none⟩ (.int .i64 v)) g p o ra rb by rw[Zi.out,YT.out];exact Xm.out.set2);have Wf:=Z9 (Below g wr (W.setCell ⟨g,2,none⟩ (.int .i64 v))) (U'.out.setCell (p:=⟨g,2,none⟩) Z5 _);clear c0 c1 c2 c3 f2 f3;generalize(W.setCell ⟨g,2,none⟩ (.int .i64 v))=X at*;have Ys:=Z' (HB.out.trans (Wf.out.mono (by rw[<-T0.out];exact HB.out.size)));have XL:=Z' (wE HO.out (by rw[T0.out];exact Wf.out));clear Xm U';have Xy:=Z' Yk.out;obtain⟨⟨c0,c1,c2,c3⟩,_,XH⟩:=X0.out.box
   go_wp2_with fail
   refine(Xn.out _).mono ?_;rintro e w' ⟨rfl,rfl⟩;clear c0 c1 c2 c3 XH;have Vb:=Z' (HD.out.trans (YL.out (by decide) Ze.out Xy.out));obtain⟨⟨c0,c1,c2,c3⟩,_,PS⟩:=X0.out.box
   go_wp2_with (at_builtin;first
    |(refine wU stR rfl _ _ rfl w.heap.size _ _ _ rfl XL.out _ 1 _ _ rfl rfl rfl rfl (by omega) (by unfold maxLen;omega) Ys.out.size ?_;intro v4 w4 ZD Xd Y1;have Vw:=Z' ZD;have YY:=Z' (Ys.out.trans Y1);clear ZD Xd Y1))
   go_roundg (n-(p+3))
   case measure=>omega
   case rel=>exact⟨p+3,fuel,m+1,acc++[⟨p,o,ra,rb⟩],by omega,rfl,by go_num,by omega,by omega,Z' (by rw[List.flatMap_append];exact Vw.out),Z' (fun r hr=>by
    rcases List.mem_append.1 hr with h|h
    ·exact HW.out r h
    rw[List.mem_singleton.1 h];exact WK.out),YY,Vb⟩
  ·have HV:Hid ((yi bs ((p:Int)+1) 2).1=yv bs p 7):=Z' rfl;have HU:=Z' (vz bs ((p:Int)+1) 2);have YA:=vF bs ((p:Int)+1) 2 2 (by decide) (by decide);have HC:=Z' (fun w' (h:Below w.heap.size w w')=>tp w' (some ⟨b,off,none⟩) n cap bs ((p:Int)+1) 2 (HS.out.below h) (by omega) Zv (by unfold yw;omega) (by unfold yw;omega));rw[HV.out]at HC HU YA;generalize(yi bs ((p:Int)+1) 2).2=e2 at*;have Zi:Hid (yB bs p 7=(p:Int)+yu (yv bs p 7) 2):=Z' (by unfold yB;simp);have YT:Hid (yt bs p 7=0):=Z' (by unfold yt;simp);have Yk:Hid (xz bs p 7=false):=Z' (by unfold xz;simp);obtain⟨ra,Yw⟩:∃x,x=yB bs p 7:=⟨_,rfl⟩;obtain⟨rb,We⟩:∃y,y=yt bs p 7:=⟨_,rfl⟩;rw[<-Yw]at Zi YL WK;rw[<-We]at YT YL;obtain rfl:s=3:=YS.out;clear Yw We HV T6;generalize yv bs p 7=v at*;rw[show((256^2:Nat):Int)=65536 from rfl]at YA;have WB:=HU.out.1;by_cases h1:n-p<3
   ·have HQ:=Z' (show R=(6,[]) by rw[HR.out];exact uB H4.out (by rw[HD.out];exact Wn.out (by decide) h1) (by decide));have Uf:decide ((n:Int) -p<3)=true:=by simp;omega
    clear Wn Yx YL
    go_wp2_with fail
    go_ret2;exact vX.err HQ.out UK.out
   have Uf:decide ((n:Int) -p<3)=false:=by simp;omega
   have Ze:=Z' h1;have U1:p+3<=n:=by omega
   clear h1
   go_wp2_with fail
   refine(HC.out _ UK.out).mono ?_;rintro e w' ⟨rfl,rfl⟩
   go_wp2_with fail
   refine(Xn.out _).mono ?_;rintro e w' ⟨rfl,rfl⟩;have S9:=Z' (fun w'=>pK w' v 2 HU.out (by unfold yw;omega));have Xe:=qk v
   go_wp2_with fail
   refine(S9.out _).mono ?_;rintro e w' ⟨rfl,rfl⟩
   go_upto_region 27 with fail
   have X0:=Z' (show xL (W.setCell ⟨g,2,none⟩ (.int .i64 ((p:Int)+yu v 2))) g p o ra rb by rw[Zi.out,YT.out];exact Xm.out.set2);have Wf:=Z9 (Below g wr (W.setCell ⟨g,2,none⟩ (.int .i64 ((p:Int)+yu v 2)))) (U'.out.setCell (p:=⟨g,2,none⟩) Z5 _);clear c0 c1 c2 c3 f2 f3;generalize(W.setCell ⟨g,2,none⟩ (.int .i64 ((p:Int)+yu v 2)))=X at*;have Ys:=Z' (HB.out.trans (Wf.out.mono (by rw[<-T0.out];exact HB.out.size)));have XL:=Z' (wE HO.out (by rw[T0.out];exact Wf.out));clear Xm U';have Xy:=Z' Yk.out;obtain⟨⟨c0,c1,c2,c3⟩,_,XH⟩:=X0.out.box
   go_wp2_with fail
   refine(Xn.out _).mono ?_;rintro e w' ⟨rfl,rfl⟩;clear c0 c1 c2 c3 XH;have Vb:=Z' (HD.out.trans (YL.out (by decide) Ze.out Xy.out));obtain⟨⟨c0,c1,c2,c3⟩,_,PS⟩:=X0.out.box
   go_wp2_with (at_builtin;first
    |(refine wU stR rfl _ _ rfl w.heap.size _ _ _ rfl XL.out _ 1 _ _ rfl rfl rfl rfl (by omega) (by unfold maxLen;omega) Ys.out.size ?_;intro v4 w4 ZD Xd Y1;have Vw:=Z' ZD;have YY:=Z' (Ys.out.trans Y1);clear ZD Xd Y1))
   go_roundg (n-(p+3))
   case measure=>omega
   case rel=>exact⟨p+3,fuel,m+1,acc++[⟨p,o,ra,rb⟩],by omega,rfl,by go_num,by omega,by omega,Z' (by rw[List.flatMap_append];exact Vw.out),Z' (fun r hr=>by
    rcases List.mem_append.1 hr with h|h
    ·exact HW.out r h
    rw[List.mem_singleton.1 h];exact WK.out),YY,Vb⟩
  ·have HV:Hid ((yi bs ((p:Int)+1) 2).1=yv bs p 8):=Z' rfl;have HU:=Z' (vz bs ((p:Int)+1) 2);have YA:=vF bs ((p:Int)+1) 2 2 (by decide) (by decide);have HC:=Z' (fun w' (h:Below w.heap.size w w')=>tp w' (some ⟨b,off,none⟩) n cap bs ((p:Int)+1) 2 (HS.out.below h) (by omega) Zv (by unfold yw;omega) (by unfold yw;omega));rw[HV.out]at HC HU YA;generalize(yi bs ((p:Int)+1) 2).2=e2 at*;have Zi:Hid (yB bs p 8=yv bs p 8/256):=Z' (by unfold yB;simp);have YT:Hid (yt bs p 8=yu (yv bs p 8) 1):=Z' (by unfold yt;simp);have Yk:Hid (xz bs p 8=false):=Z' (by unfold xz;simp);obtain⟨ra,Yw⟩:∃x,x=yB bs p 8:=⟨_,rfl⟩;obtain⟨rb,We⟩:∃y,y=yt bs p 8:=⟨_,rfl⟩;rw[<-Yw]at Zi YL WK;rw[<-We]at YT YL;obtain rfl:s=3:=YS.out;clear Yw We HV T6;generalize yv bs p 8=v at*;rw[show((256^2:Nat):Int)=65536 from rfl]at YA;have WB:=HU.out.1;by_cases h1:n-p<3
   ·have HQ:=Z' (show R=(6,[]) by rw[HR.out];exact uB H4.out (by rw[HD.out];exact Wn.out (by decide) h1) (by decide));have Uf:decide ((n:Int) -p<3)=true:=by simp;omega
    clear Wn Yx YL
    go_wp2_with fail
    go_ret2;exact vX.err HQ.out UK.out
   have Uf:decide ((n:Int) -p<3)=false:=by simp;omega
   have Ze:=Z' h1;have U1:p+3<=n:=by omega
   clear h1
   go_wp2_with fail
   refine(HC.out _ UK.out).mono ?_;rintro e w' ⟨rfl,rfl⟩
   go_wp2_with fail
   refine(Xn.out _).mono ?_;rintro e w' ⟨rfl,rfl⟩;have S9:=Z' (fun w'=>pK w' v 1 HU.out (by unfold yw;omega));have Xe:=q9 v
   go_wp2_with fail
   refine(S9.out _).mono ?_;rintro e w' ⟨rfl,rfl⟩
   go_upto_region 27 with fail
   have X0:=Z' (show xL ((W.setCell ⟨g,2,none⟩ (.int .i64 (v/256))).setCell ⟨g,3,none⟩ (.int .i64 (yu v 1))) g p o ra rb by rw[Zi.out,YT.out];exact Xm.out.set2.set3);have Wf:=Z9 (Below g wr ((W.setCell ⟨g,2,none⟩ (.int .i64 (v/256))).setCell ⟨g,3,none⟩ (.int .i64 (yu v 1)))) ((U'.out.setCell (p:=⟨g,2,none⟩) Z5 _).setCell (p:=⟨g,3,none⟩) Z5 _);clear c0 c1 c2 c3 f2 f3;generalize((W.setCell ⟨g,2,none⟩ (.int .i64 (v/256))).setCell ⟨g,3,none⟩ (.int .i64 (yu v 1)))=X at*;have Ys:=Z' (HB.out.trans (Wf.out.mono (by rw[<-T0.out];exact HB.out.size)));have XL:=Z' (wE HO.out (by rw[T0.out];exact Wf.out));clear Xm U';have Xy:=Z' Yk.out;obtain⟨⟨c0,c1,c2,c3⟩,_,XH⟩:=X0.out.box
   go_wp2_with fail
   refine(Xn.out _).mono ?_;rintro e w' ⟨rfl,rfl⟩;clear c0 c1 c2 c3 XH;have Vb:=Z' (HD.out.trans (YL.out (by decide) Ze.out Xy.out));obtain⟨⟨c0,c1,c2,c3⟩,_,PS⟩:=X0.out.box
   go_wp2_with (at_builtin;first
    |(refine wU stR rfl _ _ rfl w.heap.size _ _ _ rfl XL.out _ 1 _ _ rfl rfl rfl rfl (by omega) (by unfold maxLen;omega) Ys.out.size ?_;intro v4 w4 ZD Xd Y1;have Vw:=Z' ZD;have YY:=Z' (Ys.out.trans Y1);clear ZD Xd Y1))
   go_roundg (n-(p+3))
   case measure=>omega
   case rel=>exact⟨p+3,fuel,m+1,acc++[⟨p,o,ra,rb⟩],by omega,rfl,by go_num,by omega,by omega,Z' (by rw[List.flatMap_append];exact Vw.out),Z' (fun r hr=>by
    rcases List.mem_append.1 hr with h|h
    ·exact HW.out r h
    rw[List.mem_singleton.1 h];exact WK.out),YY,Vb⟩
  have HV:Hid ((yi bs ((p:Int)+1) 1).1=yv bs p 9):=Z' rfl;have HU:=Z' (vz bs ((p:Int)+1) 1);have YA:=vF bs ((p:Int)+1) 1 1 (by decide) (by decide);have HC:=Z' (fun w' (h:Below w.heap.size w w')=>tp w' (some ⟨b,off,none⟩) n cap bs ((p:Int)+1) 1 (HS.out.below h) (by omega) Zv (by unfold yw;omega) (by unfold yw;omega));rw[HV.out]at HC HU YA;generalize(yi bs ((p:Int)+1) 1).2=e2 at*;have Zi:Hid (yB bs p 9=yv bs p 9):=Z' (by unfold yB;simp);have YT:Hid (yt bs p 9=0):=Z' (by unfold yt;simp);have Yk:Hid (xz bs p 9=(!(yB bs p 9==8)&& !(yB bs p 9==10))):=Z' (by unfold xz;simp);obtain⟨ra,Yw⟩:∃x,x=yB bs p 9:=⟨_,rfl⟩;obtain⟨rb,We⟩:∃y,y=yt bs p 9:=⟨_,rfl⟩;rw[<-Yw]at Zi YL WK Yk;rw[<-We]at YT YL;obtain rfl:s=2:=YS.out;clear Yw We HV T6;generalize yv bs p 9=v at*;rw[show((256^1:Nat):Int)=256 from rfl]at YA;have WB:=HU.out.1;by_cases h1:n-p<2
  ·have HQ:=Z' (show R=(6,[]) by rw[HR.out];exact uB H4.out (by rw[HD.out];exact Wn.out (by decide) h1) (by decide));have Uf:decide ((n:Int) -p<2)=true:=by simp;omega
   clear Wn Yx YL
   go_wp2_with fail
   go_ret2;exact vX.err HQ.out UK.out
  have Uf:decide ((n:Int) -p<2)=false:=by simp;omega
  have Ze:=Z' h1;have U1:p+2<=n:=by omega
  clear h1
  go_wp2_with fail
  refine(HC.out _ UK.out).mono ?_;rintro e w' ⟨rfl,rfl⟩
  go_wp2_with fail
  refine(Xn.out _).mono ?_;rintro e w' ⟨rfl,rfl⟩
  go_upto_region 27 with fail
  have X0:=Z' (show xL (W.setCell ⟨g,2,none⟩ (.int .i64 v)) g p o ra rb by rw[Zi.out,YT.out];exact Xm.out.set2);have Wf:=Z9 (Below g wr (W.setCell ⟨g,2,none⟩ (.int .i64 v))) (U'.out.setCell (p:=⟨g,2,none⟩) Z5 _);clear c0 c1 c2 c3 f2 f3;generalize(W.setCell ⟨g,2,none⟩ (.int .i64 v))=X at*;have Ys:=Z' (HB.out.trans (Wf.out.mono (by rw[<-T0.out];exact HB.out.size)));have XL:=Z' (wE HO.out (by rw[T0.out];exact Wf.out));clear Xm U';obtain⟨⟨c0,c1,c2,c3⟩,_,XH⟩:=X0.out.box
  go_wp2_with fail
  refine(Xn.out _).mono ?_;rintro e w' ⟨rfl,rfl⟩;by_cases h8:ra=8
  ·have e8:(ra !=8)=false:=by simp[h8]
   have Xy:=Z' (show xz bs p 9=false by rw[Yk.out];simp[h8]);clear h8 Yk c0 c1 c2 c3 XH;have Vb:=Z' (HD.out.trans (YL.out (by decide) Ze.out Xy.out));obtain⟨⟨c0,c1,c2,c3⟩,_,PS⟩:=X0.out.box
   go_wp2_with (at_builtin;first
    |(refine wU stR rfl _ _ rfl w.heap.size _ _ _ rfl XL.out _ 1 _ _ rfl rfl rfl rfl (by omega) (by unfold maxLen;omega) Ys.out.size ?_;intro v4 w4 ZD Xd Y1;have Vw:=Z' ZD;have YY:=Z' (Ys.out.trans Y1);clear ZD Xd Y1))
   go_roundg (n-(p+2))
   case measure=>omega
   case rel=>exact⟨p+2,fuel,m+1,acc++[⟨p,o,ra,rb⟩],by omega,rfl,by go_num,by omega,by omega,Z' (by rw[List.flatMap_append];exact Vw.out),Z' (fun r hr=>by
    rcases List.mem_append.1 hr with h|h
    ·exact HW.out r h
    rw[List.mem_singleton.1 h];exact WK.out),YY,Vb⟩
  have e8:(ra !=8)=true:=by simp[h8]
  by_cases X1:ra=10
  ·have MY:(ra !=10)=false:=by simp[X1]
   have Xy:=Z' (show xz bs p 9=false by rw[Yk.out];simp[X1]);clear h8 X1 Yk c0 c1 c2 c3 XH;have Vb:=Z' (HD.out.trans (YL.out (by decide) Ze.out Xy.out));obtain⟨⟨c0,c1,c2,c3⟩,_,PS⟩:=X0.out.box
   go_wp2_with (at_builtin;first
    |(refine wU stR rfl _ _ rfl w.heap.size _ _ _ rfl XL.out _ 1 _ _ rfl rfl rfl rfl (by omega) (by unfold maxLen;omega) Ys.out.size ?_;intro v4 w4 ZD Xd Y1;have Vw:=Z' ZD;have YY:=Z' (Ys.out.trans Y1);clear ZD Xd Y1))
   go_roundg (n-(p+2))
   case measure=>omega
   case rel=>exact⟨p+2,fuel,m+1,acc++[⟨p,o,ra,rb⟩],by omega,rfl,by go_num,by omega,by omega,Z' (by rw[List.flatMap_append];exact Vw.out),Z' (fun r hr=>by
    rcases List.mem_append.1 hr with h|h
    ·exact HW.out r h
    rw[List.mem_singleton.1 h];exact WK.out),YY,Vb⟩
  have MY:(ra !=10)=true:=by simp[X1]
  have HQ:=Z' (show R=(8,[]) by rw[HR.out];exact uB H4.out (by rw[HD.out];exact Yx.out (by decide) Ze.out (by rw[Yk.out];simp[h8,X1])) (by decide));clear h8 X1 Yk
  go_wp2_with fail
  go_ret2;exact vX.err HQ.out Ys.out
 obtain rfl:p=n:=by omega
 have Lc:=Z' (HD.out.trans (qt bs fuel p acc (by rw[Zd.out];exact Nat.le_refl _)));obtain⟨va,vc,rfl,NB,SH⟩:=Ss.ofOwn RW.cells_length (by decide) HO.out;have HG:=Z' (fun w' (hb:Below wr.heap.size wr w')=>bN w' va m vc acc (Rs.below NB hb) (by omega) (fun r hr=>(HW.out r hr).2.2));clear NB
 go_wp2_with fail
 refine(HG.out _ Z6).mono ?_;rintro e w3 ⟨rfl,Zn⟩;have ZG:=Z7 HB Zn;have VX:=Z' (wE HO.out Zn);clear Zn
 cases hg:wL acc
 ·have HQ:=Z' (show R=(2,[]) by rw[HR.out];exact jN H4.out Lc.out hg);clear hg
  go_wp2_with fail
  go_ret2;exact vX.err HQ.out ZG.out
 have HQ:=Z' (show R=(0,acc) by rw[HR.out];exact mR H4.out Lc.out hg);clear hg
 go_wp2_with fail
 go_ret2;exact⟨_,m,by rw[HQ.out];rfl,by rw[HQ.out];exact VX.out,by rw[HQ.out];exact HW.out,ZG.out⟩
end
section
open Go.RowKit
theorem gU(x n:Nat):yg (x%256^n) n=yg x n:=by
 have h:=fh (yg x n);rw[sW,vh]at h;exact h
theorem sA{x y n:Nat}(h:x%256^n=y%256^n):yg x n=yg y n:=by
 rw[<-gU x n,h,gU]
theorem fk(bs:List UInt8)(p f:Nat)(hf:2<=yC f)(h3:yC f<=3)(h:p+yC f<=bs.length):yv bs p f=((vR ((bs.drop (p+1)).take (yC f-1)):Nat):Int):=by
 unfold yv;have hm:max (yC f-1) 1=yC f-1:=by omega
 rw[hm];unfold yi;rw[if_neg (by omega),if_neg (by omega)];simp only;rw[show((p:Int)+1).toNat=p+1 by omega,Int.toNat_natCast]
theorem D9g(bs:List UInt8)(p s:Nat)(h:p+s<=bs.length):((bs.drop (p+1)).take (s-1)).length=s-1:=by
 simp;omega
theorem E3p(bs:List UInt8)(p s:Nat)(hs:1<=s)(h:p+s<=bs.length):(bs.drop p).take s=[UInt8.ofNat (yK bs p)]++(bs.drop (p+1)).take (s-1):=by
 have hp:p<bs.length:=by omega
 have e:UInt8.ofNat (yK bs p)=bs[p]:=by
  unfold yK;simp[List.getD,hp]
 obtain⟨k,rfl⟩:∃k,s=k+1:=⟨s-1,by omega⟩;rw[e,List.drop_eq_getElem_cons hp,List.take_succ_cons];rfl
theorem E4c(bs:List UInt8)(p:Nat)(h0:yX (yK bs p)≠0)(h:p+yC (yX (yK bs p))<=bs.length):wC (vZ bs p)=(bs.drop p).take (yC (yX (yK bs p))):=by
 have h9:=vg (yK bs p);have h1:=rT h0 h9;rw[E3p bs p _ h1 h];have Rz:=fk bs p (yX (yK bs p));have Sy:=D9g bs p (yC (yX (yK bs p))) h;have Wd:=fh ((bs.drop (p+1)).take (yC (yX (yK bs p)) -1));have Ya:=nP ((bs.drop (p+1)).take (yC (yX (yK bs p)) -1));rw[Sy]at Wd Ya;have Zz:=qs (yX (yK bs p));unfold vZ wC;simp only;generalize yX (yK bs p)=f at*;generalize(bs.drop (p+1)).take (yC f-1)=cs at*;generalize vR cs=v at*;have R3:f=1\/f=2\/f=3\/f=4\/f=5\/f=6\/f=7\/f=8\/f=9:=by omega
 rw[show(UInt8.ofNat (yK bs p)::(if f=7 then yg (yh (yB bs p f-p)) 2 else if f=8 then yg (yh (yB bs p f)) 1++yg (yh (yt bs p f)) 1 else yg (yh (yB bs p f)) (yC f-1)))=[UInt8.ofNat (yK bs p)]++(if f=7 then yg (yh (yB bs p f-p)) 2 else if f=8 then yg (yh (yB bs p f)) 1++yg (yh (yt bs p f)) 1 else yg (yh (yB bs p f)) (yC f-1))from rfl]
 congr 1;unfold yB yt
 rcases R3 with rfl|rfl|rfl|rfl|rfl|rfl|rfl|rfl|rfl
 ·rw[<-Wd];rfl
 all_goals
  have hv:=Rz (by decide) (by decide) h
  first
   |(rw[show yC 2=2 from rfl]at Wd Ya⊢)
   |(rw[show yC 3=2 from rfl]at Wd Ya⊢)
   |(rw[show yC 4=3 from rfl]at Wd Ya⊢)
   |(rw[show yC 5=2 from rfl]at Wd Ya⊢)
   |(rw[show yC 6=3 from rfl]at Wd Ya⊢)
   |(rw[show yC 7=3 from rfl]at Wd Ya⊢)
   |(rw[show yC 8=3 from rfl]at Wd Ya⊢)
   |(rw[show yC 9=2 from rfl]at Wd Ya⊢)
  rw[hv];clear Rz hv Zz
 ·simp only[Nat.reduceSub,Nat.reducePow,reduceIte,Nat.reduceEqDiff]at Wd Ya⊢;rw[<-Wd];exact sA (by unfold yh;omega)
 ·simp only[Nat.reduceSub,Nat.reducePow,reduceIte,Nat.reduceEqDiff]at Wd Ya⊢;rw[<-Wd,show yu (v:Int) 1=((v:Int)+128)%256-128 from rfl];exact sA (by unfold yh;omega)
 ·simp only[Nat.reduceSub,Nat.reducePow,reduceIte,Nat.reduceEqDiff]at Wd Ya⊢;rw[<-Wd,show yu (v:Int) 2=((v:Int)+32768)%65536-32768 from rfl];exact sA (by unfold yh;omega)
 ·simp only[Nat.reduceSub,Nat.reducePow,reduceIte,Nat.reduceEqDiff]at Wd Ya⊢;rw[<-Wd];exact sA (by unfold yh;omega)
 ·simp only[Nat.reduceSub,Nat.reducePow,reduceIte,Nat.reduceEqDiff]at Wd Ya⊢;rw[<-Wd];exact sA (by unfold yh;omega)
 ·simp only[Nat.reduceSub,Nat.reducePow,reduceIte,Nat.reduceEqDiff]at Wd Ya⊢;rw[<-Wd,show yu (v:Int) 2=((v:Int)+32768)%65536-32768 from rfl];exact sA (by unfold yh;omega)
 ·simp only[Nat.reduceSub,Nat.reducePow,reduceIte,Nat.reduceEqDiff]at Wd Ya⊢;rw[<-Wd,show yu (v:Int) 1=((v:Int)+128)%256-128 from rfl,qz v 1];congr 1
  ·exact sA (by unfold yh;omega)
  rw[qz _ 0];simp[yg];congr 1;unfold yh;omega
 simp only[Nat.reduceSub,Nat.reducePow,reduceIte,Nat.reduceEqDiff]at Wd Ya⊢;rw[<-Wd];exact sA (by unfold yh;omega)
theorem D9y(bs:List UInt8)(p f:Nat)(hs:yC f<=2):yv bs p f<256:=by
 have h:=vF bs ((p:Int)+1) ((max (yC f-1) 1:Nat):Int) 1 (by omega) (by decide);rw[show((256^1:Nat):Int)=256 from rfl]at h;exact h
theorem D8d(bs:List UInt8)(p:Nat)(h0:yX (yK bs p)≠0)(hb:xz bs p (yX (yK bs p))=false):yz (vZ bs p) (yX (yK bs p))=true:=by
 have h9:=vg (yK bs p);have hv:=nh bs p (yX (yK bs p));have h1:=D9y bs p (yX (yK bs p));unfold vZ yz;simp only;generalize yX (yK bs p)=f at*;have R3:f=1\/f=2\/f=3\/f=4\/f=5\/f=6\/f=7\/f=8\/f=9:=by omega
 unfold xz at hb;unfold yB at hb⊢;unfold yt
 rcases R3 with rfl|rfl|rfl|rfl|rfl|rfl|rfl|rfl|rfl
 ·simp
 ·have h2:=h1 (by decide);simp;omega
 ·have h2:=q9 (yv bs p 3);simp;omega
 ·have h2:=qk (yv bs p 4);simp;omega
 ·have h2:=h1 (by decide);simp;omega
 ·simp;omega
 ·simp
 ·have h2:=q9 (yv bs p 8);simp;omega
 simp at hb⊢;by_cases h8:yv bs p 9=8
 ·exact .inl h8
 exact .inr (hb h8)
theorem cC(l:List RW)(r:RW)(k:Nat)(h:k<l.length):xd (l++[r]) k=xd l k:=by
 unfold xd;rw[List.getElem?_append_left h,List.take_append_of_le_length (by omega)]
theorem E0k(bs:List UInt8):∀(fuel p:Nat) (acc l:List RW),bs.length<fuel+p->p<=bs.length->ym acc=bs.take p->(∀k,k<acc.length->xd acc k=true)->xC bs fuel p acc=(0,l)->ym l=bs/\∀k,k<l.length->xd l k=true:=by
 intro fuel
 induction fuel with
 |zero=>intro p acc l h1 h2;omega
 |succ fuel ih=>
  intro p acc l h1 h2 he hg hd;by_cases hp:bs.length<=p
  ·rw[qt bs _ p acc hp]at hd
   cases hd
   exact⟨by rw[he,List.take_of_length_le hp],hg⟩
  have XJ:p<bs.length:=by omega
  by_cases h0:yX (yK bs p)=0
  ·rw[pg bs fuel p acc XJ h0]at hd;cases hd
  by_cases hs:bs.length-p<yC (yX (yK bs p))
  ·rw[px bs fuel p acc XJ h0 hs]at hd;cases hd
  cases hb:xz bs p (yX (yK bs p))
  ·rw[qy bs fuel p acc XJ h0 hs hb]at hd;have SF:=rT h0 (vg (yK bs p));refine ih _ _ _ (by omega) (by omega) ?_ (fun k hk=> ?_) hd
   ·unfold ym at he⊢;rw[List.flatMap_append,he];simp only[List.flatMap_cons,List.flatMap_nil,List.append_nil];rw[E4c bs p h0 (by omega),<-List.take_add]
   by_cases X7:k<acc.length
   ·rw[cC _ _ _ X7];exact hg k X7
   have Si:k=acc.length:=by simp at hk;omega
   subst Si;rw[mL (acc++[vZ bs p]) acc.length (vZ bs p) (by simp),List.take_left,he];have h3:=D8d bs p h0 hb;have h4:(vZ bs p).op=yK bs p:=rfl;rw[h4,h3];unfold vZ;simp;omega
  rw[nY bs fuel p acc XJ h0 hs hb]at hd;cases hd
theorem dt(bs:List UInt8)(l:List RW)(h:xW bs=(0,l)):xt l=(0,bs):=by
 unfold xW at h;by_cases h4:4096<bs.length
 ·rw[if_pos h4]at h;cases h
 rw[if_neg h4]at h;by_cases he:(xC bs (bs.length+1) 0 []).1≠0
 ·rw[if_pos he]at h;simp only[Prod.mk.injEq]at h;exact absurd h.1 he
 rw[if_neg he]at h
 cases hg:wL (xC bs (bs.length+1) 0 []).2
 ·rw[hg,if_neg (by decide)]at h;cases h
 rw[hg,if_pos rfl]at h;simp only[Prod.mk.injEq,true_and]at h
 have hd:xC bs (bs.length+1) 0 []=(0,l):=by
  rw[<-h];have:(xC bs (bs.length+1) 0 []).1=0:=by simpa using he
  exact Prod.ext this rfl
 obtain⟨h5,h6⟩:=E0k bs (bs.length+1) 0 [] l (by omega) (by omega) rfl (fun k hk=>by simp at hk) hd;rw[hH h6 (by rw[<-h];exact hg) (by rw[h5];exact h4),h5]
theorem D3r(bs:List UInt8):∀(fuel p:Nat) (acc:List RW),acc.length<=p->p<=bs.length->(xC bs fuel p acc).2.length<=bs.length:=by
 intro fuel
 induction fuel with
 |zero=>intro p acc h1 h2;show acc.length<=_;omega
 |succ fuel ih=>
  intro p acc h1 h2;by_cases hp:bs.length<=p
  ·rw[qt bs _ p acc hp];show acc.length<=_;omega
  have XJ:p<bs.length:=by omega
  by_cases h0:yX (yK bs p)=0
  ·rw[pg bs fuel p acc XJ h0];exact Nat.zero_le _
  by_cases hs:bs.length-p<yC (yX (yK bs p))
  ·rw[px bs fuel p acc XJ h0 hs];exact Nat.zero_le _
  cases hb:xz bs p (yX (yK bs p))
  ·rw[qy bs fuel p acc XJ h0 hs hb];have SF:=rT h0 (vg (yK bs p));exact ih _ _ (by simp;omega) (by omega)
  rw[nY bs fuel p acc XJ h0 hs hb];exact Nat.zero_le _
theorem cw(bs:List UInt8):(xW bs).2.length<=bs.length:=by
 unfold xW;by_cases h4:4096<bs.length
 ·rw[if_pos h4];exact Nat.zero_le _
 rw[if_neg h4];by_cases he:(xC bs (bs.length+1) 0 []).1≠0
 ·rw[if_pos he];exact Nat.zero_le _
 rw[if_neg he];by_cases hg:wL (xC bs (bs.length+1) 0 []).2=true
 ·rw[if_pos hg];exact D3r bs _ 0 [] (Nat.zero_le _) (Nat.zero_le _)
 rw[if_neg hg];exact Nat.zero_le _
theorem rA(r:RW)(h0:yX r.op≠0):(wC r).length=yC (yX r.op):=by
 have h9:=vg r.op;unfold wC;generalize yX r.op=f at*;have R3:f=1\/f=2\/f=3\/f=4\/f=5\/f=6\/f=7\/f=8\/f=9:=by omega
 rcases R3 with rfl|rfl|rfl|rfl|rfl|rfl|rfl|rfl|rfl<;>simp[vh,yC]
theorem ju{x:Int}(h: -128<=x/\x<=127):yu ((yh x%256:Nat):Int) 1=x:=by
 rw[show yu ((yh x%256:Nat):Int) 1=(((yh x%256:Nat):Int)+128)%256-128 from rfl];unfold yh;omega
theorem jh{x:Int}(h: -32768<=x/\x<=32767):yu ((yh x%65536:Nat):Int) 2=x:=by
 rw[show yu ((yh x%65536:Nat):Int) 2=(((yh x%65536:Nat):Int)+32768)%65536-32768 from rfl];unfold yh;omega
theorem D2h(x y:Nat):vR (yg x 1++yg y 1)=x%256*256+y%256:=by
 have h1:yg y 1=[UInt8.ofNat (y%256)]:=by rw[qz _ 0];simp[yg]
 rw[h1,pj,sW];simp
theorem E3d(bs:List UInt8)(r:RW)(p:Nat)(t rest:List UInt8)(Zx:r.op<256)(he:wC r=[UInt8.ofNat r.op]++rest)(Tm:bs.drop p=wC r++t):yK bs p=r.op/\(bs.drop (p+1)).take rest.length=rest/\p+1+rest.length<=bs.length:=by
 rw[he]at Tm;have hl:(bs.drop p).length=1+rest.length+t.length:=by rw[Tm];simp;omega
 have hp:p<bs.length:=by rw[List.length_drop]at hl;omega
 rw[List.drop_eq_getElem_cons hp]at Tm;simp only[List.cons_append,List.nil_append,List.cons.injEq]at Tm;refine⟨?_,by rw[Tm.2];simp,by rw[List.length_drop]at hl;omega⟩;unfold yK;simp only[List.getD,List.getElem?_eq_getElem hp,Option.getD_some];rw[Tm.1,UInt8.toNat_ofNat_of_lt' Zx]
theorem E4e(bs:List UInt8)(r:RW)(p:Nat)(t:List UInt8)(Zx:r.op<256)(Pr:r.pos=p)(h0:yX r.op≠0)(hf:yz r (yX r.op)=true)(hj:yX r.op=7->-32768<=r.a-r.pos/\r.a-r.pos<=32767)(Tm:bs.drop p=wC r++t):
  vZ bs p=r/\xz bs p (yX r.op)=false/\yK bs p=r.op:=by
 have h9:=vg r.op;obtain⟨rest,Vv⟩:∃rest,wC r=[UInt8.ofNat r.op]++rest:=⟨_,rfl⟩;obtain⟨h1,h2,h3⟩:=E3d bs r p t rest Zx Vv Tm;have ZR:=rA r h0;rw[Vv]at ZR;simp only[List.length_append,List.length_cons,List.length_nil,Nat.zero_add]at ZR;have Rz:=fk bs p (yX r.op)
 have hr:rest=(if yX r.op=7 then yg (yh (r.a-r.pos)) 2 else if yX r.op=8 then yg (yh r.a) 1++yg (yh r.b) 1 else yg (yh r.a) (yC (yX r.op) -1)):=by
  have h:=Vv;unfold wC at h;simp only[List.cons_append,List.nil_append,List.cons.injEq,true_and]at h;exact h.symm
 have Nw:yC (yX r.op) -1=rest.length:=by omega
 rw[Nw,h2]at Rz
 have Jg:yB bs p (yX r.op)=r.a/\yt bs p (yX r.op)=r.b/\xz bs p (yX r.op)=false:=by
  unfold xz yB yt;simp only;unfold yz at hf;generalize yX r.op=f at*;have R3:f=1\/f=2\/f=3\/f=4\/f=5\/f=6\/f=7\/f=8\/f=9:=by omega
  by_cases h8:f=8
  ·subst h8;simp at hf;have hv:=Rz (by decide) (by decide) (by rw[show yC 8=3 from rfl]at ZR⊢;omega);rw[hr,if_neg (by decide),if_pos rfl,D2h]at hv;rw[hv];have e1:yh r.a%256=yh r.a:=Nat.mod_eq_of_lt (by unfold yh;omega);have e2:=ju (x:=r.b) (by omega);have e3:((yh r.a:Nat):Int)=r.a:=by unfold yh;omega
   have e4:yu ((yh r.a%256*256+yh r.b%256:Nat):Int) 1=yu ((yh r.b%256:Nat):Int) 1:=by
    rw[show ∀v,yu v 1=(v+128)%256-128 from fun v=>rfl,show ∀v,yu v 1=(v+128)%256-128 from fun v=>rfl];omega
   refine⟨?_,?_,by simp⟩
   ·simp;omega
   rw[if_pos rfl,e4,e2]
  rcases R3 with rfl|rfl|rfl|rfl|rfl|rfl|rfl|rfl|rfl
  ·simp at hf;simp;omega
  ·simp at hf;have hv:=Rz (by decide) (by decide) (by rw[show yC 2=2 from rfl]at ZR⊢;omega);rw[hr,if_neg (by decide),if_neg (by decide),sW]at hv;rw[hv];simp[yC,yh];omega
  ·simp at hf;have hv:=Rz (by decide) (by decide) (by rw[show yC 3=2 from rfl]at ZR⊢;omega);rw[hr,if_neg (by decide),if_neg (by decide),sW]at hv;rw[hv];have e2:=ju (x:=r.a) (by omega);refine⟨?_,by simp;omega,by simp⟩;simpa[yC]using e2
  ·simp at hf;have hv:=Rz (by decide) (by decide) (by rw[show yC 4=3 from rfl]at ZR⊢;omega);rw[hr,if_neg (by decide),if_neg (by decide),sW]at hv;rw[hv];have e2:=jh (x:=r.a) (by omega);refine⟨?_,by simp;omega,by simp⟩;simpa[yC]using e2
  ·simp at hf;have hv:=Rz (by decide) (by decide) (by rw[show yC 5=2 from rfl]at ZR⊢;omega);rw[hr,if_neg (by decide),if_neg (by decide),sW]at hv;rw[hv];simp[yC,yh];omega
  ·simp at hf;have hv:=Rz (by decide) (by decide) (by rw[show yC 6=3 from rfl]at ZR⊢;omega);rw[hr,if_neg (by decide),if_neg (by decide),sW]at hv;rw[hv];simp[yC,yh];omega
  ·simp at hf;have hv:=Rz (by decide) (by decide) (by rw[show yC 7=3 from rfl]at ZR⊢;omega);rw[hr,if_pos rfl,sW]at hv;rw[hv];have e2:=jh (x:=r.a-r.pos) (hj rfl);refine⟨?_,by simp;omega,by simp⟩;have e3:yu ((yh (r.a-r.pos)%256^2:Nat):Int) 2=r.a-r.pos:=e2;simp only[if_true];rw[e3];simp;omega
  ·exact absurd rfl h8
  simp at hf;have hv:=Rz (by decide) (by decide) (by rw[show yC 9=2 from rfl]at ZR⊢;omega);rw[hr,if_neg (by decide),if_neg (by decide),sW]at hv;rw[hv]
  have e3:((yh r.a%256^(yC 9-1):Nat):Int)=r.a:=by
   rw[show 256^(yC 9-1)=256 from rfl];unfold yh;omega
  rw[e3];refine⟨by simp,by simp;omega,?_⟩
  rcases hf.2 with h|h<;>simp[h]
 exact⟨by unfold vZ;rw[h1,Jg.1,Jg.2.1,<-Pr],Jg.2.2,h1⟩
theorem iV{l pre suf:List RW}{r:RW}(h:l=pre++r::suf)(hg:xd l pre.length=true):yz r (yX r.op)=true/\r.pos=((ym pre).length:Nat):=by
 subst h;unfold xd at hg;rw[List.getElem?_append_right Z5]at hg;simp only[Nat.sub_self,List.getElem?_cons_zero,List.take_left,Bool.and_eq_true,decide_eq_true_eq]at hg;exact hg
theorem qE(pre suf:List RW):ym (pre++suf)=ym pre++ym suf:=by unfold ym;rw[List.flatMap_append]
theorem gQ{l:List RW}(hg:∀k,k<l.length->xd l k=true)(hl:(ym l).length<=4096):∀r∈l,0<=r.pos/\r.pos<=4096:=by
 intro r hr;obtain⟨pre,suf,h⟩:=List.append_of_mem hr;have h1:=(iV h (hg pre.length (by rw[h];simp))).2;rw[h,qE,List.length_append]at hl;omega
theorem D6j{l:List RW}(hg:∀k,k<l.length->xd l k=true)(hl:(ym l).length<=4096)(WX:wL l=true):∀r∈l,yX r.op=7->-32768<=r.a-r.pos/\r.a-r.pos<=32767:=by
 intro r hr h7;have h1:=gQ hg hl r hr;unfold wL at WX;have h2:=List.all_eq_true.1 WX r hr;rw[h7]at h2;simp only[beq_self_eq_true,Bool.not_true,Bool.false_or]at h2;unfold thereB at h2;obtain⟨s,hs,h3⟩:=List.any_eq_true.1 h2;have h4:=gQ hg hl s hs;have h5:s.pos=r.a:=by simpa using h3
 omega
theorem iL(r:RW):yz r 0=false:=by unfold yz;simp
theorem E2s{l:List RW}(hl:(ym l).length<=4096)(hw:∀r∈l,r.op<256)(hg:∀k,k<l.length->xd l k=true)(WX:wL l=true):
  ∀(suf pre:List RW),l=pre++suf->∀fuel,suf.length<=fuel->xC (ym l) fuel (ym pre).length pre=(0,l):=by
 intro suf
 induction suf with
 |nil=>
  intro pre h fuel _;rw[List.append_nil]at h;subst h;exact qt _ _ _ _ Z5
 |cons r suf ih=>
  intro pre h fuel hf;obtain⟨fuel,rfl⟩:∃k,fuel=k+1:=⟨fuel-1,by simp at hf;omega⟩;have hr:r∈l:=by rw[h];simp
  obtain⟨h1,h2⟩:=iV h (hg pre.length (by rw[h];simp))
  have h0:yX r.op≠0:=fun h0=>by rw[h0,iL]at h1;cases h1
  have hd:(ym l).drop (ym pre).length=wC r++ym suf:=by
   rw[h,qE,List.drop_left];rfl
  obtain⟨q1,q2,q3⟩:=E4e (ym l) r (ym pre).length (ym suf) (hw r hr) h2 h0 h1 (D6j hg hl WX r hr) hd;have ZR:=congrArg List.length hd;rw[List.length_drop,List.length_append,rA r h0]at ZR;have hs:=rT h0 (vg r.op);rw[qy _ _ _ _ (by omega) (by rw[q3];exact h0) (by rw[q3];omega) (by rw[q3];exact q2),q1,q3];have h3:=ih (pre++[r]) (by rw[h];simp) fuel (by simp at hf;omega);rw[qE,List.length_append,show(ym [r]).length=yC (yX r.op) by rw[<-rA r h0];simp[ym]]at h3;exact h3
theorem fF(l:List RW):l.length<=(ym l).length:=by
 induction l with
 |nil=>exact Nat.zero_le _
 |cons r l ih=>
  rw[show ym (r::l)=wC r++ym l from rfl,List.length_append];have:1<=(wC r).length:=by unfold wC;simp
  simp only[List.length_cons];omega
theorem dK{l:List RW}{bs:List UInt8}(hw:∀r∈l,r.op<256)(h:xt l=(0,bs)):bs=ym l/\xW bs=(0,l):=by
 unfold xt at h;by_cases h1:(List.range l.length).all (xd l)=false
 ·rw[if_pos h1]at h;cases h
 rw[if_neg h1]at h;by_cases h2:wL l=false
 ·rw[if_pos h2]at h;cases h
 rw[if_neg h2]at h;by_cases h3:4096<(ym l).length
 ·rw[if_pos h3]at h;cases h
 rw[if_neg h3]at h
 cases h
 have WX:wL l=true:=by simpa using h2
 have hg:∀k,k<l.length->xd l k=true:=by
  have h4:(List.range l.length).all (xd l)=true:=by simpa using h1
  intro k hk;exact List.all_eq_true.1 h4 k (List.mem_range.2 hk)
 refine⟨rfl,mR h3 ?_ WX⟩;have h5:=fF l;exact E2s (by omega) hw hg WX l [] rfl _ (by omega)
end
end Go.Proofs.YtclpkipaehpkdaaGreatDoor
