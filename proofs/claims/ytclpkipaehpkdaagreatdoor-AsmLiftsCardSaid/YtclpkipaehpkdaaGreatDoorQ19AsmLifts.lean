/- asm: own texts, merged (wip/merge3.py). No condition. -/
import Derived.Test.YtclpkipaehpkdaaGreatDoorQ08AsmLifts
import Derived.Test.YtclpkipaehpkdaaGreatDoorQ01AsmLifts
import Derived.Laws.StructEq
set_option linter.unusedVariables false
set_option linter.unusedSimpArgs false
set_option maxRecDepth 100000
set_option maxHeartbeats 64000000
namespace Go.Proofs.YtclpkipaehpkdaaGreatDoor
section
open Go.ChangeShapes Go.WideShapes Go.ChangeAt Go.RowKit
theorem A5z(w:World)(n lo hi:Int):Calls Tryz.prog 176 #[.int .i64 n,.int .i64 lo,.int .i64 hi] w fun e w'=>e= .returned (.bool (decide (lo≤n∧n≤hi)))∧w=w':=by
 by_cases h1:lo≤n
 ·by_cases h2:n≤hi
  ·rw[decide_eq_true (And.intro h1 h2)];have e1:=decide_eq_true h1;have e2:=decide_eq_true h2;go_enter Tryz.func176,Tryz.ntmps176
   go_wp2_with fail
   go_ret;exact⟨rfl,rfl⟩
  ·rw[decide_eq_false (fun x:lo≤n∧n≤hi=>h2 x.2)];have e1:=decide_eq_true h1;have e2:=decide_eq_false h2;go_enter Tryz.func176,Tryz.ntmps176
   go_wp2_with fail
   go_ret;exact⟨rfl,rfl⟩
 ·rw[decide_eq_false (fun x:lo≤n∧n≤hi=>h1 x.1)];have e1:=decide_eq_false h1;go_enter Tryz.func176,Tryz.ntmps176
  go_wp2_with fail
  go_ret;exact⟨rfl,rfl⟩
def A6w(r:Bool)(w:World)(e:Ending)(w':World):Prop:=e= .returned (.bool r)∧Below w.heap.size w w'
theorem D8v(w:World)(p:Int)(k:Nat)(x y:Int):Calls Tryz.prog 156 #[.agg #[.int .i64 p,.int .u8 (k:Nat),.int .i64 x,.int .i64 y],.int .i64 0] w (A6w (A2j ⟨p,k,x,y⟩ 0) w):=by
 by_cases hy:y=0
 ·rw[show A2j ⟨p,k,x,y⟩ 0=false from by unfold A2j;simp[hy]];subst hy;go_enter Tryz.func156,Tryz.ntmps156
  go_wp2_with fail
  go_ret;exact⟨rfl,(Below.refl _ _).alloc (Nat.le_refl _) _⟩
 ·rw[show A2j ⟨p,k,x,y⟩ 0=false from by unfold A2j;simp[hy]];have ey:(y !=0)=true:=by simp[hy]
  clear hy;go_enter Tryz.func156,Tryz.ntmps156
  go_wp2_with fail
  go_ret;exact⟨rfl,(Below.refl _ _).alloc (Nat.le_refl _) _⟩
theorem E0i(w:World)(p:Int)(k:Nat)(x y:Int):Calls Tryz.prog 156 #[.agg #[.int .i64 p,.int .u8 (k:Nat),.int .i64 x,.int .i64 y],.int .i64 1] w (A6w (A2j ⟨p,k,x,y⟩ 1) w):=by
 by_cases hy:y=0
 ·rw[show A2j ⟨p,k,x,y⟩ 1=decide (x=0)from by unfold A2j;simp[hy]];subst hy;by_cases ha:x=0
  ·subst ha;go_enter Tryz.func156,Tryz.ntmps156
   go_wp2_with fail
   go_ret;exact⟨rfl,(Below.refl _ _).alloc (Nat.le_refl _) _⟩
  ·have ea:(x==0)=false:=by simp[ha]
   rw[decide_eq_false ha];clear ha;go_enter Tryz.func156,Tryz.ntmps156
   go_wp2_with fail
   go_ret;exact⟨rfl,(Below.refl _ _).alloc (Nat.le_refl _) _⟩
 ·rw[show A2j ⟨p,k,x,y⟩ 1=false from by unfold A2j;simp[hy]];have ey:(y !=0)=true:=by simp[hy]
  clear hy;go_enter Tryz.func156,Tryz.ntmps156
  go_wp2_with fail
  go_ret;exact⟨rfl,(Below.refl _ _).alloc (Nat.le_refl _) _⟩
theorem D9k(w:World)(p:Int)(k:Nat)(x y:Int):Calls Tryz.prog 156 #[.agg #[.int .i64 p,.int .u8 (k:Nat),.int .i64 x,.int .i64 y],.int .i64 2] w (A6w (A2j ⟨p,k,x,y⟩ 2) w):=by
 by_cases hy:y=0
 ·rw[show A2j ⟨p,k,x,y⟩ 2=decide ((0:Int)≤x∧x≤255)from by unfold A2j;simp[hy]];subst hy;have HWI:=Lib.hid (fun w'=>A5z w' x (0) (255))
  generalize decide ((0:Int)≤x∧x≤255)=d at*;go_enter Tryz.func156,Tryz.ntmps156
  go_wp2_with fail
  refine(HWI.out _).mono ?_;rintro e w' ⟨rfl,rfl⟩
  go_wp2_with fail
  go_ret;exact⟨rfl,(Below.refl _ _).alloc (Nat.le_refl _) _⟩
 ·rw[show A2j ⟨p,k,x,y⟩ 2=false from by unfold A2j;simp[hy]];have ey:(y !=0)=true:=by simp[hy]
  clear hy;go_enter Tryz.func156,Tryz.ntmps156
  go_wp2_with fail
  go_ret;exact⟨rfl,(Below.refl _ _).alloc (Nat.le_refl _) _⟩
theorem D8y(w:World)(p:Int)(k:Nat)(x y:Int):Calls Tryz.prog 156 #[.agg #[.int .i64 p,.int .u8 (k:Nat),.int .i64 x,.int .i64 y],.int .i64 3] w (A6w (A2j ⟨p,k,x,y⟩ 3) w):=by
 by_cases hy:y=0
 ·rw[show A2j ⟨p,k,x,y⟩ 3=decide ((-128:Int)≤x∧x≤127)from by unfold A2j;simp[hy]];subst hy;have HWI:=Lib.hid (fun w'=>A5z w' x (-128) (127))
  generalize decide ((-128:Int)≤x∧x≤127)=d at*;go_enter Tryz.func156,Tryz.ntmps156
  go_wp2_with fail
  refine(HWI.out _).mono ?_;rintro e w' ⟨rfl,rfl⟩
  go_wp2_with fail
  go_ret;exact⟨rfl,(Below.refl _ _).alloc (Nat.le_refl _) _⟩
 ·rw[show A2j ⟨p,k,x,y⟩ 3=false from by unfold A2j;simp[hy]];have ey:(y !=0)=true:=by simp[hy]
  clear hy;go_enter Tryz.func156,Tryz.ntmps156
  go_wp2_with fail
  go_ret;exact⟨rfl,(Below.refl _ _).alloc (Nat.le_refl _) _⟩
theorem D9m(w:World)(p:Int)(k:Nat)(x y:Int):Calls Tryz.prog 156 #[.agg #[.int .i64 p,.int .u8 (k:Nat),.int .i64 x,.int .i64 y],.int .i64 4] w (A6w (A2j ⟨p,k,x,y⟩ 4) w):=by
 by_cases hy:y=0
 ·rw[show A2j ⟨p,k,x,y⟩ 4=decide ((-32768:Int)≤x∧x≤32767)from by unfold A2j;simp[hy]];subst hy;have HWI:=Lib.hid (fun w'=>A5z w' x (-32768) (32767))
  generalize decide ((-32768:Int)≤x∧x≤32767)=d at*;go_enter Tryz.func156,Tryz.ntmps156
  go_wp2_with fail
  refine(HWI.out _).mono ?_;rintro e w' ⟨rfl,rfl⟩
  go_wp2_with fail
  go_ret;exact⟨rfl,(Below.refl _ _).alloc (Nat.le_refl _) _⟩
 ·rw[show A2j ⟨p,k,x,y⟩ 4=false from by unfold A2j;simp[hy]];have ey:(y !=0)=true:=by simp[hy]
  clear hy;go_enter Tryz.func156,Tryz.ntmps156
  go_wp2_with fail
  go_ret;exact⟨rfl,(Below.refl _ _).alloc (Nat.le_refl _) _⟩
theorem D8q(w:World)(p:Int)(k:Nat)(x y:Int):Calls Tryz.prog 156 #[.agg #[.int .i64 p,.int .u8 (k:Nat),.int .i64 x,.int .i64 y],.int .i64 5] w (A6w (A2j ⟨p,k,x,y⟩ 5) w):=by
 by_cases hy:y=0
 ·rw[show A2j ⟨p,k,x,y⟩ 5=decide ((0:Int)≤x∧x≤255)from by unfold A2j;simp[hy]];subst hy;have HWI:=Lib.hid (fun w'=>A5z w' x (0) (255))
  generalize decide ((0:Int)≤x∧x≤255)=d at*;go_enter Tryz.func156,Tryz.ntmps156
  go_wp2_with fail
  refine(HWI.out _).mono ?_;rintro e w' ⟨rfl,rfl⟩
  go_wp2_with fail
  go_ret;exact⟨rfl,(Below.refl _ _).alloc (Nat.le_refl _) _⟩
 ·rw[show A2j ⟨p,k,x,y⟩ 5=false from by unfold A2j;simp[hy]];have ey:(y !=0)=true:=by simp[hy]
  clear hy;go_enter Tryz.func156,Tryz.ntmps156
  go_wp2_with fail
  go_ret;exact⟨rfl,(Below.refl _ _).alloc (Nat.le_refl _) _⟩
theorem D9u(w:World)(p:Int)(k:Nat)(x y:Int):Calls Tryz.prog 156 #[.agg #[.int .i64 p,.int .u8 (k:Nat),.int .i64 x,.int .i64 y],.int .i64 6] w (A6w (A2j ⟨p,k,x,y⟩ 6) w):=by
 by_cases hy:y=0
 ·rw[show A2j ⟨p,k,x,y⟩ 6=decide ((0:Int)≤x∧x≤65535)from by unfold A2j;simp[hy]];subst hy;have HWI:=Lib.hid (fun w'=>A5z w' x (0) (65535))
  generalize decide ((0:Int)≤x∧x≤65535)=d at*;go_enter Tryz.func156,Tryz.ntmps156
  go_wp2_with fail
  refine(HWI.out _).mono ?_;rintro e w' ⟨rfl,rfl⟩
  go_wp2_with fail
  go_ret;exact⟨rfl,(Below.refl _ _).alloc (Nat.le_refl _) _⟩
 ·rw[show A2j ⟨p,k,x,y⟩ 6=false from by unfold A2j;simp[hy]];have ey:(y !=0)=true:=by simp[hy]
  clear hy;go_enter Tryz.func156,Tryz.ntmps156
  go_wp2_with fail
  go_ret;exact⟨rfl,(Below.refl _ _).alloc (Nat.le_refl _) _⟩
theorem E0a(w:World)(p:Int)(k:Nat)(x y:Int):Calls Tryz.prog 156 #[.agg #[.int .i64 p,.int .u8 (k:Nat),.int .i64 x,.int .i64 y],.int .i64 7] w (A6w (A2j ⟨p,k,x,y⟩ 7) w):=by
 by_cases hy:y=0
 ·rw[show A2j ⟨p,k,x,y⟩ 7=true from by unfold A2j;simp[hy]];subst hy;go_enter Tryz.func156,Tryz.ntmps156
  go_wp2_with fail
  go_ret;exact⟨rfl,(Below.refl _ _).alloc (Nat.le_refl _) _⟩
 ·rw[show A2j ⟨p,k,x,y⟩ 7=false from by unfold A2j;simp[hy]];have ey:(y !=0)=true:=by simp[hy]
  clear hy;go_enter Tryz.func156,Tryz.ntmps156
  go_wp2_with fail
  go_ret;exact⟨rfl,(Below.refl _ _).alloc (Nat.le_refl _) _⟩
theorem D9p(w:World)(p:Int)(k:Nat)(x y:Int):Calls Tryz.prog 156 #[.agg #[.int .i64 p,.int .u8 (k:Nat),.int .i64 x,.int .i64 y],.int .i64 8] w (A6w (A2j ⟨p,k,x,y⟩ 8) w):=by
 rw[show A2j ⟨p,k,x,y⟩ 8=(decide ((0:Int)≤x∧x≤255)&&decide ((-128:Int)≤y∧y≤127))from by unfold A2j;simp];have HWI:=Lib.hid (fun w'=>A5z w' x 0 255)
 have HWJ:=Lib.hid (fun w'=>A5z w' y (-128) 127);generalize decide ((0:Int)≤x∧x≤255)=d at*;generalize decide ((-128:Int)≤y∧y≤127)=d2 at*
 cases d
 ·go_enter Tryz.func156,Tryz.ntmps156
  go_wp2_with fail
  refine(HWI.out _).mono ?_;rintro e w' ⟨rfl,rfl⟩
  go_wp2_with fail
  go_ret;exact⟨rfl,(Below.refl _ _).alloc (Nat.le_refl _) _⟩
 ·go_enter Tryz.func156,Tryz.ntmps156
  go_wp2_with fail
  refine(HWI.out _).mono ?_;rintro e w' ⟨rfl,rfl⟩
  go_wp2_with fail
  refine(HWJ.out _).mono ?_;rintro e w' ⟨rfl,rfl⟩
  go_wp2_with fail
  go_ret;exact⟨rfl,(Below.refl _ _).alloc (Nat.le_refl _) _⟩
theorem D9r(w:World)(p:Int)(k:Nat)(x y:Int):Calls Tryz.prog 156 #[.agg #[.int .i64 p,.int .u8 (k:Nat),.int .i64 x,.int .i64 y],.int .i64 9] w (A6w (A2j ⟨p,k,x,y⟩ 9) w):=by
 by_cases hy:y=0
 ·rw[show A2j ⟨p,k,x,y⟩ 9=decide (x=8∨x=10)from by unfold A2j;simp[hy]];subst hy;by_cases h8:x=8
  ·subst h8;rw[decide_eq_true (.inl rfl)];go_enter Tryz.func156,Tryz.ntmps156
   go_wp2_with fail
   go_ret;exact⟨rfl,(Below.refl _ _).alloc (Nat.le_refl _) _⟩
  ·by_cases h10:x=10
   ·subst h10;rw[decide_eq_true (.inr rfl)];go_enter Tryz.func156,Tryz.ntmps156
    go_wp2_with fail
    go_ret;exact⟨rfl,(Below.refl _ _).alloc (Nat.le_refl _) _⟩
   ·have e8:(x==8)=false:=by simp[h8]
    have e10:(x==10)=false:=by simp[h10]
    rw[decide_eq_false (fun z:x=8∨x=10=>z.elim h8 h10)];clear h8 h10;go_enter Tryz.func156,Tryz.ntmps156
    go_wp2_with fail
    go_ret;exact⟨rfl,(Below.refl _ _).alloc (Nat.le_refl _) _⟩
 ·rw[show A2j ⟨p,k,x,y⟩ 9=false from by unfold A2j;simp[hy]];have ey:(y !=0)=true:=by simp[hy]
  clear hy;go_enter Tryz.func156,Tryz.ntmps156
  go_wp2_with fail
  go_ret;exact⟨rfl,(Below.refl _ _).alloc (Nat.le_refl _) _⟩
theorem D2p(w:World)(r:RW)(f:Nat)(hf:f≤9):Calls Tryz.prog 156 #[.agg #[.int .i64 r.pos,.int .u8 (r.op:Nat),.int .i64 r.a,.int .i64 r.b],.int .i64 (f:Nat)] w (A6w (A2j r f) w):=by
 obtain⟨p,k,x,y⟩:=r;have h:f=0∨f=1∨f=2∨f=3∨f=4∨f=5∨f=6∨f=7∨f=8∨f=9:=by omega
 rcases h with rfl|rfl|rfl|rfl|rfl|rfl|rfl|rfl|rfl|rfl
 ·exact D8v w p k x y
 ·exact E0i w p k x y
 ·exact D9k w p k x y
 ·exact D8y w p k x y
 ·exact D9m w p k x y
 ·exact D8q w p k x y
 ·exact D9u w p k x y
 ·exact E0a w p k x y
 ·exact D9p w p k x y
 ·exact D9r w p k x y
def A3z(w:World)(B:Nat)(v:Value)(m:Nat)(bs:List UInt8):Prop:=w.ownsRow B 5 1 v m (bs.map A5f)∨∃g C,v= .slice (some ⟨g,0,none⟩) m m∧w.heap[g]? =some (.cells C 5 (0,0))∧Sl A5f w (some ⟨g,0,none⟩) m bs
theorem A3z.sl{w:World}{B:Nat}{v:Value}{m:Nat}{bs:List UInt8}(h:A3z w B v m bs):∃a c,v= .slice a m c∧Sl A5f w a m bs∧m≤c:=by
 rcases h with h|⟨g,C,rfl,_,h⟩
 ·obtain⟨a,c,rfl,hs,hc⟩:=Sl.ofOwn h;exact⟨a,c,rfl,hs,hc⟩
 ·exact⟨_,m,rfl,h,Nat.le_refl _⟩
theorem A3z.below{w w':World}{B:Nat}{v:Value}{m:Nat}{bs:List UInt8}(h:A3z w B v m bs)(hb:Below w.heap.size w w'):A3z w' B v m bs:=by
 rcases h with h|⟨g,C,rfl,hg,h⟩
 ·exact .inl (A1n h hb)
 ·exact .inr ⟨g,C,rfl,by rw[hb.block g (Array.getElem?_eq_some_iff.1 hg).1];exact hg,h.below hb⟩
theorem A3z.clip{w w':World}{B B':Nat}{a:Option Addr}{c m:Nat}{bs:List UInt8}(h:w.ownsRow B 5 1 (.slice a (m+1) c) (m+1) (bs.map A5f))(hb:Below w.heap.size w w')(hs:Sl A5f w' a (m+1) bs):A3z w' B' (.slice a (m+1) (m+1)) (m+1) bs:=by
 rcases h.2 with⟨_,h1⟩|⟨g,cap,cur,hv,_,hc,_⟩
 ·omega
 ·cases hv
  exact .inr ⟨g,cur,rfl,by rw[hb.block g (Array.getElem?_eq_some_iff.1 hc).1];exact hc,hs⟩
def E0h(w w':World):Prop:=w.heap.size≤w'.heap.size∧∀(g:Nat) (cs:Array Value) (t:TypeId) (fr:Nat×Nat),w.heap[g]? =some (.cells cs t fr)→t≠5→w'.heap[g]? =some (.cells cs t fr)
theorem A6d{w:World}{ops:Array Oper}{rest:List Oper}{o:Oper}{a:Act}{Q:Exit→Act→World→Prop}(hgd:Region.wanted o (yielded ops a.tmps)=true)(s x:Operand)
  (ho:o.op= .call {callee:= .builtin .append,args:= #[s,x],argTypes:= #[43,43]})
  (B:Nat) (v:Value) (m:Nat) (bs:List UInt8) (hv:a.eval s=v) (hX:A3z w B v m bs)
  (C:Array Value) (k c sz:Nat) (hy:a.eval x= .slice (some ⟨sz,0,none⟩) k c) (hsz:w.heap.size=sz) (hC:C.size=k) (hone:C.toList.all (·.oneCell')=true) (hk:0<k) (hlen:m+k≤140737488355328) (hB:B≤w.heap.size)
  (h:∀v' w',w'.ownsRow B 5 1 v' (m+k) (bs.map A5f++C.toList)→E0h w w'→Below B w w'→wpList Tryz.prog ops Q rest (a.put o.dst v') w'):wpList Tryz.prog ops Q (o::rest) a (w.alloc (.cells C 5)):=by
 subst hsz
 rcases hX with hX|⟨gd,Cd,rfl,_,hX⟩
 ·refine A6b E0r hgd s x ho B v m _ hv hX C k c hy hC hone (by omega) (by unfold maxLen;omega) hB (fun v' w' h1 h2 h3=>h v' w' h1 ⟨?_,fun g cs t fr hg ht=> ?_⟩ h3)
  ·have h4:=h2.size;simp at h4;omega
  ·exact B9j hX h2 hg (Ne.symm ht)
 ·refine A6v (enc:=A5f) E0r hgd s x ho w.heap.size _ m m bs hv hX C k c hy hC hone (by omega) (Nat.le_refl _) (by omega) (by unfold maxLen;omega) (Nat.le_refl _) (fun v' w' h1 h3=>h v' w' (A2k h1 hB) ⟨h3.size,fun g cs t fr hg ht=> ?_⟩ (h3.mono hB))
  rw[h3.block g (Array.getElem?_eq_some_iff.1 hg).1];exact hg
theorem B5k(l:List RW)(j:Nat)(r:RW)(h:l[j]? =some r):A9d (l.take (j+1))=A9d (l.take j)++A6j r:=by
 obtain⟨hj,he⟩:=List.getElem?_eq_some_iff.1 h;unfold A9d;rw[List.take_succ_eq_append_getElem hj,List.flatMap_append,he];simp
theorem B4m(l:List RW)(j:Nat)(r:RW)(h:l[j]? =some r):A5c l j=(A2j r (A0q r.op)&&decide (r.pos=((A9d (l.take j)).length:Nat))):=by
 unfold A5c;rw[h]
theorem B7g{l:List RW}(h:∀k,k<l.length→A5c l k=true):(List.range l.length).all (A5c l)=true:=by
 rw[List.all_eq_true];intro k hk;exact h k (by simpa using hk)
theorem C6i{l:List RW}(j:Nat)(hj:j<l.length)(h:A5c l j=false):A4b l=(8,[]):=by
 unfold A4b
 have:(List.range l.length).all (A5c l)=false:=by
  rw[List.all_eq_false];exact⟨j,by simpa using hj,by simp[h]⟩
 rw[if_pos this]
theorem B9a{l:List RW}(h:∀k,k<l.length→A5c l k=true)(hg:A7y l=false):A4b l=(2,[]):=by
 unfold A4b;rw[if_neg (by rw[B7g h];decide),if_pos hg]
theorem C0y{l:List RW}(h:∀k,k<l.length→A5c l k=true)(hg:A7y l=true)(hl:4096<(A9d l).length):A4b l=(9,[]):=by
 unfold A4b;rw[if_neg (by rw[B7g h];decide),if_neg (by rw[hg];decide),if_pos hl]
theorem B9e{l:List RW}(h:∀k,k<l.length→A5c l k=true)(hg:A7y l=true)(hl:¬4096<(A9d l).length):A4b l=(0,A9d l):=by
 unfold A4b;rw[if_neg (by rw[B7g h];decide),if_neg (by rw[hg];decide),if_neg hl]
theorem E1i(p:Int)(o:Nat)(x y:Int)(h:A0q o=7):A6j ⟨p,o,x,y⟩=[UInt8.ofNat o]++A6t (B0q (x-p)) 2:=by unfold A6j;simp[h]
theorem E1c(p:Int)(o:Nat)(x y:Int)(h:A0q o=8):A6j ⟨p,o,x,y⟩=[UInt8.ofNat o]++A6t (B0q x) 1++A6t (B0q y) 1:=by unfold A6j;simp[h]
theorem E1k(p:Int)(o:Nat)(x y:Int)(h7:A0q o≠7)(h8:A0q o≠8):A6j ⟨p,o,x,y⟩=[UInt8.ofNat o]++A6t (B0q x) (A2m (A0q o) -1):=by unfold A6j;simp[h7,h8]
def A6g(R:Int×List UInt8)(w:World)(e:Ending)(w':World):Prop:=
 ∃a m c,e= .returned (.tuple #[.slice a m c,.int .i64 R.1])∧Sl A5f w' a m R.2∧m≤c∧Below w.heap.size w w'∧A3z w' w.heap.size (.slice a m c) m R.2
theorem A6g.err{R:Int×List UInt8}{w w':World}{e:Int}(h:R=(e,[]))(hb:Below w.heap.size w w'):A6g R w (.returned (.tuple #[.slice none 0 0,.int .i64 e])) w':=by
 subst h;exact⟨_,0,0,rfl,Sl.nil _ _,Nat.le_refl _,hb,.inl (World.ownsRow_nil _ _ _ _)⟩
theorem D2x(o:Nat)(h:o<256):Value.int .u8 (o:Nat)=A5f (UInt8.ofNat o):=by unfold A5f;rw[UInt8.toNat_ofNat_of_lt' h]
theorem C3u(w:World)(a:Option Addr)(n cap:Nat)(L:List RW)(hs:Rs w a n L)(hn:n≤65536)(hw:∀r∈L,A3m r.pos∧A3m r.a∧r.op<256):Calls Tryz.prog 123 #[.slice a n cap] w (A6g (A4b L) w):=by
 have HS:=Lib.hid hs;have HLn:=Lib.hid hs.1;have HW:=Lib.hid hw;obtain⟨R,hR⟩:∃R,R=A4b L:=⟨_,rfl⟩;rw[←hR];have HR:=Lib.hid hR
 have HGS:=Lib.hid (fun w' (hb:Below w.heap.size w w')=>C4h w' a n cap L (hs.below hb) hn hw);clear hs hR hw;have hz:=D6q;go_enter Tryz.func123,Tryz.ntmps123
 go_wp2_with fail
 refine(B4x _).mono ?_;rintro e w1 ⟨rfl,hb1⟩;have HB1:=Lib.hid hb1;clear hb1
 go_wp2_with (first
  |(refine A8x rfl _ _ _ rfl _ rfl rfl _ _ (by rw[A3s];exact B1a) (by simp[A3s,zs8]) (B7m _) ?_))
 clear hz;have HT1:=Lib.hid (heap_alloc_last w1 (.cells (A8g A0q) 164));have HB2:=Lib.hid (HB1.out.alloc HB1.out.size (.cells (A8g A0q) 164));generalize w1.alloc (.cells (A8g A0q) 164)=w2 at*
 generalize hgt:w1.heap.size=gt at*;clear hgt HB1
 go_loopg [12,5] n (fun gn i v wr=>∃j m:Nat,j≤n∧gn=n-j∧i= .int .i64 j∧m≤3*j∧Hid ((A9d (L.take j)).length=m)∧Hid (A3z wr w.heap.size v m (A9d (L.take j)))∧Hid (∀k,k<j→A5c L k=true)∧
  Hid (wr.heap[gt]? =some (.cells (A8g A0q) 164))∧Hid (Below w.heap.size w wr))
 case atStart=>exact⟨0,0,by omega,by omega,by go_num,by omega,Lib.hid rfl,Lib.hid (.inl (World.ownsRow_nil _ _ _ _)),Lib.hid (fun k h=>by omega),HT1,HB2⟩
 case round=>
  obtain⟨j,m,hj,rfl,rfl,hm,HM,HO,HG,HT,HB⟩:=hrel;by_cases hlt:j<n
  ·obtain⟨b,off,r,rfl,_,hr,q⟩:=(HS.out.below HB.out).at j hlt;obtain⟨q0,q1,q2,q3⟩:=q;have hjl:j<L.length:=by rw[HLn.out];exact hlt
   have hwr:=HW.out r (List.mem_of_getElem? hr);have HGA:=Lib.hid (B4m L j r hr);have HEN:=Lib.hid (B5k L j r hr);have HBD:=Lib.hid (C6i (l:=L) j hjl);obtain⟨p,o,x,y⟩:=r
   simp only at q0 q1 q2 q3 hwr HGA;rw[HM.out]at HGA;obtain⟨hp,hx,ho⟩:=hwr;have o1:(o:Int)<256:=by omega
   have j1:(j:Int)<n:=by omega
   have hf9:=A4j o;have HFI:=Lib.hid (fun w'=>D2p w' ⟨p,o,x,y⟩ (A0q o) hf9);have HSZ:=Lib.hid (fun(w':World)=>A5d w' (A0q o) hf9)
   have hgl:gt<wr.heap.size:=(Array.getElem?_eq_some_iff.1 HT.out).1;have tc:wr.cell? ⟨gt,o,none⟩=some (.int .u8 (A0q o:Nat)):=by rw[cell_of_row wr _ _ _ _ _ HT.out];exact B0u _ _ ho
   have HE7:=Lib.hid (E1i p o x y);have HE8:=Lib.hid (E1c p o x y);have HEE:=Lib.hid (E1k p o x y);have hs3:=B1r (A0q o)
   have HF0:=Lib.hid (show A2j ⟨p,o,x,y⟩ 0=false from by unfold A2j;simp);have hsp:=fun h0=>A9s (f:=A0q o) h0 hf9
   obtain⟨e,he⟩:∃e,e=A9d (L.take j):=⟨_,rfl⟩
   have HGN:=Lib.hid (show A5c L j=true→∀k,k<j+1→A5c L k=true from fun h k hk=>by
    rcases Nat.lt_or_ge k j with h1|h1
    ·exact HG.out k h1
    ·obtain rfl:k=j:=by omega
     exact h)
   rw[←he]at HM HO HEN;clear hr hjl he HG;have HPF:=Lib.hid (show A0q o=0→A2j ⟨p,o,x,y⟩ (A0q o)=false from fun h=>by rw[h];exact HF0.out)
   generalize hft:A2j ⟨p,o,x,y⟩ (A0q o)=ft at*;clear hft;generalize A0q o=f at*;generalize A2m f=s at*;simp only at HFI
   go_upto_region 6 with fail
   have HAL:=Lib.hid (HB.out.alloc HB.out.size (.cells #[.int .i64 p,.int .u8 (o:Nat),.int .i64 x,.int .i64 y] 118))
   have HOA:=Lib.hid (HO.out.below ((Below.refl wr.heap.size wr).alloc (Nat.le_refl _) (.cells #[.int .i64 p,.int .u8 (o:Nat),.int .i64 x,.int .i64 y] 118)))
   have HTA:=Lib.hid (show(wr.alloc (.cells #[.int .i64 p,.int .u8 (o:Nat),.int .i64 x,.int .i64 y] 118)).heap[gt]? =some (.cells (A8g A0q) 164) by rw[Below.heap_alloc _ _ _ hgl];exact HT.out)
   have HKA:=Lib.hid (show A7w (wr.alloc (.cells #[.int .i64 p,.int .u8 (o:Nat),.int .i64 x,.int .i64 y] 118)) wr.heap.size p o x y from heap_alloc_last wr _)
   have tcA:=A0f ((Below.refl wr.heap.size wr).alloc (Nat.le_refl _) (.cells #[.int .i64 p,.int .u8 (o:Nat),.int .i64 x,.int .i64 y] 118)) tc;clear tc q0 q1 q2 q3
   generalize wr.alloc (.cells #[.int .i64 p,.int .u8 (o:Nat),.int .i64 x,.int .i64 y] 118)=W at*;generalize hg0:wr.heap.size=g at*;clear hg0 hgl HT HB HO
   obtain⟨⟨c0,c1,c2,c3⟩,_,hgW⟩:=HKA.out.box;have hgtW:gt<W.heap.size:=(Array.getElem?_eq_some_iff.1 HTA.out).1
   go_wp2_with fail
   refine(HFI.out _).mono ?_;rintro e' w5 ⟨rfl,hb5⟩;have HB5:=Lib.hid (HAL.out.trans (hb5.mono HAL.out.size));have HO5:=Lib.hid (HOA.out.below hb5)
   have HT5:=Lib.hid (show w5.heap[gt]? =some (.cells (A8g A0q) 164) by rw[hb5.block gt hgtW];exact HTA.out);have HK5:=Lib.hid (HKA.out.below hb5);clear hb5 c0 c1 c2 c3 tcA
   obtain⟨⟨c0,c1,c2,c3⟩,_,hgW5⟩:=HK5.out.box
   cases ft
   ·have HQ:=Lib.hid (show R=(8,[]) by rw[HR.out];exact HBD.out (by rw[HGA.out];rfl));clear HBD HGA HPF
    go_wp2_with fail
    go_ret2;exact A6g.err HQ.out HB5.out
   have h0:f≠0:=fun h=>by have:=HPF.out h;cases this
   have hs1:=hsp h0;clear h0 hsp HPF;obtain⟨ov,oc,rfl,_,_⟩:=HO5.out.sl;by_cases hpm:p=m
   case' neg=>
    have HQ:=Lib.hid (show R=(8,[]) by rw[HR.out];exact HBD.out (by rw[HGA.out];simp[hpm]));have epm:(p !=(m:Int))=true:=by simp[hpm]
    clear HBD HGA hpm
    go_wp2_with fail
    go_ret2;exact A6g.err HQ.out HB5.out
   have epm:(p !=(m:Int))=false:=by simp[hpm]
   have HGX:=Lib.hid (HGN.out (by rw[HGA.out];simp[hpm]));have HPM:=Lib.hid hpm;obtain⟨ux,hux⟩:∃u,u=B0q x:=⟨_,rfl⟩;obtain⟨uy,huy⟩:∃u,u=B0q y:=⟨_,rfl⟩
   obtain⟨ud,hud⟩:∃u,u=B0q (x-p):=⟨_,rfl⟩;have wx:IntKind.u64.wrap x=(ux:Int):=by rw[hux];exact B1z x
   have wy:IntKind.u64.wrap y=(uy:Int):=by rw[huy];exact B1z y
   have wp:IntKind.u64.wrap p=(m:Int):=by rw[hpm,IntKind.wrap_u64];omega
   have wd:IntKind.u64.wrap ((ux:Int) -(m:Int))=(ud:Int):=by
    rw[hud,←B1z,←hpm,hux,←B1z];simp only[IntKind.wrap_u64];omega
   have HLX:=Lib.hid (show ux<18446744073709551616 by rw[hux];exact C1g _);have HLY:=Lib.hid (show uy<18446744073709551616 by rw[huy];exact C1g _)
   have HLD:=Lib.hid (show ud<18446744073709551616 by rw[hud];exact C1g _);rw[←hux,←huy]at HE8;rw[←hux]at HEE;rw[←hud]at HE7;have m6:m≤196608:=by omega
   have HEB:=Lib.hid (D2x o ho);clear hpm hux huy hud HBD HGA HGN
   have HFIN:=Lib.hid (show ∀(u:World) (t:List UInt8) v,Hid (A6j ⟨p,o,x,y⟩=t)→A3z u w.heap.size v (m+t.length) (e++t)→u.heap[gt]? =some (.cells (A8g A0q) 164)→Below w.heap.size w u→t.length≤3→
     (∃m':Nat,m'≤3*(j+1)∧Hid ((A9d (L.take (j+1))).length=m')∧Hid (A3z u w.heap.size v m' (A9d (L.take (j+1))))∧Hid (∀k,k<j+1→A5c L k=true)∧Hid (u.heap[gt]? =some (.cells (A8g A0q) 164))∧Hid (Below w.heap.size w u))from fun u t v ht hO hT hB hl=>
    ⟨m+t.length,by omega,Lib.hid (by rw[HEN.out,List.length_append,HM.out,ht.out]),Lib.hid (by rw[HEN.out,ht.out];exact hO),HGX,Lib.hid hT,Lib.hid hB⟩)
   by_cases h7:f=7
   ·subst h7;clear HE8 HEE HSZ
    go_wp2_with (at_builtin;first
     |(refine A6d rfl _ _ rfl w.heap.size _ m e rfl HO5.out _ 1 _ _ rfl rfl rfl rfl (by omega) (by omega) HB5.out.size ?_;intro v6 w6 hown6 hk6 hb6;have hq:w6.ownsRow w.heap.size 5 1 v6 (m+1) ((e++[UInt8.ofNat o]).map A5f):=(by rw[List.map_append,List.map_cons,←HEB.out];exact hown6);obtain⟨a6,c6,rfl,hs6,hc6⟩:=Sl.ofOwn hq;have HO6:=Lib.hid hq;have HS6:=Lib.hid hs6;have HB6:=Lib.hid (HB5.out.trans hb6);have HT6:=Lib.hid (hk6.2 _ _ _ _ HT5.out (by decide));have HK6:=Lib.hid (show A7w w6 g p o x y from hk6.2 _ _ _ _ HK5.out (by decide));clear hown6 hk6 hb6 hs6 hq c0 c1 c2 c3;obtain⟨⟨c0,c1,c2,c3⟩,_,hgW6⟩:=HK6.out.box))
    refine(B5r _ a6 (m+1) c6 (e++[UInt8.ofNat o]) ud 2 HS6.out (by omega) hc6 HLD.out (by decide) (by decide)).mono ?_;rintro e' w7 ⟨v7,m7,rfl,ho7,hb7⟩
    obtain rfl:m7=m+1+2:=by have h1:=ho7.1;have h2:=HS6.out.1;rw[List.length_map,List.length_append,A1z,h2]at h1;omega
    have HT7:=Lib.hid (show w7.heap[gt]? =some (.cells (A8g A0q) 164) by rw[hb7.block gt (Array.getElem?_eq_some_iff.1 HT6.out).1];exact HT6.out);have HO7:=Lib.hid (A2k ho7 HB6.out.size)
    have HB7:=Lib.hid (HB6.out.trans (hb7.mono HB6.out.size));clear ho7 hb7 c0 c1 c2 c3
    go_wp2_with fail
    go_roundg (n-(j+1))
    case measure=>omega
    case rel=>
     obtain⟨m',h1,h2,h3,h4,h5,h6⟩:=HFIN.out _ ([UInt8.ofNat o]++A6t ud 2) _ (Lib.hid (HE7.out (by trivial))) (.inl (by rw[show m+([UInt8.ofNat o]++A6t ud 2).length=m+1+2 by simp[A1z]<;>omega,←List.append_assoc];exact HO7.out)) HT7.out HB7.out (by simp[A1z])
     exact⟨j+1,m',by omega,rfl,by go_num,h1,h2,h3,h4,h5,h6⟩
   by_cases h8:f=8
   ·subst h8;clear HE7 HEE HSZ h7
    go_wp2_with (at_builtin;first
     |(refine A6d rfl _ _ rfl w.heap.size _ m e rfl HO5.out _ 1 _ _ rfl rfl rfl rfl (by omega) (by omega) HB5.out.size ?_;intro v6 w6 hown6 hk6 hb6;have hq:w6.ownsRow w.heap.size 5 1 v6 (m+1) ((e++[UInt8.ofNat o]).map A5f):=(by rw[List.map_append,List.map_cons,←HEB.out];exact hown6);obtain⟨a6,c6,rfl,hs6,hc6⟩:=Sl.ofOwn hq;have HO6:=Lib.hid hq;have HS6:=Lib.hid hs6;have HB6:=Lib.hid (HB5.out.trans hb6);have HT6:=Lib.hid (hk6.2 _ _ _ _ HT5.out (by decide));have HK6:=Lib.hid (show A7w w6 g p o x y from hk6.2 _ _ _ _ HK5.out (by decide));clear hown6 hk6 hb6 hs6 hq c0 c1 c2 c3;obtain⟨⟨c0,c1,c2,c3⟩,_,hgW6⟩:=HK6.out.box))
    have ld2:=fun w' (h:Below w6.heap.size w6 w')=>A0f h c2
    have ld3:=fun w' (h:Below w6.heap.size w6 w')=>A0f h c3
    have hSw:Below w6.heap.size w6 w6.drew:=(Below.refl _ _).drew;clear c0 c1 c2 c3
    refine A4g (Below w6.heap.size w6) [(0,true),(1,true),(2,true),(3,true),(5,true),(6,true),(7,true),(4,false),(8,false),(9,true)] (by kernel_rfl) (by kernel_rfl) (fun c a d v w h=>by cases d<;>exact h) ?_
    iterate 7
     refine A1m fun K hK=>tkF ?_
     go_simp
     try go_bits
     refine hK _ _ ?_;clear hK K
    refine A1m fun K hK=>alF ?_
    go_step;refine(B5r _ a6 (m+1) c6 (e++[UInt8.ofNat o]) ux 1 (HS6.out.below (Below.refl _ _).drew) (by omega) hc6 HLX.out (by decide) (by decide)).mono ?_;rintro e' w7 ⟨v7,m7,rfl,ho7,hb7⟩
    replace hSw:Below w6.heap.size w6 w7:=hSw.trans (hb7.mono (by simp))
    obtain rfl:m7=m+1+1:=by have h1:=ho7.1;have h2:=HS6.out.1;rw[List.length_map,List.length_append,A1z,h2]at h1;omega
    obtain⟨a7,c7,rfl,hs7,hc7⟩:=Sl.ofOwn ho7;have HS7:=Lib.hid hs7;clear ho7 hb7 hs7;go_simp;refine hK _ _ ?_;clear hK K;refine A1m fun K hK=>alF ?_
    go_step;refine(B5r _ a7 (m+1+1) c7 _ uy 1 HS7.out (by omega) hc7 HLY.out (by decide) (by decide)).mono ?_;rintro e' w8 ⟨v8,m8,rfl,ho8,hb8⟩
    obtain rfl:m8=m+1+1+1:=by have h1:=ho8.1;have h2:=HS7.out.1;rw[List.length_map,List.length_append,A1z,h2]at h1;omega
    have HO8:=Lib.hid (A2k ho8 (Nat.le_trans HB6.out.size hSw.size));replace hSw:Below w6.heap.size w6 w8:=hSw.trans (hb8.mono hSw.size);have HB8:=Lib.hid (HB6.out.trans (hSw.mono HB6.out.size))
    have HT8:=Lib.hid (show w8.heap[gt]? =some (.cells (A8g A0q) 164) by rw[hSw.block gt (Array.getElem?_eq_some_iff.1 HT6.out).1];exact HT6.out);clear ho8 hb8;go_simp;refine hK _ _ ?_;clear hK K
    iterate 1
     refine A1m fun K hK=>tkF ?_
     go_simp
     try go_bits
     refine hK _ _ ?_;clear hK K
    refine A9r ?_;clear ld2 ld3 hSw
    go_wp2_with fail
    go_roundg (n-(j+1))
    case measure=>omega
    case rel=>
     obtain⟨m',h1,h2,h3,h4,h5,h6⟩:=HFIN.out _ ([UInt8.ofNat o]++A6t ux 1++A6t uy 1) _ (Lib.hid (HE8.out (by trivial))) (.inl (by rw[show m+([UInt8.ofNat o]++A6t ux 1++A6t uy 1).length=m+1+1+1 by simp[A1z],←List.append_assoc,←List.append_assoc];exact HO8.out)) HT8.out HB8.out (by simp[A1z])
     exact⟨j+1,m',by omega,rfl,by go_num,h1,h2,h3,h4,h5,h6⟩
   have e7:((f:Int)==7)=false:=by simp;omega
   have e8:((f:Int)==8)=false:=by simp;omega
   replace h7:=Lib.hid h7;replace h8:=Lib.hid h8;clear HE7 HE8;have hs123:s=1∨s=2∨s=3:=by omega
   rcases hs123 with rfl|rfl|rfl
   ·go_wp2_with (at_builtin;first
     |(refine A6d rfl _ _ rfl w.heap.size _ m e rfl HO5.out _ 1 _ _ rfl rfl rfl rfl (by omega) (by omega) HB5.out.size ?_;intro v6 w6 hown6 hk6 hb6;have hq:w6.ownsRow w.heap.size 5 1 v6 (m+1) ((e++[UInt8.ofNat o]).map A5f):=(by rw[List.map_append,List.map_cons,←HEB.out];exact hown6);obtain⟨a6,c6,rfl,hs6,hc6⟩:=Sl.ofOwn hq;have HO6:=Lib.hid hq;have HS6:=Lib.hid hs6;have HB6:=Lib.hid (HB5.out.trans hb6);have HT6:=Lib.hid (hk6.2 _ _ _ _ HT5.out (by decide));have HK6:=Lib.hid (show A7w w6 g p o x y from hk6.2 _ _ _ _ HK5.out (by decide));clear hown6 hk6 hb6 hs6 hq c0 c1 c2 c3;obtain⟨⟨c0,c1,c2,c3⟩,_,hgW6⟩:=HK6.out.box))
    have ld2:=fun w' (h:Below w6.heap.size w6 w')=>A0f h c2
    have ld3:=fun w' (h:Below w6.heap.size w6 w')=>A0f h c3
    have hSw:Below w6.heap.size w6 w6.drew:=(Below.refl _ _).drew;clear c0 c1 c2 c3
    refine A4g (Below w6.heap.size w6) [(0,true),(1,true),(2,true),(3,true),(4,true),(5,false),(6,true),(7,false),(8,true)] (by kernel_rfl) (by kernel_rfl) (fun c a d v w h=>by cases d<;>exact h) ?_
    iterate 5
     refine A1m fun K hK=>tkF ?_
     go_simp
     try go_bits
     refine hK _ _ ?_;clear hK K
    refine A1m fun K hK=>alF ?_
    go_step;refine(HSZ.out _).mono ?_;rintro e' w' ⟨rfl,rfl⟩;go_simp;refine hK _ _ ?_;clear hK K
    iterate 1
     refine A1m fun K hK=>tkF ?_
     go_simp
     try go_bits
     refine hK _ _ ?_;clear hK K
    refine A1m fun K hK=>alF ?_
    go_step;refine(D7y _ a6 (m+1) c6 ux 0 hc6 (by decide)).mono ?_;rintro e' w7 ⟨rfl,rfl⟩;go_simp;refine hK _ _ ?_;clear hK K
    iterate 1
     refine A1m fun K hK=>tkF ?_
     go_simp
     try go_bits
     refine hK _ _ ?_;clear hK K
    refine A9r ?_;have HB7:=Lib.hid (HB6.out.trans (hSw.mono HB6.out.size));have HT7:=Lib.hid (show w6.drew.heap[gt]? =some (.cells (A8g A0q) 164)from HT6.out)
    have HS7:=Lib.hid (HS6.out.below hSw);have HSW7:=Lib.hid hSw;clear ld2 ld3 hSw
    go_wp2_with fail
    go_roundg (n-(j+1))
    case measure=>omega
    case rel=>
     obtain⟨m',h1,h2,h3,h4,h5,h6⟩:=HFIN.out _ ([UInt8.ofNat o]++A6t ux (1-1)) _ (Lib.hid (HEE.out h7.out h8.out)) (A3z.clip HO6.out HSW7.out HS7.out) HT7.out HB7.out (by simp[A1z])
     exact⟨j+1,m',by omega,rfl,by go_num,h1,h2,h3,h4,h5,h6⟩
   ·go_wp2_with (at_builtin;first
     |(refine A6d rfl _ _ rfl w.heap.size _ m e rfl HO5.out _ 1 _ _ rfl rfl rfl rfl (by omega) (by omega) HB5.out.size ?_;intro v6 w6 hown6 hk6 hb6;have hq:w6.ownsRow w.heap.size 5 1 v6 (m+1) ((e++[UInt8.ofNat o]).map A5f):=(by rw[List.map_append,List.map_cons,←HEB.out];exact hown6);obtain⟨a6,c6,rfl,hs6,hc6⟩:=Sl.ofOwn hq;have HO6:=Lib.hid hq;have HS6:=Lib.hid hs6;have HB6:=Lib.hid (HB5.out.trans hb6);have HT6:=Lib.hid (hk6.2 _ _ _ _ HT5.out (by decide));have HK6:=Lib.hid (show A7w w6 g p o x y from hk6.2 _ _ _ _ HK5.out (by decide));clear hown6 hk6 hb6 hs6 hq c0 c1 c2 c3;obtain⟨⟨c0,c1,c2,c3⟩,_,hgW6⟩:=HK6.out.box))
    have ld2:=fun w' (h:Below w6.heap.size w6 w')=>A0f h c2
    have ld3:=fun w' (h:Below w6.heap.size w6 w')=>A0f h c3
    have hSw:Below w6.heap.size w6 w6.drew:=(Below.refl _ _).drew;clear c0 c1 c2 c3
    refine A4g (Below w6.heap.size w6) [(0,true),(1,true),(2,true),(3,true),(4,true),(5,false),(6,true),(7,false),(8,true)] (by kernel_rfl) (by kernel_rfl) (fun c a d v w h=>by cases d<;>exact h) ?_
    iterate 5
     refine A1m fun K hK=>tkF ?_
     go_simp
     try go_bits
     refine hK _ _ ?_;clear hK K
    refine A1m fun K hK=>alF ?_
    go_step;refine(HSZ.out _).mono ?_;rintro e' w' ⟨rfl,rfl⟩;go_simp;refine hK _ _ ?_;clear hK K
    iterate 1
     refine A1m fun K hK=>tkF ?_
     go_simp
     try go_bits
     refine hK _ _ ?_;clear hK K
    refine A1m fun K hK=>alF ?_
    go_step;refine(B5r _ a6 (m+1) c6 (e++[UInt8.ofNat o]) ux 1 (HS6.out.below (Below.refl _ _).drew) (by omega) hc6 HLX.out (by decide) (by decide)).mono ?_;rintro e' w7 ⟨v7,m7,rfl,ho7,hb7⟩
    replace hSw:Below w6.heap.size w6 w7:=hSw.trans (hb7.mono (by simp))
    obtain rfl:m7=m+1+1:=by have h1:=ho7.1;have h2:=HS6.out.1;rw[List.length_map,List.length_append,A1z,h2]at h1;omega
    have HO7:=Lib.hid (A2k ho7 HB6.out.size);have HB7:=Lib.hid (HB6.out.trans (hSw.mono HB6.out.size))
    have HT7:=Lib.hid (show w7.heap[gt]? =some (.cells (A8g A0q) 164) by rw[hSw.block gt (Array.getElem?_eq_some_iff.1 HT6.out).1];exact HT6.out);clear ho7 hb7;go_simp;refine hK _ _ ?_;clear hK K
    iterate 1
     refine A1m fun K hK=>tkF ?_
     go_simp
     try go_bits
     refine hK _ _ ?_;clear hK K
    refine A9r ?_;clear ld2 ld3 hSw
    go_wp2_with fail
    go_roundg (n-(j+1))
    case measure=>omega
    case rel=>
     obtain⟨m',h1,h2,h3,h4,h5,h6⟩:=HFIN.out _ ([UInt8.ofNat o]++A6t ux (2-1)) _ (Lib.hid (HEE.out h7.out h8.out)) (.inl (by rw[show m+([UInt8.ofNat o]++A6t ux (2-1)).length=m+1+1 by simp[A1z]<;>omega,←List.append_assoc];exact HO7.out)) HT7.out HB7.out (by simp[A1z])
     exact⟨j+1,m',by omega,rfl,by go_num,h1,h2,h3,h4,h5,h6⟩
   ·go_wp2_with (at_builtin;first
     |(refine A6d rfl _ _ rfl w.heap.size _ m e rfl HO5.out _ 1 _ _ rfl rfl rfl rfl (by omega) (by omega) HB5.out.size ?_;intro v6 w6 hown6 hk6 hb6;have hq:w6.ownsRow w.heap.size 5 1 v6 (m+1) ((e++[UInt8.ofNat o]).map A5f):=(by rw[List.map_append,List.map_cons,←HEB.out];exact hown6);obtain⟨a6,c6,rfl,hs6,hc6⟩:=Sl.ofOwn hq;have HO6:=Lib.hid hq;have HS6:=Lib.hid hs6;have HB6:=Lib.hid (HB5.out.trans hb6);have HT6:=Lib.hid (hk6.2 _ _ _ _ HT5.out (by decide));have HK6:=Lib.hid (show A7w w6 g p o x y from hk6.2 _ _ _ _ HK5.out (by decide));clear hown6 hk6 hb6 hs6 hq c0 c1 c2 c3;obtain⟨⟨c0,c1,c2,c3⟩,_,hgW6⟩:=HK6.out.box))
    have ld2:=fun w' (h:Below w6.heap.size w6 w')=>A0f h c2
    have ld3:=fun w' (h:Below w6.heap.size w6 w')=>A0f h c3
    have hSw:Below w6.heap.size w6 w6.drew:=(Below.refl _ _).drew;clear c0 c1 c2 c3
    refine A4g (Below w6.heap.size w6) [(0,true),(1,true),(2,true),(3,true),(4,true),(5,false),(6,true),(7,false),(8,true)] (by kernel_rfl) (by kernel_rfl) (fun c a d v w h=>by cases d<;>exact h) ?_
    iterate 5
     refine A1m fun K hK=>tkF ?_
     go_simp
     try go_bits
     refine hK _ _ ?_;clear hK K
    refine A1m fun K hK=>alF ?_
    go_step;refine(HSZ.out _).mono ?_;rintro e' w' ⟨rfl,rfl⟩;go_simp;refine hK _ _ ?_;clear hK K
    iterate 1
     refine A1m fun K hK=>tkF ?_
     go_simp
     try go_bits
     refine hK _ _ ?_;clear hK K
    refine A1m fun K hK=>alF ?_
    go_step;refine(B5r _ a6 (m+1) c6 (e++[UInt8.ofNat o]) ux 2 (HS6.out.below (Below.refl _ _).drew) (by omega) hc6 HLX.out (by decide) (by decide)).mono ?_;rintro e' w7 ⟨v7,m7,rfl,ho7,hb7⟩
    replace hSw:Below w6.heap.size w6 w7:=hSw.trans (hb7.mono (by simp))
    obtain rfl:m7=m+1+2:=by have h1:=ho7.1;have h2:=HS6.out.1;rw[List.length_map,List.length_append,A1z,h2]at h1;omega
    have HO7:=Lib.hid (A2k ho7 HB6.out.size);have HB7:=Lib.hid (HB6.out.trans (hSw.mono HB6.out.size))
    have HT7:=Lib.hid (show w7.heap[gt]? =some (.cells (A8g A0q) 164) by rw[hSw.block gt (Array.getElem?_eq_some_iff.1 HT6.out).1];exact HT6.out);clear ho7 hb7;go_simp;refine hK _ _ ?_;clear hK K
    iterate 1
     refine A1m fun K hK=>tkF ?_
     go_simp
     try go_bits
     refine hK _ _ ?_;clear hK K
    refine A9r ?_;clear ld2 ld3 hSw
    go_wp2_with fail
    go_roundg (n-(j+1))
    case measure=>omega
    case rel=>
     obtain⟨m',h1,h2,h3,h4,h5,h6⟩:=HFIN.out _ ([UInt8.ofNat o]++A6t ux (3-1)) _ (Lib.hid (HEE.out h7.out h8.out)) (.inl (by rw[show m+([UInt8.ofNat o]++A6t ux (3-1)).length=m+1+2 by simp[A1z]<;>omega,←List.append_assoc];exact HO7.out)) HT7.out HB7.out (by simp[A1z])
     exact⟨j+1,m',by omega,rfl,by go_num,h1,h2,h3,h4,h5,h6⟩
  ·obtain rfl:j=n:=by omega
   have HLE:=Lib.hid (show A9d (L.take j)=A9d L by rw[List.take_of_length_le (by rw[HLn.out];exact Nat.le_refl _)])
   have HGA:=Lib.hid (show ∀k,k<L.length→A5c L k=true by rw[HLn.out];exact HG.out);rw[HLE.out]at HO HM;have hgt:gt<wr.heap.size:=(Array.getElem?_eq_some_iff.1 HT.out).1
   go_wp2_with (first
    |(refine wpList_load_row rfl _ _ rfl _ rfl _ _ _ _ HT.out Tryz.underlying164 rfl (by rw[A3s];exact B1a) ?_))
   refine(HGS.out _ HB.out).mono ?_;rintro e w3 ⟨rfl,hb3⟩;have HB3:=Lib.hid (HB.out.trans (hb3.mono HB.out.size));have HOO:=HO.out.below hb3;obtain⟨va,vc,rfl,hss,hcc⟩:=HOO.sl
   have HO3:=Lib.hid HOO;have HS3:=Lib.hid hss;clear hb3 hgt hss HOO
   cases hg:A7y L
   ·have HQ:=Lib.hid (show R=(2,[]) by rw[HR.out];exact B9a HGA.out hg);clear hg
    go_wp2_with fail
    go_ret2;exact A6g.err HQ.out HB3.out
   ·have HGO:=Lib.hid hg;clear hg;by_cases hl:4096<m
    ·have HQ:=Lib.hid (show R=(9,[]) by rw[HR.out];exact C0y HGA.out HGO.out (by rw[HM.out];exact hl));have e1:decide ((4096:Int)<m)=true:=by simp;omega
     go_wp2_with fail
     go_ret2;exact A6g.err HQ.out HB3.out
    ·have HQ:=Lib.hid (show R=(0,A9d L) by rw[HR.out];exact B9e HGA.out HGO.out (by rw[HM.out];exact hl));have e1:decide ((4096:Int)<m)=false:=by simp;omega
     go_wp2_with fail
     go_ret2;exact⟨va,m,vc,by rw[HQ.out];rfl,by rw[HQ.out];exact HS3.out,hcc,HB3.out,by rw[HQ.out];exact HO3.out⟩
theorem C5m(w:World)(k:Nat)(hk:k<256):Calls Tryz.prog 111 #[.int .u8 (k:Nat)] w fun e w'=>e= .returned (.int .i64 (A2m (A0q k):Nat))∧w=w':=by
 have HF:=Lib.hid (A8k w k hk);have h9:=A4j k;generalize A0q k=f at*;have h:f=0∨f=1∨f=2∨f=3∨f=4∨f=5∨f=6∨f=7∨f=8∨f=9:=by omega
 clear h9
 rcases h with rfl|rfl|rfl|rfl|rfl|rfl|rfl|rfl|rfl|rfl
 all_goals
  go_enter Tryz.func111,Tryz.ntmps111
  go_wp2_with fail
  refine HF.out.mono ?_;rintro e w' ⟨rfl,rfl⟩
  go_wp2_with fail
  go_ret;exact⟨rfl,rfl⟩
end
end Go.Proofs.YtclpkipaehpkdaaGreatDoor
