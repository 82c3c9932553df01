/- asm -/
import Derived.Test.YtclpkipaehpkdaaGreatDoorQ00AsmLowers
set_option linter.unusedVariables false
set_option linter.unusedSimpArgs false
set_option maxRecDepth 100000
set_option maxHeartbeats 64000000
namespace Go.Proofs.YtclpkipaehpkdaaGreatDoor
section
open Go.ChangeShapes Go.WideShapes Go.ChangeAt Go.RowKit
def U64(n:Int):Prop:=0<=n/\n<18446744073709551616
def A2g(v n:Int):Int:=if n<1\/8<n then 0 else(v+2^(8*n.toNat-1))%2^(8*n.toNat) -2^(8*n.toNat-1)
theorem B5z(v n:Int)(h:n<1\/8<n):A2g v n=0:=by unfold A2g;rw[if_pos h]
theorem D8k(v:Int):A2g v 8=wrap64 v:=by unfold wrap64;rfl
theorem A8p(w:World)(v n:Int)(hv:U64 v)(hn:A5r n):Calls Tryz.prog 114 #[.int .u64 v,.int .i64 n] w fun e w'=>e= .returned (.int .i64 (A2g v n))/\w=w':=by
 obtain⟨v1,v2⟩:=hv;by_cases c1:n<1
 ·rw[B5z v n (.inl c1)];have e1:=decide_eq_true c1;go_enter Tryz.func114,Tryz.ntmps114
  go_wp2
  go_ret;exact⟨rfl,rfl⟩
 by_cases c2:8<n
 ·rw[B5z v n (.inr c2)];have e1:=decide_eq_false c1;have e2:=decide_eq_true c2;go_enter Tryz.func114,Tryz.ntmps114
  go_wp2
  go_ret;exact⟨rfl,rfl⟩
 have hc:n=8\/n=1\/n=2\/n=3\/n=4\/n=5\/n=6\/n=7:=by omega
 clear c1 c2 hn
 rcases hc with rfl|hc
 ·rw[D8k];go_enter Tryz.func114,Tryz.ntmps114
  go_wp2
  go_ret;exact⟨rfl,rfl⟩
 have hmod:∀p:Int,v.tmod p=v%p:=fun p=>Int.tmod_eq_emod_of_nonneg v1
 rcases hc with rfl|rfl|rfl|rfl|rfl|rfl|rfl
 ·rw[show A2g v 1=(v+128)%256-128 from rfl];have hm:=hmod 256;clear hmod;by_cases hh:v%256<128
  ·go_enter Tryz.func114,Tryz.ntmps114
   go_wp2
   go_ret;exact⟨A2v (by omega),rfl⟩
  go_enter Tryz.func114,Tryz.ntmps114
  go_wp2
  go_ret;exact⟨A2v (by omega),rfl⟩
 ·rw[show A2g v 2=(v+32768)%65536-32768 from rfl];have hm:=hmod 65536;clear hmod;by_cases hh:v%65536<32768
  ·go_enter Tryz.func114,Tryz.ntmps114
   go_wp2
   go_ret;exact⟨A2v (by omega),rfl⟩
  go_enter Tryz.func114,Tryz.ntmps114
  go_wp2
  go_ret;exact⟨A2v (by omega),rfl⟩
 ·rw[show A2g v 3=(v+8388608)%16777216-8388608 from rfl];have hm:=hmod 16777216;clear hmod;by_cases hh:v%16777216<8388608
  ·go_enter Tryz.func114,Tryz.ntmps114
   go_wp2
   go_ret;exact⟨A2v (by omega),rfl⟩
  go_enter Tryz.func114,Tryz.ntmps114
  go_wp2
  go_ret;exact⟨A2v (by omega),rfl⟩
 ·rw[show A2g v 4=(v+2147483648)%4294967296-2147483648 from rfl];have hm:=hmod 4294967296;clear hmod;by_cases hh:v%4294967296<2147483648
  ·go_enter Tryz.func114,Tryz.ntmps114
   go_wp2
   go_ret;exact⟨A2v (by omega),rfl⟩
  go_enter Tryz.func114,Tryz.ntmps114
  go_wp2
  go_ret;exact⟨A2v (by omega),rfl⟩
 ·rw[show A2g v 5=(v+549755813888)%1099511627776-549755813888 from rfl];have hm:=hmod 1099511627776;clear hmod;by_cases hh:v%1099511627776<549755813888
  ·go_enter Tryz.func114,Tryz.ntmps114
   go_wp2
   go_ret;exact⟨A2v (by omega),rfl⟩
  go_enter Tryz.func114,Tryz.ntmps114
  go_wp2
  go_ret;exact⟨A2v (by omega),rfl⟩
 ·rw[show A2g v 6=(v+140737488355328)%281474976710656-140737488355328 from rfl];have hm:=hmod 281474976710656;clear hmod;by_cases hh:v%281474976710656<140737488355328
  ·go_enter Tryz.func114,Tryz.ntmps114
   go_wp2
   go_ret;exact⟨A2v (by omega),rfl⟩
  go_enter Tryz.func114,Tryz.ntmps114
  go_wp2
  go_ret;exact⟨A2v (by omega),rfl⟩
 rw[show A2g v 7=(v+36028797018963968)%72057594037927936-36028797018963968 from rfl];have hm:=hmod 72057594037927936;clear hmod;by_cases hh:v%72057594037927936<36028797018963968
 ·go_enter Tryz.func114,Tryz.ntmps114
  go_wp2
  go_ret;exact⟨A2v (by omega),rfl⟩
 go_enter Tryz.func114,Tryz.ntmps114
 go_wp2
 go_ret;exact⟨A2v (by omega),rfl⟩
theorem B4n(w:World)(v n:Int)(hv:U64 v)(hn:A5r n):Calls Tryz.prog 148 #[.int .u64 v,.int .i64 n] w fun e w'=>e= .returned (.int .i64 (A2g v n))/\w=w':=by
 obtain⟨v1,v2⟩:=hv;by_cases c1:n<1\/8<n
 ·rw[B5z v n c1];have hd:decide (1<=n/\n<=8)=false:=decide_eq_false (by omega);clear c1;go_enter Tryz.func148,Tryz.ntmps148
  go_wp2_with fail
  refine(A3i _ n).mono ?_;rw[hd];rintro e w' ⟨rfl,rfl⟩
  go_wp2
  go_ret;exact⟨rfl,rfl⟩
 have hc:n=1\/n=2\/n=3\/n=4\/n=5\/n=6\/n=7\/n=8:=by omega
 clear c1 hn
 rcases hc with rfl|rfl|rfl|rfl|rfl|rfl|rfl|rfl
 ·rw[show A2g v 1=(v+128)%256-128 from rfl];go_enter Tryz.func148,Tryz.ntmps148
  go_wp2_with fail
  refine(A3i _ 1).mono ?_;rw[show decide ((1:Int)<=1/\(1:Int)<=8)=true from rfl];rintro e w' ⟨rfl,rfl⟩
  go_wp2
  go_ret;exact⟨A2v (by simp only[IntKind.wrap_u64,wrap64]<;>omega),rfl⟩
 ·rw[show A2g v 2=(v+32768)%65536-32768 from rfl];go_enter Tryz.func148,Tryz.ntmps148
  go_wp2_with fail
  refine(A3i _ 2).mono ?_;rw[show decide ((1:Int)<=2/\(2:Int)<=8)=true from rfl];rintro e w' ⟨rfl,rfl⟩
  go_wp2
  go_ret;exact⟨A2v (by simp only[IntKind.wrap_u64,wrap64]<;>omega),rfl⟩
 ·rw[show A2g v 3=(v+8388608)%16777216-8388608 from rfl];go_enter Tryz.func148,Tryz.ntmps148
  go_wp2_with fail
  refine(A3i _ 3).mono ?_;rw[show decide ((1:Int)<=3/\(3:Int)<=8)=true from rfl];rintro e w' ⟨rfl,rfl⟩
  go_wp2
  go_ret;exact⟨A2v (by simp only[IntKind.wrap_u64,wrap64]<;>omega),rfl⟩
 ·rw[show A2g v 4=(v+2147483648)%4294967296-2147483648 from rfl];go_enter Tryz.func148,Tryz.ntmps148
  go_wp2_with fail
  refine(A3i _ 4).mono ?_;rw[show decide ((1:Int)<=4/\(4:Int)<=8)=true from rfl];rintro e w' ⟨rfl,rfl⟩
  go_wp2
  go_ret;exact⟨A2v (by simp only[IntKind.wrap_u64,wrap64]<;>omega),rfl⟩
 ·rw[show A2g v 5=(v+549755813888)%1099511627776-549755813888 from rfl];go_enter Tryz.func148,Tryz.ntmps148
  go_wp2_with fail
  refine(A3i _ 5).mono ?_;rw[show decide ((1:Int)<=5/\(5:Int)<=8)=true from rfl];rintro e w' ⟨rfl,rfl⟩
  go_wp2
  go_ret;exact⟨A2v (by simp only[IntKind.wrap_u64,wrap64]<;>omega),rfl⟩
 ·rw[show A2g v 6=(v+140737488355328)%281474976710656-140737488355328 from rfl];go_enter Tryz.func148,Tryz.ntmps148
  go_wp2_with fail
  refine(A3i _ 6).mono ?_;rw[show decide ((1:Int)<=6/\(6:Int)<=8)=true from rfl];rintro e w' ⟨rfl,rfl⟩
  go_wp2
  go_ret;exact⟨A2v (by simp only[IntKind.wrap_u64,wrap64]<;>omega),rfl⟩
 ·rw[show A2g v 7=(v+36028797018963968)%72057594037927936-36028797018963968 from rfl];go_enter Tryz.func148,Tryz.ntmps148
  go_wp2_with fail
  refine(A3i _ 7).mono ?_;rw[show decide ((1:Int)<=7/\(7:Int)<=8)=true from rfl];rintro e w' ⟨rfl,rfl⟩
  go_wp2
  go_ret;exact⟨A2v (by simp only[IntKind.wrap_u64,wrap64]<;>omega),rfl⟩
 rw[show A2g v 8=(v+9223372036854775808)%18446744073709551616-9223372036854775808 from rfl];go_enter Tryz.func148,Tryz.ntmps148
 go_wp2_with fail
 refine(A3i _ 8).mono ?_;rw[show decide ((1:Int)<=8/\(8:Int)<=8)=true from rfl];rintro e w' ⟨rfl,rfl⟩
 go_wp2
 go_ret;exact⟨A2v (by simp only[IntKind.wrap_u64,wrap64]<;>omega),rfl⟩
structure E3s(w w1:World)(g:Nat)(x y z:Value):Prop where
 c0:w1.cell? ⟨g,0,none⟩=some x
 c1:w1.cell? ⟨g,1,none⟩=some y
 c2:w1.cell? ⟨g,2,none⟩=some z
 f0:w1.frozen? ⟨g,0,none⟩=false
 f1:w1.frozen? ⟨g,1,none⟩=false
 f2:w1.frozen? ⟨g,2,none⟩=false
 lt:g<w1.heap.size
theorem E3s.of{w w1:World}{g:Nat}{x y z:Value}{t:TypeId}(h:w.heap[g]? =some (.cells #[x,y,z] t))(hb:Below w.heap.size w w1):E3s w w1 g x y z:=by
 have hlt:g<w.heap.size:=(Array.getElem?_eq_some_iff.1 h).1;have hg:w1.heap[g]? =some (.cells #[x,y,z] t):=by rw[hb.block _ hlt];exact h
 refine⟨?_,?_,?_,?_,?_,?_,(Array.getElem?_eq_some_iff.1 hg).1⟩
 ·rw[cell_of_row w1 _ 0 _ _ _ hg];rfl
 ·rw[cell_of_row w1 _ 1 _ _ _ hg];rfl
 ·rw[cell_of_row w1 _ 2 _ _ _ hg];rfl
 all_goals (unfold World.frozen?;rw[hg];rfl)
theorem A1e{w:World}{g:Nat}{cs:Array Value}{t:TypeId}{fr:Nat×Nat}(h:w.heap[g]? =some (.cells cs t fr))(o:Nat)(v:Value):(w.setCell ⟨g,o,none⟩ v).heap[g]? =some (.cells (cs.setIfInBounds o v) t fr):=by
 unfold World.setCell;simp[Array.getElem?_modify,h]
def C9x(w:World)(g:Nat)(x y z:Value)(t:TypeId):Prop:=w.heap[g]? =some (.cells #[x,y,z] t)
theorem C9x.below{w w1:World}{g:Nat}{x y z:Value}{t:TypeId}(h:C9x w g x y z t)(hb:Below w.heap.size w w1):C9x w1 g x y z t:=by
 unfold C9x;rw[hb.block _ (Array.getElem?_eq_some_iff.1 h).1];exact h
theorem C9x.box{w:World}{g:Nat}{x y z:Value}{t:TypeId}(h:C9x w g x y z t):E3s w w g x y z:=E3s.of h brz
structure E4e(w:World)(g:Nat)(x y:Value):Prop where
 c0:w.cell? ⟨g,0,none⟩=some x
 c1:w.cell? ⟨g,1,none⟩=some y
 f0:w.frozen? ⟨g,0,none⟩=false
 f1:w.frozen? ⟨g,1,none⟩=false
 lt:g<w.heap.size
def B2t(w:World)(g:Nat)(x y:Value)(t:TypeId):Prop:=w.heap[g]? =some (.cells #[x,y] t)
theorem B2t.box{w:World}{g:Nat}{x y:Value}{t:TypeId}(h:B2t w g x y t):E4e w g x y:=by
 unfold B2t at h;refine⟨?_,?_,?_,?_,(Array.getElem?_eq_some_iff.1 h).1⟩
 ·rw[cell_of_row w _ 0 _ _ _ h];rfl
 ·rw[cell_of_row w _ 1 _ _ _ h];rfl
 all_goals (unfold World.frozen?;rw[h];rfl)
theorem B2t.belowB{w w1:World}{B g:Nat}{x y:Value}{t:TypeId}(h:B2t w g x y t)(hb:Below B w w1)(hlt:g<B):B2t w1 g x y t:=by
 unfold B2t;rw[hb.block _ hlt];exact h
theorem B2t.below{w w1:World}{g:Nat}{x y:Value}{t:TypeId}(h:B2t w g x y t)(hb:Below w.heap.size w w1):B2t w1 g x y t:=h.belowB hb (Array.getElem?_eq_some_iff.1 h).1
theorem B2t.set0{w:World}{g:Nat}{x y v:Value}{t:TypeId}(h:B2t w g x y t):B2t (w.setCell ⟨g,0,none⟩ v) g v y t:=A1e h 0 v
theorem B2t.set1{w:World}{g:Nat}{x y v:Value}{t:TypeId}(h:B2t w g x y t):B2t (w.setCell ⟨g,1,none⟩ v) g x v t:=A1e h 1 v
structure A3j(g:Nat)(w w':World):Prop where
 os:w'.os=w.os
 tape:w'.tape=w.tape
 output:w'.output=w.output
 size:w.heap.size<=w'.heap.size
 block:∀k,k<w.heap.size->k≠g->w'.heap[k]? =w.heap[k]?
theorem A3j.refl(g:Nat)(w:World):A3j g w w:=⟨rfl,rfl,rfl,Nat.le_refl _,fun _ _ _=>rfl⟩
theorem A3j.trans{g:Nat}{w w1 w2:World}(h:A3j g w w1)(k:A3j g w1 w2):A3j g w w2:=
 ⟨k.os.trans h.os,k.tape.trans h.tape,k.output.trans h.output,Nat.le_trans h.size k.size,fun i hi hg=>by rw[k.block i (Nat.lt_of_lt_of_le hi h.size) hg,h.block i hi hg]⟩
theorem A3j.of{g:Nat}{w w1:World}(h:Below w.heap.size w w1):A3j g w w1:=⟨h.os,h.tape,h.output,h.size,fun k hk _=>h.block k hk⟩
theorem A3j.set{g:Nat}{w w1:World}(h:A3j g w w1)(o:Nat)(v:Value):A3j g w (w1.setCell ⟨g,o,none⟩ v):=
 ⟨h.os,h.tape,h.output,by have:=h.size;unfold World.setCell;simpa using this,fun k hk hg=>by
  rw[<-h.block k hk hg];unfold World.setCell;have hne':¬g=k:=fun e=>hg e.symm
  simp[Array.getElem?_modify,hne']⟩
theorem A3j.below{g B:Nat}{w0 w w':World}(h:A3j g w w')(hb:Below B w0 w)(hB:B<=w0.heap.size)(hg:B<=g):Below B w0 w':=
 ⟨h.os.trans hb.os,h.tape.trans hb.tape,h.output.trans hb.output,Nat.le_trans hb.size h.size,fun k hk=>by
  rw[h.block k (Nat.lt_of_lt_of_le (Nat.lt_of_lt_of_le hk hB) hb.size) (by omega)];exact hb.block k hk⟩
def B1p(x:Option Addr)(n g:Nat):Prop:=0<n->∀b off,x=some ⟨b,off,none⟩->b≠g
theorem B1p.new{x off n g:Nat}(h:g≠x):B1p (some ⟨x,off,none⟩) n g:=fun _ b o e=>by cases e;exact Ne.symm h
theorem Sl.keep1{α:Type}{enc:α->Value}{g:Nat}{w w':World}{x:Option Addr}{n:Nat}{xs:List α}(hs:Sl enc w x n xs)(h:A3j g w w')(h1:B1p x n g):Sl enc w' x n xs:=by
 refine⟨hs.1,fun hn=> ?_⟩;obtain⟨b,off,ha,hlt,hc⟩:=hs.2 hn;refine⟨b,off,ha,Nat.lt_of_lt_of_le hlt h.size,fun i hi=> ?_⟩;rw[<-hc i hi];unfold World.cell?;rw[h.block b hlt (h1 hn b off ha)]
end
end Go.Proofs.YtclpkipaehpkdaaGreatDoor
