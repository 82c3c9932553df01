/- asm -/
import Derived.Test.YtclpkipaehpkdaaGreatDoorQ00AsmBack
set_option linter.unusedVariables false
set_option linter.unusedSimpArgs false
set_option maxRecDepth 100000
set_option maxHeartbeats 64000000
open Go.Proofs.Tryz
namespace Go.Proofs.YtclpkipaehpkdaaGreatDoor
section
open Go.ChangeShapes Go.WideShapes Go.ChangeAt Go.RowKit
structure E8j(w:World)(g:Nat)(x y:Value):Prop where
 c0:w.cell? ⟨g,0,none⟩=some x
 c1:w.cell? ⟨g,1,none⟩=some y
 f0:w.frozen? ⟨g,0,none⟩=false
 f1:w.frozen? ⟨g,1,none⟩=false
 lt:g<w.heap.size
def wW(w:World)(g:Nat)(x y:Value)(t:TypeId):Prop:=w.heap[g]? =some (.cells #[x,y] t)
theorem wW.box{w:World}{g:Nat}{x y:Value}{t:TypeId}(h:wW w g x y t):E8j w g x y:=by
 unfold wW at h;refine⟨?_,?_,?_,?_,(Array.getElem?_eq_some_iff.1 h).1⟩
 ·rw[cell_of_row w _ 0 _ _ _ h];rfl
 ·rw[cell_of_row w _ 1 _ _ _ h];rfl
 all_goals (unfold World.frozen?;rw[h];rfl)
theorem wW.belowB{w w1:World}{B g:Nat}{x y:Value}{t:TypeId}(h:wW w g x y t)(hb:Below B w w1)(ZX:g<B):wW w1 g x y t:=by
 unfold wW;rw[hb.block _ ZX];exact h
theorem wW.below{w w1:World}{g:Nat}{x y:Value}{t:TypeId}(h:wW w g x y t)(hb:Below w.heap.size w w1):wW w1 g x y t:=h.belowB hb (Array.getElem?_eq_some_iff.1 h).1
theorem wW.set0{w:World}{g:Nat}{x y v:Value}{t:TypeId}(h:wW w g x y t):wW (w.setCell ⟨g,0,none⟩ v) g v y t:=wZ h 0 v
theorem wW.set1{w:World}{g:Nat}{x y v:Value}{t:TypeId}(h:wW w g x y t):wW (w.setCell ⟨g,1,none⟩ v) g x v t:=wZ h 1 v
structure xV(g:Nat)(w w':World):Prop where
 os:w'.os=w.os
 tape:w'.tape=w.tape
 output:w'.output=w.output
 size:w.heap.size<=w'.heap.size
 block:∀k,k<w.heap.size->k≠g->w'.heap[k]? =w.heap[k]?
theorem xV.refl(g:Nat)(w:World):xV g w w:=⟨rfl,rfl,rfl,Nat.le_refl _,fun _ _ _=>rfl⟩
theorem xV.trans{g:Nat}{w w1 w2:World}(h:xV g w w1)(k:xV g w1 w2):xV g w w2:=
 ⟨k.os.trans h.os,k.tape.trans h.tape,k.output.trans h.output,Nat.le_trans h.size k.size,fun i hi hg=>by rw[k.block i (Nat.lt_of_lt_of_le hi h.size) hg,h.block i hi hg]⟩
theorem xV.of{g:Nat}{w w1:World}(h:Below w.heap.size w w1):xV g w w1:=⟨h.os,h.tape,h.output,h.size,fun k hk _=>h.block k hk⟩
theorem xV.set{g:Nat}{w w1:World}(h:xV g w w1)(o:Nat)(v:Value):xV g w (w1.setCell ⟨g,o,none⟩ v):=
 ⟨h.os,h.tape,h.output,by have:=h.size;unfold World.setCell;simpa using this,fun k hk hg=>by
  rw[<-h.block k hk hg];unfold World.setCell;have Qs:¬g=k:=fun e=>hg e.symm
  simp[Array.getElem?_modify,Qs]⟩
theorem xV.below{g B:Nat}{w0 w w':World}(h:xV g w w')(hb:Below B w0 w)(hB:B<=w0.heap.size)(hg:B<=g):Below B w0 w':=
 ⟨h.os.trans hb.os,h.tape.trans hb.tape,h.output.trans hb.output,Nat.le_trans hb.size h.size,fun k hk=>by
  rw[h.block k (Nat.lt_of_lt_of_le (Nat.lt_of_lt_of_le hk hB) hb.size) (by omega)];exact hb.block k hk⟩
def wX(x:Option Addr)(n g:Nat):Prop:=0<n->∀b off,x=some ⟨b,off,none⟩->b≠g
theorem wX.new{x off n g:Nat}(h:g≠x):wX (some ⟨x,off,none⟩) n g:=fun _ b o e=>by cases e;exact Ne.symm h
theorem Sl.keep1{α:Type}{enc:α->Value}{g:Nat}{w w':World}{x:Option Addr}{n:Nat}{xs:List α}(hs:Sl enc w x n xs)(h:xV g w w')(h1:wX x n g):Sl enc w' x n xs:=by
 refine⟨hs.1,fun hn=> ?_⟩;obtain⟨b,off,ha,ZX,hc⟩:=hs.2 hn;refine⟨b,off,ha,Nat.lt_of_lt_of_le ZX h.size,fun i hi=> ?_⟩;rw[<-hc i hi];unfold World.cell?;rw[h.block b ZX (h1 hn b off ha)]
def yd(e:TypeId)(w w':World):Prop:=w.heap.size<=w'.heap.size/\∀(g:Nat) (cs:Array Value) (t:TypeId) (fr:Nat×Nat),w.heap[g]? =some (.cells cs t fr)->t≠e->w'.heap[g]? =some (.cells cs t fr)
theorem xA{w w':World}{B:Nat}{e e':TypeId}{size:Nat}{v:Value}{n:Nat}{xs:List Value}(h:w.ownsRow B e size v n xs)(hk:yd e' w w')(ZF:e≠e'):w'.ownsRow B e size v n xs:=by
 refine⟨h.1,?_⟩
 rcases h.2 with⟨h1,h2⟩|⟨g,cap,cur,hv,hb,hg,r⟩
 ·exact .inl ⟨h1,h2⟩
 exact .inr ⟨g,cap,cur,hv,hb,hk.2 _ _ _ _ hg ZF,r⟩
theorem ay{w w':World}{B:Nat}{e t:TypeId}{size:Nat}{v:Value}{n g:Nat}{xs:List Value}{o:Obj}{cs:Array Value}{fr:Nat×Nat}(ho:w.ownsRow B e size v n xs)(hg:(w.alloc o).grownBy w' v.ownBlock)(hx:w.heap[g]? =some (.cells cs t fr))(ZF:e≠t):w'.heap[g]? =some (.cells cs t fr):=by
 have ZX:=(Array.getElem?_eq_some_iff.1 hx).1;rw[hg.block g (by simp;omega) ?_,Below.heap_alloc _ _ _ ZX]
 ·exact hx
 intro he
 rcases ho.2 with⟨rfl,_⟩|⟨g2,cap,cur,rfl,_,hg2,_⟩
 ·simp[Value.ownBlock]at he
 simp[Value.ownBlock]at he;subst he;rw[hg2]at hx;simp at hx;exact ZF hx.2.1
theorem yd.app{w w':World}{B:Nat}{e:TypeId}{size:Nat}{v:Value}{n:Nat}{xs:List Value}{o:Obj}(ho:w.ownsRow B e size v n xs)(hg:(w.alloc o).grownBy w' v.ownBlock):yd e w w':=by
 refine⟨?_,fun g cs t fr hx ZF=>ay ho hg hx (Ne.symm ZF)⟩;have h:=hg.size;simp at h;omega
theorem yd.refl{e:TypeId}(w:World):yd e w w:=⟨Nat.le_refl _,fun _ _ _ _ h _=>h⟩
theorem y8{w:World}{g:Nat}{C:Array Value}{t:TypeId}{fr:Nat×Nat}(h:w.heap[g]? =some (.cells C t fr))(k:Nat){v:Value}(hk:C[k]? =some v):w.cell? ⟨g,k,none⟩=some v:=by
 rw[cell_of_row w g k _ _ _ h];exact hk
theorem xQ{w:World}{g:Nat}{C:Array Value}{t:TypeId}(h:w.heap[g]? =some (.cells C t))(k:Nat):w.frozen? ⟨g,k,none⟩=false:=by
 unfold World.frozen?;rw[h];simp
theorem yG{w:World}{g:Nat}{C:Array Value}{t:TypeId}{fr:Nat×Nat}(h:w.heap[g]? =some (.cells C t fr)):g<w.heap.size:=(Array.getElem?_eq_some_iff.1 h).1
theorem yW{w w':World}{g:Nat}{o:Obj}(h:w.heap[g]? =some o)(hb:Below w.heap.size w w'):w'.heap[g]? =some o:=by rw[hb.block g (Array.getElem?_eq_some_iff.1 h).1];exact h
theorem uz{w:World}{c:Nat}{cs:Array Value}{t:TypeId}{fr:Nat×Nat}(h:w.heap[c]? =some (.cells cs t fr))(o:Nat)(v:Value):yd t w (w.setCell ⟨c,o,none⟩ v):=by
 refine⟨by unfold World.setCell;simp,fun i cs' t' fr' hi ZF=> ?_⟩
 have G5:i≠c:=by
  rintro rfl;rw[h]at hi;simp at hi;exact ZF hi.2.1.symm
 unfold World.setCell;have Qs:¬c=i:=fun e=>G5 e.symm
 simp[Array.getElem?_modify,Qs,hi]
theorem wQ{w:World}{g h:Nat}{ob:Obj}(hg:w.heap[g]? =some ob)(ZF:g≠h)(o:Nat)(v:Value):(w.setCell ⟨h,o,none⟩ v).heap[g]? =some ob:=by
 unfold World.setCell;have Qs:¬h=g:=fun e=>ZF e.symm
 simp[Array.getElem?_modify,Qs,hg]
attribute [local go_sem↓] Go.wp_at_zero Go.wp_at_succ
end
end Go.Proofs.YtclpkipaehpkdaaGreatDoor
