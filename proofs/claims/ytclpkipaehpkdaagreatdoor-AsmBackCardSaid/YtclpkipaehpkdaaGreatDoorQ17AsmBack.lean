/- asm -/
import Derived.Test.YtclpkipaehpkdaaGreatDoorQ14AsmBack
import Derived.Deep.CutBlock
set_option linter.unusedVariables false
set_option linter.unusedSimpArgs false
set_option maxRecDepth 100000
set_option maxHeartbeats 64000000
open Go.Proofs.Tryz
namespace Go.Proofs.YtclpkipaehpkdaaGreatDoor
section
open Go.ChangeShapes Go.WideShapes Go.ChangeAt Go.RowKit Go.Maps
abbrev wt:=118
def rz:RW:=⟨0,0,0,0⟩
theorem jD(s:LW)(p:Nat)(l k:List IN):s.raws p (l++k)=(((s.raws p l).1.raws (p+(l.map vH).sum) k).1,(s.raws p l).2++((s.raws p l).1.raws (p+(l.map vH).sum) k).2):=by
 induction l generalizing s p with
 |nil=>simp[LW.raws]
 |cons x l ih=>
  rw[List.cons_append,LW.raws,LW.raws,ih];simp only[List.map_cons,List.sum_cons,List.cons_append,Nat.add_assoc]
theorem rm(s:LW)(p:Nat)(l:List IN):(s.raws p l).2.length=l.length:=by
 induction l generalizing s p with
 |nil=>rfl
 |cons x l ih=>rw[LW.raws,List.length_cons,List.length_cons,ih]
theorem mj(s:LW)(p:Nat)(l:List IN):(s.raws p l).1.l.length<=s.l.length+12*l.length:=by
 induction l generalizing s p with
 |nil=>exact Nat.le_refl _
 |cons x l ih=>
  rw[LW.raws];have h1:=E2r s p x;have h2:=ih (s.raw p x).1 (p+vH x);simp only[List.length_cons];omega
theorem D4w{l:List IN}{j:Nat}{x:IN}(h:l[j]? =some x):yx l (j+1)=yx l j+vH x:=by
 unfold yx;have hj:=(Z4 h).1;rw[List.take_succ_eq_append_getElem hj,(Z4 h).2,List.map_append,List.sum_append];simp
theorem fP(x:IN):vH x<=3:=by
 unfold vH;have:=vg x.op;generalize yX x.op=f at*
 match f,this with
 |0,_|1,_|2,_|3,_|4,_|5,_|6,_|7,_|8,_|9,_=>decide
 |n+10,h=>omega
theorem kZ(l:List IN)(n:Nat):yx l n<=3*n:=by
 unfold yx
 induction n generalizing l with
 |zero=>simp
 |succ n ih=>
  cases l with
  |nil=>simp
  |cons x l=>
  rw[List.take_succ_cons,List.map_cons,List.sum_cons];have h1:=ih l;have h2:=fP x;omega
theorem gY(s:LW)(l:List IN)(j:Nat)(x:IN)(h:l[j]? =some x):
  s.raws 0 (l.take (j+1))=(((s.raws 0 (l.take j)).1.raw (yx l j) x).1,(s.raws 0 (l.take j)).2++[((s.raws 0 (l.take j)).1.raw (yx l j) x).2]):=by
 have hj:=(Z4 h).1;rw[List.take_succ_eq_append_getElem hj,(Z4 h).2,jD];simp only[LW.raws,Nat.zero_add];rfl
theorem kS(s:LW)(l:List IN)(j:Nat)(x:IN)(h:l[j]? =some x):(s.raws 0 l).2[j]? =some ((s.raws 0 (l.take j)).1.raw (yx l j) x).2:=by
 have hj:=(Z4 h).1;have e:l=l.take (j+1)++l.drop (j+1):=(List.take_append_drop _ _).symm;have h1:=jD s 0 (l.take (j+1)) (l.drop (j+1));rw[<-e,gY s l j x h]at h1;rw[h1];have hc:=rm s 0 (l.take j);rw[List.length_take,Nat.min_eq_left (by omega)]at hc;simp only;rw[List.getElem?_append_left (by simp;omega),List.getElem?_append_right (by omega),hc];simp
def wD(R:List RW)(j:Nat):List RW:=(List.range R.length).map fun k=>if k<j then R.getD k rz else rz
theorem jq(R:List RW)(j:Nat):(wD R j).length=R.length:=by simp[wD]
theorem cg(R:List RW):wD R 0=List.replicate R.length rz:=by
 unfold wD;apply List.ext_getElem (by simp);intro i h1 h2;simp
theorem aX(R:List RW):wD R R.length=R:=by
 apply List.ext_getElem (by simp[wD]);intro i h1 h2;simp only[wD,List.getElem_map,List.getElem_range];rw[if_pos h2];simp[List.getD,h2]
theorem D1y(R:List RW)(j:Nat)(r:RW)(h:R[j]? =some r):(wD R j).set j r=wD R (j+1):=by
 have hj:=(Z4 h).1;apply List.ext_getElem (by simp[wD]);intro i h1 h2;rw[List.getElem_set];simp only[wD,List.getElem_map,List.getElem_range];by_cases e:j=i
 ·subst e;rw[if_pos rfl,if_pos (by omega)];simp[List.getD,h]
 rw[if_neg e];by_cases h3:i<j
 ·rw[if_pos h3,if_pos (by omega)]
 rw[if_neg h3,if_neg (by omega)]
def iz:IN:=⟨0,0,0,[],[],[],[]⟩
def vf(l:List IN)(R:List RW)(j:Nat):List RW:=(List.range R.length).map fun k=>if k<j then vN l (l.getD k iz) (R.getD k rz)else R.getD k rz
theorem ag(l:List IN)(R:List RW)(j:Nat):(vf l R j).length=R.length:=by simp[vf]
theorem cH(l:List IN)(R:List RW):vf l R 0=R:=by
 unfold vf;apply List.ext_getElem (by simp);intro i h1 h2;simp[List.getD,h2]
theorem bi(l:List IN)(R:List RW)(h:R.length=l.length):vf l R R.length=vp l R:=by
 unfold vf vp;apply List.ext_getElem (by simp[h]);intro i h1 h2;have hi:i<R.length:=by simpa using h1
 have Rv:i<l.length:=by omega
 simp[List.getD,hi,Rv]
theorem hZ(l:List IN)(R:List RW)(j:Nat)(r:RW)(h:R[j]? =some r):(vf l R j)[j]? =some r:=by
 unfold vf;have hj:=(Z4 h).1;rw[List.getElem?_map,List.getElem?_range hj];simp[List.getD,h]
theorem jd(l:List IN)(R:List RW)(j:Nat)(x:IN)(r:RW)(hx:l[j]? =some x)(h:R[j]? =some r):(vf l R j).set j (vN l x r)=vf l R (j+1):=by
 have hj:=(Z4 h).1;apply List.ext_getElem (by simp[vf]);intro i h1 h2;rw[List.getElem_set];simp only[vf,List.getElem_map,List.getElem_range];by_cases e:j=i
 ·subst e;rw[if_pos rfl,if_pos (by omega)];simp[List.getD,h,hx]
 rw[if_neg e];by_cases h3:i<j
 ·rw[if_pos h3,if_pos (by omega)]
 rw[if_neg h3,if_neg (by omega)]
theorem cx(l:List IN)(R:List RW)(j:Nat)(x:IN)(r:RW)(hx:l[j]? =some x)(h:R[j]? =some r)(hb:vN l x r=r):vf l R (j+1)=vf l R j:=by
 rw[<-jd l R j x r hx h,hb];have h1:=hZ l R j r h;have hj:=(Z4 h1).1
 conv=>lhs;rw[<-(Z4 h1).2]
 exact List.set_getElem_self hj
theorem D5q(s:LW)(l k:List IN)(x:IN):s.goes l (k++[x])=if yX x.op=7 then(s.goes l k).need (inB l x.n) 2 else s.goes l k:=by
 induction k generalizing s with
 |nil=>rfl
 |cons y k ih=>rw[List.cons_append,LW.goes,LW.goes,ih]
theorem E7n(s:LW)(l k:List IN):(s.goes l k).l=s.l:=by
 induction k generalizing s with
 |nil=>rfl
 |cons y k ih=>
  rw[LW.goes,ih];split<;>rfl
theorem kX(s:LW)(c:KV)(n:Nat)(h:(s.put c).1.l.length<=n):(s.put c).2<=n:=Nat.le_of_lt (Nat.lt_of_lt_of_le (uY s c) h)
theorem kB(s:LW)(x:IN):(s.con x).2<=s.l.length+4:=by
 unfold LW.con;split
 ·have h:=sg (s.need (vu x.n) 8) ⟨3,0,0,x.n,[]⟩;have h0:(s.need (vu x.n) 8).l=s.l:=rfl;rw[h0]at h;omega
 split
 ·have h1:=wq s x.tx;have h2:=sg (s.text x.tx).1 ⟨8,((s.text x.tx).2:Nat),0,0,[]⟩;omega
 split
 ·have h:=sg s ⟨5,0,0,x.n,[]⟩;omega
 show 0<=_;omega
theorem eV(s:LW)(x:IN):(s.wide x).2<=s.l.length+12:=by
 have h:=gA s x;unfold LW.wide at h⊢;split
 ·next h1=>rw[if_pos h1]at h;exact kX _ _ _ h
 next h1=>
 rw[if_neg h1]at h;split
 ·next h2=>rw[if_pos h2]at h;exact kX _ _ _ h
 next h2=>rw[if_neg h2]at h;exact kX _ _ _ h
theorem E7p(s:LW)(p:Nat)(x:IN)(hs:s.l.length<=1000000000000)(hx:x.op<256)(hp:p<=1048576):xZ (s.raw p x).2.pos/\xZ (s.raw p x).2.a/\(s.raw p x).2.op<256:=by
 have hc:=kB (s.need (decide (x.cl=[]/\x.nm=[]/\x.m=0)) 8) x;have h0:(s.need (decide (x.cl=[]/\x.nm=[]/\x.m=0)) 8).l=s.l:=rfl;rw[h0]at hc;have hw:=eV s x;have hz:∀q:Nat,q<=1000000000012->xZ (q:Int):=fun q hq=>xp (by omega)
 have hr:xZ (vP x.n):=xp (by unfold vP;omega);unfold LW.raw;split
 ·exact⟨hz p (by omega),hz _ (by omega),hx⟩
 split
 ·exact⟨hz p (by omega),hz _ (by omega),hx⟩
 split
 ·exact⟨hz p (by omega),hz 0 (by omega),hx⟩
 exact⟨hz p (by omega),hr,hx⟩
theorem E2b(s:LW)(l:List IN)(hs:s.l.length<=999990000000)(hn:l.length<=4096)(hf:∀x∈l,x.op<256):∀r∈vp l (s.raws 0 l).2,xZ r.pos/\xZ r.a/\r.op<256:=by
 intro r hr;unfold vp at hr;obtain⟨⟨x,r0⟩,hm,rfl⟩:=List.mem_map.1 hr;obtain⟨j,hj,he⟩:=List.getElem_of_mem hm;have YP:j<l.length:=by simp at hj;omega
 rw[List.getElem_zip]at he;simp only[Prod.mk.injEq]at he;have hx:l[j]? =some x:=by rw[List.getElem?_eq_getElem YP,he.1]
 have h1:=kS s l j x hx;have zj:j<(s.raws 0 l).2.length:=by rw[rm];exact YP
 rw[List.getElem?_eq_getElem zj,he.2]at h1;have h2:=mj s 0 (l.take j);rw[List.length_take]at h2;have h3:=E7p (s.raws 0 (l.take j)).1 (yx l j) x (by omega) (hf x (List.mem_of_getElem? hx)) (by have:=kZ l j;omega);rw[<-Option.some.inj h1]at h3;simp only;unfold vN;split
 ·exact⟨h3.1,xp (by have:=kZ l x.n.toNat;next hb=>have:=hb.2;unfold inB at this;rw[decide_eq_true_iff]at this;dsimp only;omega),h3.2.2⟩
 exact h3
def xf(l:List IN)(j:Nat):List Int:=(List.range (l.length+1)).map fun k=>if k<=j then(yx l k:Int)else 0
theorem dd(l:List IN)(j:Nat):(xf l j).length=l.length+1:=by simp[xf]
theorem dC(l:List IN):xf l 0=List.replicate (l.length+1) 0:=by
 apply List.ext_getElem (by simp[xf]);intro i h1 h2;simp only[xf,List.getElem_map,List.getElem_range,List.getElem_replicate];split
 ·next h=>
       obtain rfl:i=0:=by omega
       simp[yx]
 rfl
theorem pJ(l:List IN)(j k:Nat)(h:k<=j)(hj:k<=l.length):(xf l j)[k]? =some (yx l k:Int):=by
 unfold xf;rw[List.getElem?_map,List.getElem?_range (by omega)];simp[h]
theorem cT(l:List IN)(j:Nat)(h:j<l.length):(xf l j).set (j+1) (yx l (j+1):Int)=xf l (j+1):=by
 apply List.ext_getElem (by simp[xf]);intro i h1 h2;rw[List.getElem_set];simp only[xf,List.getElem_map,List.getElem_range];by_cases e:j+1=i
 ·subst e;rw[if_pos rfl,if_pos (by omega)]
 rw[if_neg e];by_cases h3:i<=j
 ·rw[if_pos h3,if_pos (by omega)]
 rw[if_neg h3,if_neg (by omega)]
theorem ak{α:Type}{z:Nat}{enc:α->List Value}(hz:∀x,(enc x).length=z)(R:List α)(j:Nat)(r:α)(hj:j<R.length):
  (R.flatMap enc).take (j*z)++enc r++(R.flatMap enc).drop (j*z+z)=(R.set j r).flatMap enc:=by
 have e:R=R.take j++R[j]::R.drop (j+1):=by simp
 have hA:((R.take j).flatMap enc).length=j*z:=by rw[td hz,List.length_take,Nat.min_eq_left (by omega)]
 have hs:R.set j r=R.take j++r::R.drop (j+1):=by rw[List.set_eq_take_append_cons_drop,if_pos hj]
 have hf:R.flatMap enc=(R.take j).flatMap enc++(enc R[j]++(R.drop (j+1)).flatMap enc):=by
  conv=>lhs;rw[e]
  rw[List.flatMap_append,List.flatMap_cons]
 rw[hs,List.flatMap_append,List.flatMap_cons,hf];rw[List.take_left' hA,<-List.append_assoc,List.drop_left' (by rw[List.length_append,hA,hz]),List.append_assoc]
theorem E0h{α:Type}{z:Nat}{enc:α->List Value}(hz:∀x,(enc x).length=z)(R:List α)(j o:Nat)(r:α)(v:Value)(hj:j<R.length)(ho:o<z)(he:(enc R[j]).set o v=enc r):
  (R.flatMap enc).set (j*z+o) v=(R.set j r).flatMap enc:=by
 have e:R=R.take j++R[j]::R.drop (j+1):=by simp
 have hA:((R.take j).flatMap enc).length=j*z:=by rw[td hz,List.length_take,Nat.min_eq_left (by omega)]
 have hs:R.set j r=R.take j++r::R.drop (j+1):=by rw[List.set_eq_take_append_cons_drop,if_pos hj]
 have hf:R.flatMap enc=(R.take j).flatMap enc++(enc R[j]++(R.drop (j+1)).flatMap enc):=by
  conv=>lhs;rw[e]
  rw[List.flatMap_append,List.flatMap_cons]
 rw[hs,List.flatMap_append,List.flatMap_cons,hf,List.set_append_right _ _ (by omega),hA,Nat.add_sub_cancel_left,List.set_append_left _ _ (by rw[hz];exact ho),he]
def wS(w:World)(g:Nat)(R:List RW):Prop:=w.heap[g]? =some (.cells (R.flatMap RW.cells).toArray wt (0,0))
def wm(w:World)(g:Nat)(P:List Int):Prop:=w.heap[g]? =some (.cells (P.map (Value.int .i64)).toArray 3 (0,0))
theorem wS.keepL{B:Nat}{w w':World}{g:Nat}{R:List RW}(h:wS w g R)(hk:yR B w w'):wS w' g R:=hk.row h (by decide) (by decide)
theorem wm.keepL{B:Nat}{w w':World}{g:Nat}{R:List Int}(h:wm w g R)(hk:yR B w w'):wm w' g R:=hk.row h (by decide) (by decide)
theorem wS.below{w w':World}{g:Nat}{R:List RW}(h:wS w g R)(hb:Below w.heap.size w w'):wS w' g R:=yW h hb
theorem wm.below{w w':World}{g:Nat}{R:List Int}(h:wm w g R)(hb:Below w.heap.size w w'):wm w' g R:=yW h hb
theorem wm.cell{w:World}{g:Nat}{P:List Int}(h:wm w g P){k:Nat}{v:Int}(hk:P[k]? =some v):w.cell? ⟨g,k,none⟩=some (.int .i64 v):=y8 h k (by simp[hk])
theorem wm.set{w:World}{g:Nat}{P:List Int}(h:wm w g P)(k:Nat)(v:Int):wm (w.setCell ⟨g,k,none⟩ (.int .i64 v)) g (P.set k v):=by
 have h1:=wZ h k (.int .i64 v);unfold wm;rw[h1,List.map_set];simp
theorem wS.ss{w:World}{g:Nat}{R:List RW}(h:wS w g R):Rs w (some ⟨g,0,none⟩) R.length R:=by
 refine⟨rfl,fun hn=>⟨g,0,rfl,yG h,fun i hi j hj=> ?_⟩⟩;rw[Nat.zero_add];have hc:=qg RW.cells_length R i hi j hj;have ZX:j<(RW.cells R[i]).length:=by rw[RW.cells_length];exact hj
 rw[List.getElem?_eq_getElem ZX]at hc⊢;exact y8 h (i*4+j) (by simpa using hc)
theorem wS.setA{w:World}{g:Nat}{R:List RW}(h:wS w g R)(i:Nat)(hi:i<R.length)(v:Int):wS (w.setCell ⟨g,i*4+2,none⟩ (.int .i64 v)) g (R.set i {R[i]with a:=v}):=by
 have h1:=wZ h (i*4+2) (.int .i64 v);have h2:=E0h RW.cells_length R i 2 {R[i]with a:=v} (.int .i64 v) hi (by omega) rfl;unfold wS;rw[h1,<-h2];simp
theorem wS.cellA{w:World}{g:Nat}{R:List RW}(h:wS w g R)(i:Nat)(hi:i<R.length):w.cell? ⟨g,i*4+2,none⟩=some (.int .i64 R[i].a):=by
 have hc:=qg RW.cells_length R i hi 2 (by omega);exact y8 h (i*4+2) (by simpa[RW.cells]using hc)
theorem below_setRow{B:Nat}{w:World}{g:Nat}(h:B<=g)(cs:Array Value):Below B w (w.setRow g cs):=
 ⟨rfl,rfl,rfl,by simp[World.setRow],fun k hk=>setRow_other w g k cs (by omega)⟩
theorem sH{w:World}{g:Nat}{cs cs':Array Value}{t:TypeId}{fr:Nat×Nat}(h:w.heap[g]? =some (.cells cs t fr)):yd t w (w.setRow g cs'):=by
 refine⟨by simp[World.setRow],fun k cs2 t2 fr2 hk ZF=> ?_⟩
 rw[setRow_other w g k cs' (by
  rintro rfl;rw[h]at hk
  cases hk
  exact ZF rfl)]
 exact hk
theorem LoS.setR{w:World}{B g:Nat}{s:LW}{h9:Nat}{cs:Array Value}{t:TypeId}{fr:Nat×Nat}(h:LoS w B g s)(hx:w.heap[h9]? =some (.cells cs t fr))(h1:t≠x7)(h2:t≠wi)(h0:0<h9)(cs':Array Value):LoS (w.setRow h9 cs') B g s:=by
 obtain⟨a,cap,b,h⟩:=h;have Zt:=sH (cs':=cs') hx
 have ZF:b≠h9:=by
  rintro rfl;obtain⟨es,cl,hm⟩:=h.m.obj;rw[hm]at hx
  cases hx
 have MT:w.grownBy (w.setRow h9 cs') (some h9):=⟨rfl,rfl,rfl,by simp[World.setRow],fun k _ hk=>setRow_other w h9 k cs' (fun e=>hk (by rw[e]))⟩;refine⟨a,cap,b,⟨Zt.2 _ _ _ _ h.k (Ne.symm h2),xA h.o Zt (Ne.symm h1),h.m.kept MT (by simpa using ZF),h.bB,h.gB,h.B0,?_⟩⟩;obtain⟨m,hm⟩:=h.vw;refine⟨m,?_⟩;rw[<-hm];unfold World.cell?;rw[setRow_other w h9 0 cs' (by omega)]
theorem E3k:(prog.info? wt).map (fun i=>(i.zero,i.size,i.bytes))=some (some (.agg #[.int .i64 0,.int .u8 0,.int .i64 0,.int .i64 0]),4,32):=by kernel_rfl
theorem E3i:(prog.info? 3).map (fun i=>(i.zero,i.size,i.bytes))=some (some (.int .i64 0),1,8):=by kernel_rfl
theorem D3v(n:Nat):madeCells (Value.agg #[.int .i64 0,.int .u8 0,.int .i64 0,.int .i64 0]).cells (n*4)=((List.replicate n rz).flatMap RW.cells).toArray:=by
 apply Array.ext
 ·rw[size_madeCells,List.size_toArray,td RW.cells_length,List.length_replicate]
 intro i h1 h2;rw[size_madeCells]at h1;have hi:i/4<(List.replicate n rz).length:=by rw[List.length_replicate];omega
 have hc:=qg RW.cells_length (List.replicate n rz) (i/4) hi (i%4) (by omega);rw[show i/4*4+i%4=i by omega,List.getElem_replicate]at hc;have h3:((List.replicate n rz).flatMap RW.cells).toArray[i]=((List.replicate n rz).flatMap RW.cells)[i]'(by simpa using h2):=by simp
 rw[h3];have h4:=List.getElem?_eq_getElem (l:=(List.replicate n rz).flatMap RW.cells) (i:=i) (by simpa using h2);rw[hc]at h4
 have h5:(madeCells (Value.agg #[.int .i64 0,.int .u8 0,.int .i64 0,.int .i64 0]).cells (n*4))[i]'(by rw[size_madeCells];exact h1)=(#[Value.int .i64 0,.int .u8 0,.int .i64 0,.int .i64 0])[i%4]! :=by
  simp[madeCells,Value.cells]
 rw[h5];have h6:i%4=0\/i%4=1\/i%4=2\/i%4=3:=by omega
 have h7:(RW.cells rz)[i%4]? =some ((#[Value.int .i64 0,.int .u8 0,.int .i64 0,.int .i64 0])[i%4]!):=by
  rcases h6 with h|h|h|h<;>rw[h]<;>rfl
 rw[h7]at h4;exact Option.some.inj h4
theorem D4h(n:Nat):madeCells (Value.int .i64 0).cells n=((List.replicate n (0:Int)).map (Value.int .i64)).toArray:=by
 apply Array.ext
 ·simp[madeCells]
 intro i h1 h2;simp[madeCells,Value.cells,Nat.mod_one]
theorem D4k(w:World)(n:Nat)(h:n<=1048576):(Instr.makeSlice 112 (.int .i64 n) (.int .i64 n)).run prog w= .ok (.slice (some ⟨w.heap.size,0,none⟩) n n) (w.alloc (.cells ((List.replicate n rz).flatMap RW.cells).toArray wt)):=by
 obtain⟨i,hi,RQ,Wi,U9⟩:=info_parts E3k;have hr:=run_makeSlice (P:=prog) (w:=w) 112 wt i _ underlying112 hi RQ .i64 .i64 n n (by omega) (Int.le_refl _) (by rw[Wi];omega) (by rw[U9];omega) (by omega);rw[Wi]at hr;simp only[Int.toNat_natCast]at hr;rw[D3v]at hr;exact hr
theorem cJ(w:World)(n:Nat)(h:n<=1048576):(Instr.makeSlice 138 (.int .i64 ((n:Int)+1)) (.int .i64 ((n:Int)+1))).run prog w= .ok (.slice (some ⟨w.heap.size,0,none⟩) (n+1) (n+1)) (w.alloc (.cells ((List.replicate (n+1) (0:Int)).map (Value.int .i64)).toArray 3)):=by
 obtain⟨i,hi,RQ,Wi,U9⟩:=info_parts E3i;have hr:=run_makeSlice (P:=prog) (w:=w) 138 3 i (.int .i64 0) underlying138 hi RQ .i64 .i64 ((n+1:Nat):Int) ((n+1:Nat):Int) (by omega) (Int.le_refl _) (by rw[Wi];omega) (by rw[U9];omega) (by omega);rw[Wi]at hr;simp only[Int.toNat_natCast,Nat.mul_one]at hr;rw[D4h]at hr;rw[show((n:Int)+1)=((n+1:Nat):Int) by omega];exact hr
theorem dP{P:Program}{ops:Array Oper}{rest:List Oper}{op:Oper}{a:Act}{w:World}{Q:Exit->Act->World->Prop}(XF:op.guard=none)(ty:TypeId)(x y:Operand)(ho:op.op= .store ty x y)
  (b o:Nat) (cells:Array Value) (hx:a.eval x= .pointer (some ⟨b,o,none⟩)) (hy:a.eval y= .agg cells) (cur:Array Value) (t:TypeId)
  (hg:w.heap[b]? =some (.cells cur t (0,0))) (ST:o+cells.size<=cur.size) (hi:(P.info? ty).map (·.size)=some cells.size) (h1:cells.all (·.oneCell')=true)
  (h:wpList P ops Q rest (a.put op.dst undef) (w.setRow b (cur.toList.take o++cells.toList++cur.toList.drop (o+cells.size)).toArray)):wpList P ops Q (op::rest) a w:=by
 refine wpList_plain XF fun K hK=> ?_
 have Xa:(storeVar ty ⟨b,o,none⟩ (.agg cells)).run P w= .ok () (w.setRow b (cur.toList.take o++cells.toList++cur.toList.drop (o+cells.size)).toArray):=by
  have:=run_storeCells_at (P:=P) b o t cells.toList 0 cur w hg (by simpa using ST) (fun v hv=>(Array.all_eq_true_iff_forall_mem.1 h1) v (by simpa using hv))
  cases hq:P.info? ty with
  |none=>simp[hq]at hi
  |some i=>
  have hs:cells.size=i.size:=by simp[hq]at hi;omega
  simp only[Nat.add_zero,Array.length_toList]at this;simp[storeVar,sizeOf,typeInfo,hq,Value.cells,hs,Sem.run_bind]at this⊢;exact this
 unfold Oper.wp execOp;simp only[ho,hx,hy,Instr.storeAt,Instr.sureAddr,Sem.run_bind,Sem.run_pure,Result.andThen_ok,Xa];exact hK _ _ h
theorem wS.setR{w:World}{g:Nat}{R:List RW}(h:wS w g R)(j:Nat)(hj:j<R.length)(r:RW):
  wS (w.setRow g (((R.flatMap RW.cells).toArray).toList.take (j*4)++(RW.cells r).toArray.toList++((R.flatMap RW.cells).toArray).toList.drop (j*4+(RW.cells r).toArray.size)).toArray) g (R.set j r):=by
 have h1:=setRow_heap w g _ (((R.flatMap RW.cells).toArray).toList.take (j*4)++(RW.cells r).toArray.toList++((R.flatMap RW.cells).toArray).toList.drop (j*4+(RW.cells r).toArray.size)).toArray _ _ h;have h2:=ak RW.cells_length R j r hj;unfold wS;rw[h1,<-h2];rfl
def mA(B g:Nat)(s:LW)(l:List IN)(n:Nat)(w:World)(e:Ending)(w':World):Prop:=
 ∃ba bn bc ga,e= .returned (.tuple #[.slice ba bn bc,.slice (some ⟨ga,0,none⟩) (n+1) (n+1)])/\wM w' w.heap.size (.slice ba bn bc) bn (s.code l).2/\Sl yp w' ba bn (s.code l).2/\bn<=bc/\wm w' ga (xf l l.length)/\w.heap.size<=ga/\LoS w' B g (s.code l).1/\yR B w w'
structure CdJ(w V:World)(B g gr ga gx gy:Nat)(R:List RW)(P:List Int)(x:IN)(r:RW)(s:LW):Prop where
 hs:LoS V B g s
 hk:yR B w V
 hr:wS V gr R
 ha:wm V ga P
 hx:yJ gx x V
 hy:V.heap[gy]? =some (.cells r.cells.toArray wt (0,0))
theorem CdJ.call{w V V':World}{B g gr ga gx gy:Nat}{R:List RW}{P:List Int}{x:IN}{r:RW}{s s':LW}(h:CdJ w V B g gr ga gx gy R P x r s)(hs:LoS V' B g s')(hk:yR B V V'):CdJ w V' B g gr ga gx gy R P x r s':=
 ⟨hs,h.hk.trans hk,h.hr.keepL hk,h.ha.keepL hk,h.hx.keepL hk,hk.row h.hy (by decide) (by decide)⟩
theorem CdJ.below{w V V':World}{B g gr ga gx gy:Nat}{R:List RW}{P:List Int}{x:IN}{r:RW}{s:LW}(h:CdJ w V B g gr ga gx gy R P x r s)(hb:Below V.heap.size V V'):CdJ w V' B g gr ga gx gy R P x r s:=
 h.call (h.hs.below hb) (yR.of hb)
theorem CdJ.put{w V:World}{B g gr ga gx gy:Nat}{R:List RW}{P:List Int}{x:IN}{r r':RW}{s:LW}(h:CdJ w V B g gr ga gx gy R P x r s)(hw:w.heap.size<=gy)(h0:0<w.heap.size)(h1:gr≠gy)(h2:ga≠gy)(h3:gx≠gy)(o:Nat)(v:Value)(he:r.cells.toArray.setIfInBounds o v=r'.cells.toArray):CdJ w (V.setCell ⟨gy,o,none⟩ v) B g gr ga gx gy R P x r' s:=
 ⟨h.hs.setO h.hy (by decide) (by decide) (by omega) o v,h.hk.thenB (Z6.setCell hw v),wQ h.hr h1 o v,wQ h.ha h2 o v,wQ h.hx h3 o v,by rw[<-he];exact wZ h.hy o v⟩
theorem gX:(prog.info? wt).map (·.size)=some 4:=by kernel_rfl
theorem wM.keepL{B:Nat}{w w':World}{B':Nat}{v:Value}{m:Nat}{bs:List UInt8}(h:wM w B' v m bs)(hk:yR B w w'):wM w' B' v m bs:=by
 rcases h with h|⟨g,C,rfl,hg,h⟩
 ·exact .inl (yR.own h hk (by decide) (by decide))
 have CU:=hk.row hg (by decide) (by decide);refine .inr ⟨g,C,rfl,CU,h.1,fun hn=> ?_⟩;obtain⟨b,off,ha,ZX,hc⟩:=h.2 hn;simp only[Option.some.injEq,Addr.mk.injEq]at ha;obtain⟨rfl,rfl,_⟩:=ha;refine⟨g,0,rfl,Nat.lt_of_lt_of_le ZX hk.size,fun i hi=> ?_⟩;rw[<-hc i hi];unfold World.cell?;rw[hg,CU]
theorem wM.mono{w:World}{B B':Nat}{v:Value}{m:Nat}{bs:List UInt8}(h:wM w B v m bs)(hB:B'<=B):wM w B' v m bs:=by
 rcases h with h|h
 ·exact .inl (wg h hB)
 exact .inr h
theorem wM.slK{B:Nat}{w w':World}{B':Nat}{a:Option Addr}{c m:Nat}{bs:List UInt8}(h:wM w B' (.slice a m c) m bs)(hk:yR B w w')(_hs:Sl yp w a m bs):Sl yp w' a m bs:=by
 obtain⟨a',c',e,hs,_⟩:=(h.keepL hk).sl
 cases e
 exact hs
def rB(g:Nat)(x:IN)(w:World):Prop:=yJ g x w
def tC(w w':World):Prop:=Below w.heap.size w w'
theorem iD(r:RW):r.cells.toArray.all (·.oneCell')=true:=by simp[RW.cells,Value.oneCell']
theorem aG(w:World)(B g:Nat)(s:LW)(a:Option Addr)(n cap:Nat)(l:List IN)(h:LoS w B g s)(hl:Ss 7 IN.cells w a n l)(hb:rZ B a n)(hf:∀x∈l,vd x)(hn:n<=4096)(hsz:s.l.length<=999990000000)(hB:B<=w.heap.size)(N9:0<B):
  Calls prog 73 #[.pointer (some ⟨g,0,none⟩),.slice a n cap] w (mA B g s l n w):=by
 have YZ:=Z' h;have HL:=Z' hl;have Zd:=Z' hl.1;have Jj:=Z' hb;have HF:=Z' hf;have Xj:=Z' hB;have VB:0<w.heap.size:=by omega
 have Ru:∀W,(Instr.makeSlice 112 (.int .i64 n) (.int .i64 n)).run prog W= .ok (.slice (some ⟨W.heap.size,0,none⟩) n n) (W.alloc (.cells ((List.replicate n rz).flatMap RW.cells).toArray wt)):=fun W=>D4k W n (by omega)
 have Gz:∀W,(Instr.makeSlice 138 (.int .i64 ((n:Int)+1)) (.int .i64 ((n:Int)+1))).run prog W= .ok (.slice (some ⟨W.heap.size,0,none⟩) (n+1) (n+1)) (W.alloc (.cells ((List.replicate (n+1) (0:Int)).map (Value.int .i64)).toArray 3)):=fun W=>cJ W n (by omega)
 generalize Wi:((List.replicate n rz).flatMap RW.cells).toArray=Z1 at*;generalize U9:((List.replicate (n+1) (0:Int)).map (Value.int .i64)).toArray=Z2 at*;have Uw:=Z' Wi;have Su:=Z' U9;clear h hl hb hf hB Wi U9;go_enter func73,ntmps73
 go_upto_region 3 with fail
 clear Ru Gz;have ZN:Below w.heap.size w ((w.alloc (.cells Z1 wt)).alloc (.cells Z2 3)):=((Below.refl w.heap.size w).alloc Z5 _).alloc (by simp) _
 have Cp:=Z' (show wS ((w.alloc (.cells Z1 wt)).alloc (.cells Z2 3)) w.heap.size (wD (s.raws 0 l).2 0) by
  unfold wS;rw[cg,rm,Zd.out,Uw.out,Below.heap_alloc _ _ _ (by simp)];exact heap_alloc_last w _)
 have L8:=Z' (show wm ((w.alloc (.cells Z1 wt)).alloc (.cells Z2 3)) (w.heap.size+1) (xf l 0) by
  unfold wm;rw[dC,Zd.out,Su.out];have h:=heap_alloc_last (w.alloc (.cells Z1 wt)) (.cells Z2 3);rw[show(w.alloc (.cells Z1 wt)).heap.size=w.heap.size+1 by simp]at h;exact h)
 have SE:=Z' (YZ.out.below ZN);have Xm:=Z' (yR.of ZN:yR B w ((w.alloc (.cells Z1 wt)).alloc (.cells Z2 3)));have Fv:w.heap.size+1<((w.alloc (.cells Z1 wt)).alloc (.cells Z2 3)).heap.size:=by simp
 clear ZN Uw Su;generalize(w.alloc (.cells Z1 wt)).alloc (.cells Z2 3)=W0 at*
 go_wp2_with fail
 go_loopg [26] n (fun gn i wr=>∃j:Nat,j<=n/\gn=n-j/\i= .int .i64 j/\Hid (LoS wr B g (s.raws 0 (l.take j)).1)/\Hid (yR B w wr)/\Hid (wS wr w.heap.size (wD (s.raws 0 l).2 j))/\Hid (wm wr (w.heap.size+1) (xf l j)))
 case atStart=>exact⟨0,by omega,by omega,by go_num,SE,Xm,Cp,L8⟩
 clear SE Xm Cp L8 Fv;obtain⟨j,hj,rfl,rfl,HS,HK,HR,HA⟩:=hrel;by_cases ZX:j<n
 ·obtain⟨b,off,x,rfl,Zu,hx,q⟩:=(HK.out.ss HL.out Jj.out).getC j ZX;have q0:=q 0 (by omega);have q1:=q 1 (by omega);have q2:=q 2 (by omega);have q3:=q 3 (by omega);have q4:=q 4 (by omega);have q5:=q 5 (by omega);have q6:=q 6 (by omega);rw[Nat.add_zero]at q0;simp only[IN.cells,List.getElem?_cons_zero,List.getElem?_cons_succ]at q0 q1 q2 q3 q4 q5 q6;have XZ:(j:Int)<n:=by omega
  have Sk:=Z' (HF.out x (List.mem_of_getElem? hx));have YW:=Z' (gY s l j x hx);have QQ:=Z' (kS s l j x hx);have Mu:=Z' (D4w hx)
  have ZR:((s.raws 0 (l.take j)).1).l.length<=s.l.length+12*j:=by
   have h1:=mj s 0 (l.take j);rw[List.length_take,Zd.out,Nat.min_eq_left hj]at h1;exact h1
  generalize s.raws 0 (l.take j)=SJ at*;obtain⟨sj,lj⟩:=SJ;dsimp only at HS YW QQ ZR;obtain⟨p,hp⟩:=Z8 (yx l j);have Gd:p<=3*j:=by rw[hp];exact kZ l j
  rw[<-hp]at YW QQ Mu;have HP:=Z' hp;obtain⟨X,hX⟩:=Z8 (x);rw[<-hX]at Sk YW QQ Mu;have Yp:=Z' hX;obtain⟨op,nn,mm,cl,nm,ds,tx⟩:=x;clear q hx hp hX
  go_upto_region 6 with fail
  have ZY:=yV wr (.cells #[.int .u8 (op:Nat),.int .i64 nn,.int .i64 mm,.string ⟨cl.toArray⟩,.string ⟨nm.toArray⟩,.string ⟨ds.toArray⟩,.string ⟨tx.toArray⟩] yU);have Zh:=Z' (show yJ wr.heap.size X (wr.alloc (.cells #[.int .u8 (op:Nat),.int .i64 nn,.int .i64 mm,.string ⟨cl.toArray⟩,.string ⟨nm.toArray⟩,.string ⟨ds.toArray⟩,.string ⟨tx.toArray⟩] yU)) by rw[Yp.out];exact heap_alloc_last wr _);have Aw:w.heap.size+1<wr.heap.size:=yG HA.out;have ZJ:=Z' (HS.out.below ZY);have Za:=Z' (HK.out.trans (yR.of ZY));have P9:=Z' (HR.out.below ZY);have Wm:=Z' (HA.out.below ZY);have Lm:(wr.alloc (.cells #[.int .u8 (op:Nat),.int .i64 nn,.int .i64 mm,.string ⟨cl.toArray⟩,.string ⟨nm.toArray⟩,.string ⟨ds.toArray⟩,.string ⟨tx.toArray⟩] yU)).heap.size=wr.heap.size+1:=by simp
  clear ZY q0 q1 q2 q3 q4 q5 q6 HS HK HR HA Zu;generalize wr.alloc _=W at*;generalize wr.heap.size=gx at*;have MV:=Z' Lm;have pa:W.cell? ⟨w.heap.size+1,j,none⟩=some (.int .i64 (p:Nat)):=Wm.out.cell (by rw[HP.out];exact pJ l j j Z5 (by rw[Zd.out];exact hj));have po:W.cell? ⟨gx,0,none⟩=some (.int .u8 (op:Nat)):=by have h:=Zh.out.box.c0;rw[Yp.out]at h;exact h
  have FF:(j:Int)<n+1:=by omega
  clear Lm;have l0:∀z,tC W z->z.cell? ⟨w.heap.size+1,j,none⟩=some (.int .i64 (p:Nat)):=fun z h=>yF h pa
  have l1:∀z,tC W z->z.cell? ⟨gx,0,none⟩=some (.int .u8 (op:Nat)):=fun z h=>yF h po
  have Z3:tC W W.drew:=Z6.drew
  refine ye (tC W) (.of [(0,true),(1,true),(2,true),(3,true),(4,true),(5,true),(6,true),(7,false),(8,false)] (.stir [])) (by kernel_rfl) (by kernel_rfl) (fun c a d v w h=>by cases d<;>exact h) ?_
  iterate 7
   refine yY fun K hK=>tkF ?_
   go_simp
   try go_bits
   refine hK _ _ ?_;clear hK K
  refine yY fun K hK=>alF ?_
  go_step;have H7:Below W.heap.size W (W.alloc (.cells #[.int .i64 0,.int .u8 0,.int .i64 0,.int .i64 0] wt)).drew:=(Z6.alloc Z5 _).drew;refine⟨H7,hK _ _ ?_⟩;clear hK K Z3;have AA:=Z' H7;have Fe:=Z9 ((W.alloc (.cells #[.int .i64 0,.int .u8 0,.int .i64 0,.int .i64 0] wt)).drew.heap[W.heap.size]? =some (.cells #[.int .i64 0,.int .u8 0,.int .i64 0,.int .i64 0] wt (0,0))) (heap_alloc_last W _);refine yY fun K hK=>alF ?_
  refine wp_store_row wt _ _ rfl W.heap.size #[.int .i64 (p:Nat),.int .u8 (op:Nat),.int .i64 0,.int .i64 0] rfl rfl wt _ Fe.out gX rfl (iD ⟨(p:Nat),op,0,0⟩) ?_;have UX:Below W.heap.size W ((W.alloc (.cells #[.int .i64 0,.int .u8 0,.int .i64 0,.int .i64 0] wt)).drew.setRow W.heap.size #[.int .i64 (p:Nat),.int .u8 (op:Nat),.int .i64 0,.int .i64 0]):=H7.trans (below_setRow Z5 _);have DQ:=setRow_heap _ W.heap.size _ #[.int .i64 (p:Nat),.int .u8 (op:Nat),.int .i64 0,.int .i64 0] _ _ Fe.out
  have GC:=Z9 (CdJ w ((W.alloc (.cells #[.int .i64 0,.int .u8 0,.int .i64 0,.int .i64 0] wt)).drew.setRow W.heap.size #[.int .i64 (p:Nat),.int .u8 (op:Nat),.int .i64 0,.int .i64 0]) B g w.heap.size (w.heap.size+1) gx (gx+1) (wD (s.raws 0 l).2 j) (xf l j) X ⟨(p:Nat),op,0,0⟩ sj) (
   ⟨ZJ.out.below UX,Za.out.trans (yR.of UX),P9.out.below UX,Wm.out.below UX,Zh.out.below UX,by rw[<-MV.out];exact DQ⟩)
  refine⟨UX,hK _ _ ?_⟩;clear hK K UX DQ H7 Fe AA l0 l1 pa po ZJ Za P9 Wm Zh;generalize hV:(W.alloc (.cells #[.int .i64 0,.int .u8 0,.int .i64 0,.int .i64 0] wt)).drew.setRow W.heap.size #[.int .i64 (p:Nat),.int .u8 (op:Nat),.int .i64 0,.int .i64 0]=V at*
  have Dy:tC W V:=by
   rw[<-hV];exact((Z6.alloc Z5 _).drew:Below W.heap.size W (W.alloc (.cells #[.int .i64 0,.int .u8 0,.int .i64 0,.int .i64 0] wt)).drew).trans (below_setRow Z5 _)
  refine yA (fun y=>y=V) (fun y hy=>hy▸Dy) rfl ?_;refine yE (fun y hy=> ?_);replace hy:=hy.symm;subst hy;have Hi:W.heap.size=gx+1:=MV.out;rw[Hi];clear hV Dy Hi MV;have Ry:=Z' (fun W=>qu W op (by have h:=Sk.out.op;rw[Yp.out]at h;exact h));obtain⟨f,hf⟩:=Z8 (yX op);rw[<-hf]at Ry;have PL:=Z' hf;clear hf;have YQ:=GC.out.hx;rw[Yp.out]at YQ;obtain⟨j0,j1,j2,j3,j4,j5,j6,-,-,-,-,-,-⟩:=YQ.box;dsimp only at j0 j1 j2 j3 j4 j5 j6;clear YQ
  go_wp2_with fail
  refine(Ry.out V).mono ?_;rintro e V1 ⟨rfl,ZQ⟩;have Yh:=Z' (GC.out.below ZQ);clear ZQ GC Ry j0 j1 j2 j3 j4 j5 j6;obtain⟨RR,Pz⟩:=Z8 (sj.raw p X);rw[<-Pz]at YW QQ;have ZS:=Z' Pz;clear Pz
  go_upto_block 2 with fail
  go_cut [] (fun wx=>Hid (CdJ w wx B g w.heap.size (w.heap.size+1) gx (gx+1) (wD (s.raws 0 l).2 j) (xf l j) X RR.2 RR.1))
  case first=>
   by_cases Zx:op=18
   ·have P5:((op:Int)==18)=true:=by rw[Zx];rfl
    obtain⟨bq,Ym⟩:=Z8 (decide (X.cl=[]/\X.nm=[]/\X.m=0));have Uy:=Z' Ym
    have WJ:=show RR=(((sj.need bq 8).con X).1.need (decide (yX op≠5)||decide (((sj.need bq 8).con X).2<=255)) 9,⟨(p:Nat),op,(((sj.need bq 8).con X).2:Nat),0⟩) by
     rw[ZS.out,Ym];unfold LW.raw;rw[if_pos (by rw[Yp.out];show op=18\/op=20;omega)];rw[Yp.out]
    clear Ym Zx;have Xf:((sj.need bq 8).con X).1.l.length<=sj.l.length+4:=nS (sj.need bq 8) X;have Rv:((sj.need bq 8).con X).2<=sj.l.length+4:=kB (sj.need bq 8) X;have Xc:=Z' (fun W hs Yc=>mF W B g (sj.need bq 8) X hs Sk.out (show sj.l.length<=_ by omega) Yc);rw[show X.cells.toArray= #[.int .u8 (op:Nat),.int .i64 nn,.int .i64 mm,.string ⟨cl.toArray⟩,.string ⟨nm.toArray⟩,.string ⟨ds.toArray⟩,.string ⟨tx.toArray⟩] by rw[Yp.out];rfl]at Xc;generalize(sj.need bq 8).con X=c2 at*;obtain⟨s2,i2⟩:=c2;dsimp only at WJ Xc Xf Rv;have Zi:=Z' WJ;clear WJ;have YQ:=Yh.out.hx;rw[Yp.out]at YQ;obtain⟨j0,j1,j2,j3,j4,j5,j6,-,-,-,-,-,-⟩:=YQ.box;dsimp only at j0 j1 j2 j3 j4 j5 j6;clear YQ
    go_upto_region 11 with fail
    go_cut [] (fun wx=>Hid (CdJ w wx B g w.heap.size (w.heap.size+1) gx (gx+1) (wD (s.raws 0 l).2 j) (xf l j) X ⟨(p:Nat),op,0,0⟩ (sj.need bq 8)))
    case first=>
     have Zg:=Z' (fun b=>xk V1 B g sj b 8 Yh.out.hs);clear j0 j1 j2 j3 j4 j5 j6;by_cases VC:cl=[]
     ·have t0:(cl==[])=true:=by rw[VC];rfl
      have t1:cl.isEmpty=true:=by rw[VC];rfl
      by_cases Y5:nm=[]
      ·have t2:(nm==[])=true:=by rw[Y5];rfl
       have t3:nm.isEmpty=true:=by rw[Y5];rfl
       have t4:(mm==0)=bq:=by
        rw[Uy.out,Yp.out,VC,Y5,Bool.eq_iff_iff,beq_iff_eq,decide_eq_true_iff];simp
       clear VC Y5;have YQ:=Yh.out.hx;rw[Yp.out]at YQ;obtain⟨j0,j1,j2,j3,j4,j5,j6,-,-,-,-,-,-⟩:=YQ.box;dsimp only at j0 j1 j2 j3 j4 j5 j6;clear YQ
       go_wp2_with fail
       refine(Zg.out bq).mono ?_;rintro e V2 ⟨rfl,Xe,X7⟩
       go_wp2_with fail
       go_meet;exact Z' (Yh.out.call Xe X7)
      have t2:(nm==[])=false:=by simpa using Y5
      have t3:nm.isEmpty=false:=by simpa using Y5
      have X2:bq=false:=by rw[Uy.out,Yp.out];exact decide_eq_false (fun h=>Y5 h.2.1)
      subst X2;clear VC Y5;have YQ:=Yh.out.hx;rw[Yp.out]at YQ;obtain⟨j0,j1,j2,j3,j4,j5,j6,-,-,-,-,-,-⟩:=YQ.box;dsimp only at j0 j1 j2 j3 j4 j5 j6;clear YQ
      go_wp2_with fail
      refine(Zg.out false).mono ?_;rintro e V2 ⟨rfl,Xe,X7⟩
      go_wp2_with fail
      go_meet;exact Z' (Yh.out.call Xe X7)
     have t0:(cl==[])=false:=by simpa using VC
     have t1:cl.isEmpty=false:=by simpa using VC
     have X2:bq=false:=by rw[Uy.out,Yp.out];exact decide_eq_false (fun h=>VC h.1)
     subst X2;clear VC;have YQ:=Yh.out.hx;rw[Yp.out]at YQ;obtain⟨j0,j1,j2,j3,j4,j5,j6,-,-,-,-,-,-⟩:=YQ.box;dsimp only at j0 j1 j2 j3 j4 j5 j6;clear YQ
     go_wp2_with fail
     refine(Zg.out false).mono ?_;rintro e V2 ⟨rfl,Xe,X7⟩
     go_wp2_with fail
     go_meet;exact Z' (Yh.out.call Xe X7)
    have YF:=hcut;clear hcut j0 j1 j2 j3 j4 j5 j6;have YQ:=YF.out.hx;rw[Yp.out]at YQ;obtain⟨j0,j1,j2,j3,j4,j5,j6,-,-,-,-,-,-⟩:=YQ.box;dsimp only at j0 j1 j2 j3 j4 j5 j6;clear YQ
    go_wp2_with fail
    refine(Xc.out wc YF.out.hs (Nat.le_trans Xj.out YF.out.hk.size)).mono ?_;rintro e V3 ⟨rfl,Zz,ZH⟩;have VH:=Z' (YF.out.call Zz ZH);clear Zz ZH Xc YF j0 j1 j2 j3 j4 j5 j6;have yf:=xQ VH.out.hy 2;have yl:=yG VH.out.hy;have yc:=y8 VH.out.hy 2 rfl;dsimp only[RW.cells]at yc
    go_upto_region 13 with fail
    have Sf:=Z9 (CdJ w (V3.setCell ⟨gx+1,2,none⟩ (.int .i64 (i2:Nat))) B g w.heap.size (w.heap.size+1) gx (gx+1) (wD (s.raws 0 l).2 j) (xf l j) X ⟨(p:Nat),op,(i2:Nat),0⟩ _) (VH.out.put (by omega) (by omega) (by omega) (by omega) (by omega) 2 (.int .i64 (i2:Nat)) rfl);clear yf yl yc VH;generalize V3.setCell ⟨gx+1,2,none⟩ (.int .i64 (i2:Nat))=V4 at*;by_cases hf5:f=5
    ·have e5:((f:Int) !=5)=false:=by rw[hf5];rfl
     obtain⟨b5,Yi⟩:=Z8 (decide (i2<=255));have e6:decide ((i2:Int)<=255)=b5:=by rw[Yi];exact decide_eq_decide.2 (by omega)
     have YT:=Z' (show RR=(s2.need b5 9,⟨(p:Nat),op,(i2:Nat),0⟩) by rw[Zi.out,<-PL.out,hf5,Yi];rfl);have Vc:=Z' (xk V4 B g s2 b5 9 Sf.out.hs);have y2:=y8 Sf.out.hy 2 rfl;dsimp only[RW.cells]at y2;clear Yi hf5
     go_wp2_with fail
     refine Vc.out.mono ?_;rintro e V5 ⟨rfl,X',X5⟩
     go_wp2_with fail
     go_meet;exact Z' (by rw[YT.out];exact Sf.out.call X' X5)
    have e5:((f:Int) !=5)=true:=by
     have:¬(f:Int)=5:=by omega
     simp[this]
    have YT:=Z' (show RR=(s2.need true 9,⟨(p:Nat),op,(i2:Nat),0⟩) by rw[Zi.out,<-PL.out];simp[hf5]);have Vc:=Z' (xk V4 B g s2 true 9 Sf.out.hs);clear hf5
    go_wp2_with fail
    refine Vc.out.mono ?_;rintro e V5 ⟨rfl,X',X5⟩
    go_wp2_with fail
    go_meet;exact Z' (by rw[YT.out];exact Sf.out.call X' X5)
   have PY:=Zx;clear Zx;by_cases Zx:op=20
   ·have P5:((op:Int)==18)=false:=by rw[Zx];rfl
    have Tg:((op:Int)==20)=true:=by rw[Zx];rfl
    obtain⟨bq,Ym⟩:=Z8 (decide (X.cl=[]/\X.nm=[]/\X.m=0));have Uy:=Z' Ym
    have WJ:=show RR=(((sj.need bq 8).con X).1.need (decide (yX op≠5)||decide (((sj.need bq 8).con X).2<=255)) 9,⟨(p:Nat),op,(((sj.need bq 8).con X).2:Nat),0⟩) by
     rw[ZS.out,Ym];unfold LW.raw;rw[if_pos (by rw[Yp.out];show op=18\/op=20;omega)];rw[Yp.out]
    clear Ym Zx;have Xf:((sj.need bq 8).con X).1.l.length<=sj.l.length+4:=nS (sj.need bq 8) X;have Rv:((sj.need bq 8).con X).2<=sj.l.length+4:=kB (sj.need bq 8) X;have Xc:=Z' (fun W hs Yc=>mF W B g (sj.need bq 8) X hs Sk.out (show sj.l.length<=_ by omega) Yc);rw[show X.cells.toArray= #[.int .u8 (op:Nat),.int .i64 nn,.int .i64 mm,.string ⟨cl.toArray⟩,.string ⟨nm.toArray⟩,.string ⟨ds.toArray⟩,.string ⟨tx.toArray⟩] by rw[Yp.out];rfl]at Xc;generalize(sj.need bq 8).con X=c2 at*;obtain⟨s2,i2⟩:=c2;dsimp only at WJ Xc Xf Rv;have Zi:=Z' WJ;clear WJ;have YQ:=Yh.out.hx;rw[Yp.out]at YQ;obtain⟨j0,j1,j2,j3,j4,j5,j6,-,-,-,-,-,-⟩:=YQ.box;dsimp only at j0 j1 j2 j3 j4 j5 j6;clear YQ
    go_upto_region 11 with fail
    go_cut [] (fun wx=>Hid (CdJ w wx B g w.heap.size (w.heap.size+1) gx (gx+1) (wD (s.raws 0 l).2 j) (xf l j) X ⟨(p:Nat),op,0,0⟩ (sj.need bq 8)))
    case first=>
     have Zg:=Z' (fun b=>xk V1 B g sj b 8 Yh.out.hs);clear j0 j1 j2 j3 j4 j5 j6;by_cases VC:cl=[]
     ·have t0:(cl==[])=true:=by rw[VC];rfl
      have t1:cl.isEmpty=true:=by rw[VC];rfl
      by_cases Y5:nm=[]
      ·have t2:(nm==[])=true:=by rw[Y5];rfl
       have t3:nm.isEmpty=true:=by rw[Y5];rfl
       have t4:(mm==0)=bq:=by
        rw[Uy.out,Yp.out,VC,Y5,Bool.eq_iff_iff,beq_iff_eq,decide_eq_true_iff];simp
       clear VC Y5;have YQ:=Yh.out.hx;rw[Yp.out]at YQ;obtain⟨j0,j1,j2,j3,j4,j5,j6,-,-,-,-,-,-⟩:=YQ.box;dsimp only at j0 j1 j2 j3 j4 j5 j6;clear YQ
       go_wp2_with fail
       refine(Zg.out bq).mono ?_;rintro e V2 ⟨rfl,Xe,X7⟩
       go_wp2_with fail
       go_meet;exact Z' (Yh.out.call Xe X7)
      have t2:(nm==[])=false:=by simpa using Y5
      have t3:nm.isEmpty=false:=by simpa using Y5
      have X2:bq=false:=by rw[Uy.out,Yp.out];exact decide_eq_false (fun h=>Y5 h.2.1)
      subst X2;clear VC Y5;have YQ:=Yh.out.hx;rw[Yp.out]at YQ;obtain⟨j0,j1,j2,j3,j4,j5,j6,-,-,-,-,-,-⟩:=YQ.box;dsimp only at j0 j1 j2 j3 j4 j5 j6;clear YQ
      go_wp2_with fail
      refine(Zg.out false).mono ?_;rintro e V2 ⟨rfl,Xe,X7⟩
      go_wp2_with fail
      go_meet;exact Z' (Yh.out.call Xe X7)
     have t0:(cl==[])=false:=by simpa using VC
     have t1:cl.isEmpty=false:=by simpa using VC
     have X2:bq=false:=by rw[Uy.out,Yp.out];exact decide_eq_false (fun h=>VC h.1)
     subst X2;clear VC;have YQ:=Yh.out.hx;rw[Yp.out]at YQ;obtain⟨j0,j1,j2,j3,j4,j5,j6,-,-,-,-,-,-⟩:=YQ.box;dsimp only at j0 j1 j2 j3 j4 j5 j6;clear YQ
     go_wp2_with fail
     refine(Zg.out false).mono ?_;rintro e V2 ⟨rfl,Xe,X7⟩
     go_wp2_with fail
     go_meet;exact Z' (Yh.out.call Xe X7)
    have YF:=hcut;clear hcut j0 j1 j2 j3 j4 j5 j6;have YQ:=YF.out.hx;rw[Yp.out]at YQ;obtain⟨j0,j1,j2,j3,j4,j5,j6,-,-,-,-,-,-⟩:=YQ.box;dsimp only at j0 j1 j2 j3 j4 j5 j6;clear YQ
    go_wp2_with fail
    refine(Xc.out wc YF.out.hs (Nat.le_trans Xj.out YF.out.hk.size)).mono ?_;rintro e V3 ⟨rfl,Zz,ZH⟩;have VH:=Z' (YF.out.call Zz ZH);clear Zz ZH Xc YF j0 j1 j2 j3 j4 j5 j6;have yf:=xQ VH.out.hy 2;have yl:=yG VH.out.hy;have yc:=y8 VH.out.hy 2 rfl;dsimp only[RW.cells]at yc
    go_upto_region 13 with fail
    have Sf:=Z9 (CdJ w (V3.setCell ⟨gx+1,2,none⟩ (.int .i64 (i2:Nat))) B g w.heap.size (w.heap.size+1) gx (gx+1) (wD (s.raws 0 l).2 j) (xf l j) X ⟨(p:Nat),op,(i2:Nat),0⟩ _) (VH.out.put (by omega) (by omega) (by omega) (by omega) (by omega) 2 (.int .i64 (i2:Nat)) rfl);clear yf yl yc VH;generalize V3.setCell ⟨gx+1,2,none⟩ (.int .i64 (i2:Nat))=V4 at*;by_cases hf5:f=5
    ·have e5:((f:Int) !=5)=false:=by rw[hf5];rfl
     obtain⟨b5,Yi⟩:=Z8 (decide (i2<=255));have e6:decide ((i2:Int)<=255)=b5:=by rw[Yi];exact decide_eq_decide.2 (by omega)
     have YT:=Z' (show RR=(s2.need b5 9,⟨(p:Nat),op,(i2:Nat),0⟩) by rw[Zi.out,<-PL.out,hf5,Yi];rfl);have Vc:=Z' (xk V4 B g s2 b5 9 Sf.out.hs);have y2:=y8 Sf.out.hy 2 rfl;dsimp only[RW.cells]at y2;clear Yi hf5
     go_wp2_with fail
     refine Vc.out.mono ?_;rintro e V5 ⟨rfl,X',X5⟩
     go_wp2_with fail
     go_meet;exact Z' (by rw[YT.out];exact Sf.out.call X' X5)
    have e5:((f:Int) !=5)=true:=by
     have:¬(f:Int)=5:=by omega
     simp[this]
    have YT:=Z' (show RR=(s2.need true 9,⟨(p:Nat),op,(i2:Nat),0⟩) by rw[Zi.out,<-PL.out];simp[hf5]);have Vc:=Z' (xk V4 B g s2 true 9 Sf.out.hs);clear hf5
    go_wp2_with fail
    refine Vc.out.mono ?_;rintro e V5 ⟨rfl,X',X5⟩
    go_wp2_with fail
    go_meet;exact Z' (by rw[YT.out];exact Sf.out.call X' X5)
   have Xp:=Zx;clear Zx;by_cases hf6:f=6
   ·have P5:((op:Int)==18)=false:=by rw[beq_eq_false_iff_ne];omega
    have Tg:((op:Int)==20)=false:=by rw[beq_eq_false_iff_ne];omega
    have e6:((f:Int)==6)=true:=by rw[hf6];rfl
    have WJ:=show RR=((sj.wide X).1,⟨(p:Nat),op,((sj.wide X).2:Nat),0⟩) by
     rw[ZS.out];unfold LW.raw;rw[if_neg (by rw[Yp.out];show ¬(op=18\/op=20);omega),if_pos (by rw[Yp.out];show yX op=6;rw[<-PL.out];exact hf6)];rw[Yp.out]
    clear PY Xp hf6;have Rv:(sj.wide X).2<=sj.l.length+12:=eV sj X;have Xc:=Z' (aq V1 B g sj X Yh.out.hs Sk.out (by omega) (Nat.le_trans Xj.out Yh.out.hk.size));rw[show X.cells.toArray= #[.int .u8 (op:Nat),.int .i64 nn,.int .i64 mm,.string ⟨cl.toArray⟩,.string ⟨nm.toArray⟩,.string ⟨ds.toArray⟩,.string ⟨tx.toArray⟩] by rw[Yp.out];rfl]at Xc;generalize sj.wide X=c2 at*;obtain⟨s2,i2⟩:=c2;dsimp only at WJ Xc Rv;have Zi:=Z' WJ;clear WJ;have YQ:=Yh.out.hx;rw[Yp.out]at YQ;obtain⟨j0,j1,j2,j3,j4,j5,j6,-,-,-,-,-,-⟩:=YQ.box;dsimp only at j0 j1 j2 j3 j4 j5 j6;clear YQ
    go_wp2_with fail
    refine Xc.out.mono ?_;rintro e V3 ⟨rfl,Zz,ZH⟩;have VH:=Z' (Yh.out.call Zz ZH);clear Zz ZH Xc Yh j0 j1 j2 j3 j4 j5 j6;have yf:=xQ VH.out.hy 2;have yl:=yG VH.out.hy;have yc:=y8 VH.out.hy 2 rfl;dsimp only[RW.cells]at yc
    go_wp2_with fail
    have Sf:=Z9 (CdJ w (V3.setCell ⟨gx+1,2,none⟩ (.int .i64 (i2:Nat))) B g w.heap.size (w.heap.size+1) gx (gx+1) (wD (s.raws 0 l).2 j) (xf l j) X ⟨(p:Nat),op,(i2:Nat),0⟩ _) (VH.out.put (by omega) (by omega) (by omega) (by omega) (by omega) 2 (.int .i64 (i2:Nat)) rfl);go_meet;exact Z' (by rw[Zi.out];exact Sf.out)
   by_cases RN:f=0
   ·have P5:((op:Int)==18)=false:=by rw[beq_eq_false_iff_ne];omega
    have Tg:((op:Int)==20)=false:=by rw[beq_eq_false_iff_ne];omega
    have e6:((f:Int)==6)=false:=by rw[beq_eq_false_iff_ne];omega
    have e0:((f:Int)==0)=true:=by rw[RN];rfl
    have Zi:=Z' (show RR=(sj.need false 8,⟨(p:Nat),op,0,0⟩) by
     rw[ZS.out];unfold LW.raw;rw[if_neg (by rw[Yp.out];show ¬(op=18\/op=20);omega),if_neg (by rw[Yp.out];show ¬yX op=6;rw[<-PL.out];exact hf6),if_pos (by rw[Yp.out];show yX op=0;rw[<-PL.out];exact RN)];rw[Yp.out])
    clear PY Xp hf6 RN;have Vc:=Z' (xk V1 B g sj false 8 Yh.out.hs);have YQ:=Yh.out.hx;rw[Yp.out]at YQ;obtain⟨j0,j1,j2,j3,j4,j5,j6,-,-,-,-,-,-⟩:=YQ.box;dsimp only at j0 j1 j2 j3 j4 j5 j6;clear YQ
    go_wp2_with fail
    refine Vc.out.mono ?_;rintro e V5 ⟨rfl,X',X5⟩
    go_wp2_with fail
    go_meet;exact Z' (by rw[Zi.out];exact Yh.out.call X' X5)
   have P5:((op:Int)==18)=false:=by rw[beq_eq_false_iff_ne];omega
   have Tg:((op:Int)==20)=false:=by rw[beq_eq_false_iff_ne];omega
   have e6:((f:Int)==6)=false:=by rw[beq_eq_false_iff_ne];omega
   have e0:((f:Int)==0)=false:=by rw[beq_eq_false_iff_ne];omega
   have WJ:=show RR=((sj.need (sR X) 8).need (vu nn) 8,⟨(p:Nat),op,vP nn,mm⟩) by
    rw[ZS.out];unfold LW.raw;rw[if_neg (by rw[Yp.out];show ¬(op=18\/op=20);omega),if_neg (by rw[Yp.out];show ¬yX op=6;rw[<-PL.out];exact hf6),if_neg (by rw[Yp.out];show ¬yX op=0;rw[<-PL.out];exact RN)];rw[Yp.out];rfl
   clear PY Xp hf6 RN;have P2:=Z' (ah V1 X Sk.out.op);rw[show X.cells.toArray= #[.int .u8 (op:Nat),.int .i64 nn,.int .i64 mm,.string ⟨cl.toArray⟩,.string ⟨nm.toArray⟩,.string ⟨ds.toArray⟩,.string ⟨tx.toArray⟩] by rw[Yp.out];rfl]at P2;generalize sR X=pb at*;have Zi:=Z' WJ;clear WJ;have YQ:=Yh.out.hx;rw[Yp.out]at YQ;obtain⟨j0,j1,j2,j3,j4,j5,j6,-,-,-,-,-,-⟩:=YQ.box;dsimp only at j0 j1 j2 j3 j4 j5 j6;clear YQ
   go_wp2_with fail
   refine P2.out.mono ?_;rintro e V2 ⟨rfl,ZN⟩;have YF:=Z' (Yh.out.below ZN);clear ZN P2 Yh j0 j1 j2 j3 j4 j5 j6;have Vc:=Z' (xk V2 B g sj pb 8 YF.out.hs)
   go_wp2_with fail
   refine Vc.out.mono ?_;rintro e V3 ⟨rfl,Zz,ZH⟩;have VH:=Z' ((YF.out.call Zz ZH).below (Z6.drew));clear Zz ZH YF Vc
   go_upto_region 9 with fail
   have Z3:rB gx X V3.drew:=VH.out.hx;have l1:∀z,rB gx X z->z.cell? ⟨gx,1,none⟩=some (.int .i64 nn):=fun z h=>by have h2:=h.box.c1;rw[Yp.out]at h2;exact h2
   have l2:∀z,rB gx X z->z.cell? ⟨gx,2,none⟩=some (.int .i64 mm):=fun z h=>by have h2:=h.box.c2;rw[Yp.out]at h2;exact h2
   refine ye (rB gx X) (.of [(0,true),(1,true),(2,true),(4,true),(5,true),(3,false),(6,true),(7,false),(8,true),(9,false)] (.stir [])) (by kernel_rfl) (by kernel_rfl) (fun c a d v w h=>by cases d<;>exact h) ?_
   generalize V3.drew=V4 at*
   iterate 5
    refine yY fun K hK=>tkF ?_
    go_simp
    try go_bits
    refine hK _ _ ?_;clear hK K
   refine yY fun K hK=>alF ?_
   go_step;refine(bC V4 B g (sj.need pb 8) nn VH.out.hs).mono ?_;rintro e V5 ⟨rfl,X',X5⟩;have Rk:=Z' (VH.out.call X' X5);clear X' X5 VH Z3;have Z3:rB gx X V5:=Rk.out.hx;go_simp
   first|refine⟨Z3,hK _ _ ?_⟩|refine hK _ _ ?_
   clear hK K;have yf:=xQ Rk.out.hy 2;have yl:=yG Rk.out.hy;have yc:=y8 Rk.out.hy 2 rfl;dsimp only[RW.cells]at yc
   iterate 1
    refine yY fun K hK=>tkF ?_
    go_simp
    try go_bits
    refine hK _ _ ?_;clear hK K
   refine yY fun K hK=>alF ?_
   go_step;have PM:=Z9 (CdJ w (V5.setCell ⟨gx+1,2,none⟩ (.int .i64 (vP nn))) B g w.heap.size (w.heap.size+1) gx (gx+1) (wD (s.raws 0 l).2 j) (xf l j) X ⟨(p:Nat),op,vP nn,0⟩ _) (Rk.out.put (by omega) (by omega) (by omega) (by omega) (by omega) 2 (.int .i64 (vP nn)) rfl);clear Z3 yf yl yc Rk;have Z3:rB gx X (V5.setCell ⟨gx+1,2,none⟩ (.int .i64 (vP nn))):=PM.out.hx
   first|refine⟨Z3,hK _ _ ?_⟩|refine hK _ _ ?_
   clear hK K;generalize V5.setCell ⟨gx+1,2,none⟩ (.int .i64 (vP nn))=V6 at*;have yf:=xQ PM.out.hy 3;have yl:=yG PM.out.hy;have yc:=y8 PM.out.hy 3 rfl;dsimp only[RW.cells]at yc
   iterate 1
    refine yY fun K hK=>tkF ?_
    go_simp
    try go_bits
    refine hK _ _ ?_;clear hK K
   refine yY fun K hK=>alF ?_
   go_step;have K6:=Z9 (CdJ w (V6.setCell ⟨gx+1,3,none⟩ (.int .i64 mm)) B g w.heap.size (w.heap.size+1) gx (gx+1) (wD (s.raws 0 l).2 j) (xf l j) X ⟨(p:Nat),op,vP nn,mm⟩ _) (PM.out.put (by omega) (by omega) (by omega) (by omega) (by omega) 3 (.int .i64 mm) rfl);clear Z3 yf yl yc PM;have Z3:rB gx X (V6.setCell ⟨gx+1,3,none⟩ (.int .i64 mm)):=K6.out.hx
   first|refine⟨Z3,hK _ _ ?_⟩|refine hK _ _ ?_
   clear hK K;generalize V6.setCell ⟨gx+1,3,none⟩ (.int .i64 mm)=V7 at*;refine yA (fun y=>y=V7) (fun y hy=>hy▸Z3) rfl ?_;refine yE (fun y hy=> ?_);replace hy:=hy.symm;subst hy;clear Z3 l1 l2
   go_wp2_with fail
   go_meet;exact Z' (by rw[Zi.out];exact K6.out)
  have HC:=hcut;clear hcut Yh;obtain⟨RS,RP⟩:=RR;dsimp only at HC YW QQ;have Y4:=Z' HC.out.hy;obtain⟨rp,ro,ra,rb⟩:=RP;have y0:=y8 HC.out.hy 0 rfl;have y1:=y8 HC.out.hy 1 rfl;have y2:=y8 HC.out.hy 2 rfl;have y3:=y8 HC.out.hy 3 rfl;dsimp only[RW.cells]at y0 y1 y2 y3;have Pj:=Z' (show(((wD (s.raws 0 l).2 j).flatMap RW.cells).toArray).size=n*4 by rw[List.size_toArray,td RW.cells_length,jq,rm,Zd.out]);obtain⟨CR,Hq⟩:∃CR,CR=((wD (s.raws 0 l).2 j).flatMap RW.cells).toArray:=⟨_,rfl⟩;have CD:=Z' Hq;have JR:=Z' (show wc.heap[w.heap.size]? =some (.cells CR wt (0,0)) by rw[Hq];exact HC.out.hr);rw[<-Hq]at Pj;clear Hq;have hq:j*4+4<=n*4:=by omega
  go_upto_region 18 with fail
  go_wp2_with (first
   |(refine dP rfl _ _ _ rfl w.heap.size (j*4) #[.int .i64 rp,.int .u8 (ro:Nat),.int .i64 ra,.int .i64 rb] rfl rfl CR _ JR.out (by rw[Pj.out];exact hq) gX (iD ⟨rp,ro,ra,rb⟩) ?_))
  generalize hVV:wc.setRow w.heap.size _=V9;have hV:=HC.out.hr.setR j (by rw[jq,rm,Zd.out];exact ZX) ⟨rp,ro,ra,rb⟩;rw[<-CD.out,D1y _ _ _ QQ.out]at hV;have U5:=Z' (show wS V9 w.heap.size (wD (s.raws 0 l).2 (j+1)) by rw[<-hVV];exact hV);have Yg:=Z' (show LoS V9 B g RS by rw[<-hVV];exact HC.out.hs.setR HC.out.hr (by decide) (by decide) VB _);have Y0:=Z' (show yR B w V9 by rw[<-hVV];exact HC.out.hk.thenB (below_setRow Z5 _));have WP:=Z' (show wm V9 (w.heap.size+1) (xf l j) by rw[<-hVV];exact(setRow_other wc w.heap.size (w.heap.size+1) _ (by omega)).trans HC.out.ha);have WG:=Z' (show yJ gx X V9 by rw[<-hVV];exact(setRow_other wc w.heap.size gx _ (by omega)).trans HC.out.hx);clear hV hVV JR Pj CD HC Y4 y0 y1 y2 y3 hq;have Xt:=Z' (fun W=>E0f W op (by have h:=Sk.out.op;rw[Yp.out]at h;exact h));obtain⟨ln,Wp⟩:=Z8 (yC (yX op));rw[<-Wp]at Xt;have Xx:=Z' (show vH X=ln by rw[Yp.out,Wp];rfl);have hlb:ln<=3:=by rw[<-Xx.out];exact fP X
  clear Wp
  go_upto_region 19 with fail
  have FF:(j:Int)<n+1:=by omega
  have Bb:(j:Int)+1<n+1:=by omega
  have zL:(0:Int)<=(j:Int)+1:=by omega
  have l0:∀z,tC V9 z->z.cell? ⟨w.heap.size+1,j,none⟩=some (.int .i64 (p:Nat)):=fun z h=>yF h (WP.out.cell (by rw[HP.out];exact pJ l j j Z5 (by rw[Zd.out];exact hj)))
  have l1:∀z,tC V9 z->z.cell? ⟨gx,0,none⟩=some (.int .u8 (op:Nat)):=fun z h=>yF h (by have h:=WG.out.box.c0;rw[Yp.out]at h;exact h)
  have Z3:tC V9 V9.drew:=Z6.drew
  refine tq (tC V9) 12 [(0,true),(1,true),(2,true),(3,true),(4,true),(5,true),(6,true),(7,true),(8,true),(9,false),(10,true),(11,true)] (by kernel_rfl) (by kernel_rfl) (fun c a d v w h=>by cases d<;>exact h) ?_
  iterate 9
   refine xU fun K hK=>tkF ?_
   go_simp
   try go_bits
   refine hK _ _ ?_;clear hK K
  refine xU fun K hK=>alF ?_
  go_step;refine(Xt.out _).mono ?_;rintro e V10 ⟨rfl,QT⟩;have XQ:tC V9 V10:=Z3.trans (QT.mono Z3.size);clear QT Z3 Xt;have Z3:=XQ;clear XQ;go_simp
  first|refine⟨Z3,hK _ _ ?_⟩|refine hK _ _ ?_
  clear hK K
  iterate 2
   refine xU fun K hK=>tkF ?_
   go_simp
   try go_bits
   refine hK _ _ ?_;clear hK K
  have Ws:=Z' (WP.out.below Z3);have fo:=xQ Ws.out (j+1);have lto:=yG Ws.out
  have co:V10.cell? ⟨w.heap.size+1,j+1,none⟩=some (.int .i64 ((xf l j).getD (j+1) 0)):=Ws.out.cell (by
   rw[List.getD_eq_getElem?_getD,List.getElem?_eq_getElem (by rw[dd,Zd.out];omega)];rfl)
  refine tm (laF ?_);go_step
  have Sw:=Z9 (wm (V10.setCell ⟨w.heap.size+1,j+1,none⟩ (.int .i64 ((p:Int)+ln))) (w.heap.size+1) (xf l (j+1))) (by
   rw[<-cT l j (by rw[Zd.out];exact ZX),Mu.out,Xx.out];exact Ws.out.set (j+1) _)
  have LD:=Z9 (wS (V10.setCell ⟨w.heap.size+1,j+1,none⟩ (.int .i64 ((p:Int)+ln))) w.heap.size (wD (s.raws 0 l).2 (j+1))) (wQ (U5.out.below Z3) (by omega) _ _);have T8:=Z' ((Yg.out.below Z3).setO Ws.out (by decide) (by decide) (by omega) (j+1) (.int .i64 ((p:Int)+ln)));have Xw:=Z' (Y0.out.thenB ((Z3.mono Y0.out.size).trans (show Below w.heap.size V10 (V10.setCell ⟨w.heap.size+1,j+1,none⟩ (.int .i64 ((p:Int)+ln)))from Z6.setCell (show w.heap.size<=w.heap.size+1 by omega) _)));clear Z3 l0 l1 fo lto co Ws WP U5 Yg Y0 WG FF Bb zL
  go_wp2_with fail
  go_roundg (n-(j+1))
  case measure=>omega
  exact⟨j+1,by omega,rfl,by go_num,Z' (by rw[YW.out];exact T8.out),Xw,LD,Sw⟩
 obtain rfl:j=n:=by omega
 have ZV:l.take j=l:=List.take_of_length_le (by rw[Zd.out];exact Nat.le_refl _);rw[ZV]at HS;have NR:=Z' (show(s.raws 0 l).2.length=j by rw[rm];exact Zd.out);have Q5:=Z' (E2b s l hsz (by rw[Zd.out];exact hn) (fun x hx=>(HF.out x hx).op));have QQ:=Z' (kS s l);have Yt:=Z9 (s.code l=((((s.raws 0 l).1).goes l l).need (decide ((xt (vp l (s.raws 0 l).2)).1=0)) (xt (vp l (s.raws 0 l).2)).1,(xt (vp l (s.raws 0 l).2)).2)) rfl
 have ZS:=Z' (show wS wr w.heap.size (vf l (s.raws 0 l).2 0) by
  have h:=HR.out;rw[<-NR.out,aX]at h;rw[cH];exact h)
 have DJ:=Z' (show wm wr (w.heap.size+1) (xf l l.length) by rw[Zd.out];exact HA.out);clear ZV HR HA ZX hj;generalize s.raws 0 l=SR at*;obtain⟨s1,R⟩:=SR;dsimp only at HS NR Q5 QQ Yt ZS;obtain⟨W7,AK⟩:=Z8 (wr);subst AK
 go_wp2_with fail
 go_loopg [121] j (fun gn i wx=>∃k:Nat,k<=j/\gn=j-k/\i= .int .i64 k/\Hid (LoS wx B g (s1.goes l (l.take k)))/\Hid (yR B w wx)/\Hid (wS wx w.heap.size (vf l R k))/\Hid (wm wx (w.heap.size+1) (xf l l.length)))
 case atStart=>exact⟨0,by omega,by omega,by go_num,HS,HK,ZS,DJ⟩
 clear HS HK ZS DJ;obtain⟨k,hk,rfl,rfl,HS,HK,HR,HA⟩:=hrel;by_cases ZX:k<j
 ·obtain⟨b,off,x,rfl,Zu,hx,q⟩:=(HK.out.ss HL.out Jj.out).getC k ZX;have q0:=q 0 (by omega);have q1:=q 1 (by omega);have q2:=q 2 (by omega);have q3:=q 3 (by omega);have q4:=q 4 (by omega);have q5:=q 5 (by omega);have q6:=q 6 (by omega);rw[Nat.add_zero]at q0;simp only[IN.cells,List.getElem?_cons_zero,List.getElem?_cons_succ]at q0 q1 q2 q3 q4 q5 q6;have XZ:(k:Int)<j:=by omega
  have Sk:=Z' (HF.out x (List.mem_of_getElem? hx));have KL:=QQ.out k x hx;generalize((s.raws 0 (l.take k)).1.raw (yx l k) x).2=rk at KL
  have Ze:=Z' (show s1.goes l (l.take (k+1))=if yX x.op=7 then(s1.goes l (l.take k)).need (inB l x.n) 2 else s1.goes l (l.take k) by
   have YP:=(Z4 hx).1;rw[List.take_succ_eq_append_getElem YP,(Z4 hx).2,D5q])
  have Wg:=Z' (cx l R k x rk hx KL);have DR:=Z' (jd l R k x rk hx KL);have TP:=Z' (hZ l R k rk KL);have NZ:=Z' (show inB l x.n=decide (0<=x.n/\x.n<j) by unfold inB;rw[Zd.out]);generalize s1.goes l (l.take k)=sk at*;have Ry:=Z' (fun W=>qu W x.op Sk.out.op);obtain⟨f,hf⟩:=Z8 (yX x.op);rw[<-hf]at Ry Ze
  have U8:=Z' (show vN l x rk=if f=7/\inB l x.n=true then{rk with a:=(yx l x.n.toNat:Nat)}else rk by unfold vN;rw[hf])
  obtain⟨op,nn,mm,cl,nm,ds,tx⟩:=x;dsimp only at q0 q1 q2 q3 q4 q5 q6 Ry Ze U8 NZ;clear q hx KL hf
  go_upto_region 24 with fail
  have ZY:=yV wr (.cells #[.int .u8 (op:Nat),.int .i64 nn,.int .i64 mm,.string ⟨cl.toArray⟩,.string ⟨nm.toArray⟩,.string ⟨ds.toArray⟩,.string ⟨tx.toArray⟩] yU);have Zh:=Z9 (yJ wr.heap.size ⟨op,nn,mm,cl,nm,ds,tx⟩ (wr.alloc (.cells #[.int .u8 (op:Nat),.int .i64 nn,.int .i64 mm,.string ⟨cl.toArray⟩,.string ⟨nm.toArray⟩,.string ⟨ds.toArray⟩,.string ⟨tx.toArray⟩] yU))) (heap_alloc_last wr _);have Aw:w.heap.size+1<wr.heap.size:=yG HA.out;have ZJ:=Z' (HS.out.below ZY);have Za:=Z' (HK.out.trans (yR.of ZY));have P9:=Z' (HR.out.below ZY);have Wm:=Z' (HA.out.below ZY);clear ZY q0 q1 q2 q3 q4 q5 q6 HS HK HR HA Zu;generalize wr.alloc _=W at*;generalize wr.heap.size=gx at*;obtain⟨j0,j1,j2,j3,j4,j5,j6,-,-,-,-,-,-⟩:=Zh.out.box;dsimp only at j0 j1 j2 j3 j4 j5 j6;by_cases f7:f=7
  ·have e7:((f:Int) !=7)=false:=by rw[f7];rfl
   rw[if_pos f7]at Ze;have AU:=Z' f7;clear f7
   go_wp2_with fail
   refine(Ry.out W).mono ?_;rintro e W1 ⟨rfl,ZQ⟩;have Yg:=Z' (ZJ.out.below ZQ);have Y0:=Z' (Za.out.trans (yR.of ZQ));have U5:=Z' (P9.out.below ZQ);have WP:=Z' (Wm.out.below ZQ);have Qf:=Z' (Zh.out.below ZQ);clear ZQ ZJ Za P9 Wm Zh Ry j0 j1 j2 j3 j4 j5 j6;obtain⟨j0,j1,j2,j3,j4,j5,j6,-,-,-,-,-,-⟩:=Qf.out.box;dsimp only at j0 j1 j2 j3 j4 j5 j6;have Zg:=Z' (fun bb=>xk W1 B g sk bb 2 Yg.out);by_cases h0:0<=nn
   ·have d0:decide (0<=nn)=true:=decide_eq_true h0;by_cases h1:nn<j
    ·obtain⟨t,ht⟩:∃t:Nat,nn=(t:Int):=⟨nn.toNat,by omega⟩;subst ht;have d1:decide ((t:Int)<j)=true:=decide_eq_true h1;have Tk:inB l (t:Int)=true:=by rw[NZ.out];exact decide_eq_true ⟨h0,h1⟩
     rw[Tk]at Ze U8;have htj:t<j:=by omega
     have S3:=Z' (show vN l ⟨op,(t:Int),mm,cl,nm,ds,tx⟩ rk={rk with a:=(yx l t:Nat)} by rw[U8.out,if_pos ⟨AU.out,rfl⟩,Int.toNat_natCast]);clear Tk U8 NZ h0 h1
     go_wp2_with fail
     refine(Zg.out true).mono ?_;rintro e W2 ⟨rfl,Xe,X7⟩;have Vt:=Z' Xe;have ZL:=Z' (Y0.out.trans X7);have VE:=Z' (U5.out.keepL X7);have Ws:=Z' (WP.out.keepL X7);have AG:=Z' (Qf.out.keepL X7);clear Xe X7 Yg Y0 U5 WP Qf Zg j0 j1 j2 j3 j4 j5 j6 d0 d1;obtain⟨j0,j1,j2,j3,j4,j5,j6,-,-,-,-,-,-⟩:=AG.out.box;dsimp only at j0 j1 j2 j3 j4 j5 j6;have pt:W2.cell? ⟨w.heap.size+1,t,none⟩=some (.int .i64 (yx l t:Nat)):=Ws.out.cell (pJ l l.length t (by rw[Zd.out];omega) (by rw[Zd.out];omega));have SV:k<(vf l R k).length:=by rw[ag,NR.out];exact ZX
     have pr:=VE.out.cellA k SV;have fr:=xQ VE.out (k*4+2);have lr:=yG VE.out;have ht1:(t:Int)<j+1:=by omega
     go_wp2_with fail
     have LD:=Z9 (wS (W2.setCell ⟨w.heap.size,k*4+2,none⟩ (.int .i64 (yx l t:Nat))) w.heap.size (vf l R (k+1))) (by
      have h:=VE.out.setA k SV (yx l t:Nat);rw[(Z4 TP.out).2]at h;rw[<-DR.out,S3.out];exact h)
     have Sw:=Z9 (wm (W2.setCell ⟨w.heap.size,k*4+2,none⟩ (.int .i64 (yx l t:Nat))) (w.heap.size+1) (xf l l.length)) (wQ Ws.out (by omega) _ _);have T8:=Z' (Vt.out.setO VE.out (by decide) (by decide) VB (k*4+2) (.int .i64 (yx l t:Nat)));have Xw:=Z' (ZL.out.thenB (show Below w.heap.size W2 (W2.setCell ⟨w.heap.size,k*4+2,none⟩ (.int .i64 (yx l t:Nat)))from Z6.setCell (Nat.le_refl w.heap.size) _));clear pt pr fr lr j0 j1 j2 j3 j4 j5 j6 Vt ZL VE Ws;go_roundg (j-(k+1))
     case measure=>omega
     exact⟨k+1,by omega,rfl,by go_num,Z' (by rw[Ze.out];exact T8.out),Xw,LD,Sw⟩
    have d1:decide (nn<(j:Int))=false:=decide_eq_false h1;have Tk:inB l nn=false:=by rw[NZ.out];exact decide_eq_false (fun h=>h1 h.2)
    rw[Tk]at Ze U8
    have S3:=Z' (Wg.out (by rw[U8.out,if_neg (fun h=>by cases h.2)]))
    clear Tk U8 NZ h0 h1
    go_wp2_with fail
    refine(Zg.out false).mono ?_;rintro e W2 ⟨rfl,Xe,X7⟩;have Vt:=Z' Xe;have ZL:=Z' (Y0.out.trans X7);have VE:=Z' (U5.out.keepL X7);have Ws:=Z' (WP.out.keepL X7);clear Xe X7 Yg Y0 U5 WP Qf Zg j0 j1 j2 j3 j4 j5 j6 d0 d1
    go_wp2_with fail
    go_roundg (j-(k+1))
    case measure=>omega
    exact⟨k+1,by omega,rfl,by go_num,Z' (by rw[Ze.out];exact Vt.out),ZL,Z' (by rw[S3.out];exact VE.out),Ws⟩
   have d0:decide (0<=nn)=false:=decide_eq_false h0;have Tk:inB l nn=false:=by rw[NZ.out];exact decide_eq_false (fun h=>h0 h.1)
   rw[Tk]at Ze U8
   have S3:=Z' (Wg.out (by rw[U8.out,if_neg (fun h=>by cases h.2)]))
   clear Tk U8 NZ h0
   go_wp2_with fail
   refine(Zg.out false).mono ?_;rintro e W2 ⟨rfl,Xe,X7⟩;have Vt:=Z' Xe;have ZL:=Z' (Y0.out.trans X7);have VE:=Z' (U5.out.keepL X7);have Ws:=Z' (WP.out.keepL X7);clear Xe X7 Yg Y0 U5 WP Qf Zg j0 j1 j2 j3 j4 j5 j6 d0
   go_wp2_with fail
   go_roundg (j-(k+1))
   case measure=>omega
   exact⟨k+1,by omega,rfl,by go_num,Z' (by rw[Ze.out];exact Vt.out),ZL,Z' (by rw[S3.out];exact VE.out),Ws⟩
  have e7:((f:Int) !=7)=true:=by
   have:¬(f:Int)=7:=by omega
   simp[this]
  rw[if_neg f7]at Ze;have S3:=Z' (Wg.out (by rw[U8.out,if_neg (fun h=>f7 h.1)]));clear f7 U8 NZ
  go_wp2_with fail
  refine(Ry.out W).mono ?_;rintro e W1 ⟨rfl,ZQ⟩;have Yg:=Z' (ZJ.out.below ZQ);have Y0:=Z' (Za.out.trans (yR.of ZQ));have U5:=Z' (P9.out.below ZQ);have WP:=Z' (Wm.out.below ZQ);clear ZQ ZJ Za P9 Wm Zh Ry j0 j1 j2 j3 j4 j5 j6
  go_wp2_with fail
  go_roundg (j-(k+1))
  case measure=>omega
  exact⟨k+1,by omega,rfl,by go_num,Z' (by rw[Ze.out];exact Yg.out),Y0,Z' (by rw[S3.out];exact U5.out),WP⟩
 obtain rfl:k=j:=by omega
 have ZV:l.take k=l:=List.take_of_length_le (by rw[Zd.out];exact Nat.le_refl _);rw[ZV]at HS
 have YT:=Z' (show wS wr w.heap.size (vp l R) by
  have h:=HR.out;rw[<-NR.out,bi l R (by rw[NR.out,Zd.out])]at h;exact h)
 clear ZX HR ZV hk
 have Mf:=Z9 (Calls prog 123 #[.slice (some ⟨w.heap.size,0,none⟩) k k] wr (sD (xt (vp l R)) wr)) (bS wr _ k k (vp l R) (by
  have h:=YT.out.ss;rw[show(vp l R).length=k by unfold vp;rw[List.length_map,List.length_zip,NR.out,Zd.out,Nat.min_self]]at h;exact h) (by omega) Q5.out)
 generalize xt (vp l R)=ER at*;obtain⟨er,bs⟩:=ER;dsimp only at Yt
 go_wp2_with fail
 refine Mf.out.mono ?_;rintro e W1 ⟨ba,bn,bc,rfl,VT,ST,ZQ,J7⟩;have Vc:=Z' (xk W1 B g (s1.goes l l) (decide (er=0)) er (HS.out.below ZQ));have PV:=Z' J7;have SD:=Z' VT;have Xt:=Z' ST;have Za:=Z' (HK.out.trans (yR.of ZQ));have Wm:=Z' (HA.out.below ZQ);obtain⟨be,D8⟩:=Z8 (decide (er=0));have he0:(er==0)=be:=by rw[D8,Bool.eq_iff_iff,beq_iff_eq,decide_eq_true_iff]
 rw[<-D8]at Vc Yt;have Qe:w.heap.size<=wr.heap.size:=HK.out.size;clear J7 VT ST ZQ HK HA HS Mf D8 YT
 go_wp2_with fail
 refine Vc.out.mono ?_;rintro e W2 ⟨rfl,Xe,X7⟩
 go_wp2_with fail
 go_ret2;rw[mA,Yt.out];exact⟨ba,bn,bc,w.heap.size+1,rfl,(PV.out.keepL X7).mono Qe,PV.out.slK X7 SD.out,Xt.out,Wm.out.keepL X7,by omega,Xe,Za.out.trans X7⟩
theorem ni(w:World)(st:Bool):Calls prog 34 #[.bool st] w fun e w'=>e= .returned (.int .i64 (xJ st))/\w'=w:=by
 cases st
 ·go_enter func34,ntmps34
  go_wp2_with fail
  go_ret;exact⟨rfl,rfl⟩
 go_enter func34,ntmps34
 go_wp2_with fail
 go_ret;exact⟨rfl,rfl⟩
abbrev PLT:=89
theorem pL(W:World)(B g gk ga gat:Nat)(s:LW)(l:List IN)(n most:Int)(hs:LoS W B g s)(hk:W.heap[gk]? =some (.cells #[.pointer (some ⟨g,0,none⟩)] PLT (0,0)))
  (ha:W.heap[ga]? =some (.cells #[.slice (some ⟨gat,0,none⟩) (l.length+1) (l.length+1)] 138 (0,0))) (hr:wm W gat (xf l l.length)) (hl:l.length<=4096) (hm:most<=l.length):
  Calls prog 74 #[.int .i64 n,.int .i64 most,.pointer (some ⟨gk,0,none⟩),.pointer (some ⟨ga,0,none⟩)] W (uf (.int .i64 (s.place l n most).2) B g (s.place l n most).1 W):=by
 have HN:=Z' (xk W B g s false 2 hs);have HS:=Z' hs;have HR:=Z' hr;have k0:=y8 hk 0 rfl;have a0:=y8 ha 0 rfl;obtain⟨R,hR⟩:=Z8 (s.place l n most);rw[<-hR];unfold LW.place at hR;clear hs hr hk ha;by_cases h0:n<0
 ·have d0:decide (n<0)=true:=decide_eq_true h0;have ZS:=Z' (hR.trans (if_pos (.inl h0)));clear hR h0;go_enter func74,ntmps74
  go_wp2_with fail
  refine HN.out.mono ?_;rintro e w1 ⟨rfl,h1,h2⟩
  go_wp2_with fail
  go_ret;rw[ZS.out];exact⟨rfl,h1,h2⟩
 have d0:decide (n<0)=false:=decide_eq_false h0;by_cases h1:most<n
 ·have d1:decide (most<n)=true:=decide_eq_true h1;have ZS:=Z' (hR.trans (if_pos (.inr h1)));clear hR h0 h1;go_enter func74,ntmps74
  go_wp2_with fail
  refine HN.out.mono ?_;rintro e w1 ⟨rfl,h1,h2⟩
  go_wp2_with fail
  go_ret;rw[ZS.out];exact⟨rfl,h1,h2⟩
 have d1:decide (most<n)=false:=decide_eq_false h1
 have ZS:=Z' (hR.trans (if_neg (fun h=>by rcases h with h|h;exact h0 h;exact h1 h)))
 obtain⟨t,ht⟩:∃t:Nat,n=(t:Int):=⟨n.toNat,by omega⟩;subst ht;have hta:(t:Int)<l.length+1:=by omega
 have pt:W.cell? ⟨gat,t,none⟩=some (.int .i64 (yx l t:Nat)):=HR.out.cell (pJ l l.length t (by omega) (by omega));rw[Int.toNat_natCast]at ZS;generalize yx l t=q at*;clear hR h0 h1;go_enter func74,ntmps74
 go_wp2_with fail
 go_ret;rw[ZS.out];exact⟨rfl,HS.out,yR.refl _ _⟩
abbrev FMT:=65
abbrev TrT:=123
abbrev MpT:=68
abbrev SlT:=174
def KP.lp(p:KP):KP:=⟨p.pl,none,0,0,p.loc,none,0,0,p.stk⟩
def KM.lp(m:KM):KM:=⟨m.fl,m.nm,m.ds,m.st,m.lo,none,0,0,m.code,none,0,0,m.traps,none,0,0,m.maps.map KP.lp⟩
structure KP.Ow(p:KP)(w:World)(B:Nat):Prop where
 loc:w.ownsRow B SlT 2 (.slice p.la p.ln p.lc) p.ln (p.loc.flatMap KS.cells)
 stk:w.ownsRow B SlT 2 (.slice p.sa p.sn p.sc) p.sn (p.stk.flatMap KS.cells)
theorem KP.Ow.keepL{p:KP}{B B':Nat}{w w':World}(h:p.Ow w B')(k:yR B w w'):p.Ow w' B':=⟨yR.own h.loc k (by decide) (by decide),yR.own h.stk k (by decide) (by decide)⟩
theorem KP.Ow.keptT{p:KP}{B':Nat}{w w':World}{e:TypeId}(h:p.Ow w B')(k:yd e w w')(h1:SlT≠e):p.Ow w' B':=⟨xA h.loc k h1,xA h.stk k h1⟩
theorem KP.Ow.mono{p:KP}{B B':Nat}{w:World}(h:p.Ow w B)(hB:B'<=B):p.Ow w B':=⟨wg h.loc hB,wg h.stk hB⟩
theorem KP.Ow.rd{p:KP}{w:World}{B:Nat}(h:p.Ow w B):p.Rd w:=by
 obtain⟨a,c,e,hs,_⟩:=Ss.ofOwn KS.cells_length (by decide) h.loc;obtain⟨a',c',e',RB,_⟩:=Ss.ofOwn KS.cells_length (by decide) h.stk
 cases e
 cases e'
 exact⟨hs,RB⟩
theorem wM.keptT{w w':World}{B:Nat}{e:TypeId}{v:Value}{m:Nat}{bs:List UInt8}(h:wM w B v m bs)(hk:yd e w w')(ZF:5≠e):wM w' B v m bs:=by
 rcases h with h|⟨g,C,rfl,hc,h⟩
 ·exact .inl (xA h hk ZF)
 have Sq:=hk.2 _ _ _ _ hc ZF;refine .inr ⟨g,C,rfl,Sq,h.1,fun hn=> ?_⟩;obtain⟨b,off,ha,ZX,Rb⟩:=h.2 hn;simp only[Option.some.injEq,Addr.mk.injEq]at ha;obtain⟨rfl,rfl,_⟩:=ha;refine⟨g,0,rfl,Nat.lt_of_lt_of_le ZX hk.1,fun i hi=> ?_⟩;rw[<-Rb i hi];unfold World.cell?;rw[hc,Sq]
structure KM.Ow(m:KM)(w:World)(B:Nat):Prop where
 code:wM w B (.slice m.ca m.cn m.cc) m.cn m.code
 traps:w.ownsRow B TrT 4 (.slice m.ta m.tn m.tc) m.tn (m.traps.flatMap KT.cells)
 maps:w.ownsRow B MpT 3 (.slice m.ma m.mn m.mc) m.mn (m.maps.flatMap KP.cells)
 each:∀p∈m.maps,p.Ow w B
theorem KM.Ow.keepL{m:KM}{B B':Nat}{w w':World}(h:m.Ow w B')(k:yR B w w'):m.Ow w' B':=⟨h.code.keepL k,yR.own h.traps k (by decide) (by decide),yR.own h.maps k (by decide) (by decide),fun p hp=>(h.each p hp).keepL k⟩
theorem KM.Ow.keptT{m:KM}{B':Nat}{w w':World}{e:TypeId}(h:m.Ow w B')(k:yd e w w')(h1:5≠e)(h2:TrT≠e)(h3:MpT≠e)(h4:SlT≠e):m.Ow w' B':=⟨h.code.keptT k h1,xA h.traps k h2,xA h.maps k h3,fun p hp=>(h.each p hp).keptT k h4⟩
theorem KM.Ow.mono{m:KM}{B B':Nat}{w:World}(h:m.Ow w B)(hB:B'<=B):m.Ow w B':=⟨h.code.mono hB,wg h.traps hB,wg h.maps hB,fun p hp=>(h.each p hp).mono hB⟩
theorem KM.Ow.rd{m:KM}{w:World}{B:Nat}(h:m.Ow w B):m.Rd w:=by
 obtain⟨a,c,e,hs,hc⟩:=h.code.sl;obtain⟨a',c',e',RB,_⟩:=Ss.ofOwn KT.cells_length (by decide) h.traps;obtain⟨a'',c'',e'',Mv,_⟩:=Ss.ofOwn KP.cells_length (by decide) h.maps
 cases e
 cases e'
 cases e''
 exact⟨hs,hc,RB,Mv,fun p hp=>(h.each p hp).rd⟩
theorem KM.Ow.traps1{x:KM}{w w':World}{B:Nat}(h:x.Ow w B)(k:yd TrT w w'){a:Option Addr}{n c:Nat}{t:KT}(ho:w'.ownsRow B TrT 4 (.slice a n c) n ((x.traps++[t]).flatMap KT.cells)):KM.Ow {x with ta:=a,tn:=n,tc:=c,traps:=x.traps++[t]} w' B:=
 ⟨h.code.keptT k (by decide),ho,xA h.maps k (by decide),fun p hp=>(h.each p hp).keptT k (by decide)⟩
theorem KM.Ow.maps1{x:KM}{w w':World}{B:Nat}(h:x.Ow w B)(k:yd MpT w w'){a:Option Addr}{n c:Nat}{p:KP}(hp:p.Ow w' B)(ho:w'.ownsRow B MpT 3 (.slice a n c) n ((x.maps++[p]).flatMap KP.cells)):KM.Ow {x with ma:=a,mn:=n,mc:=c,maps:=x.maps++[p]} w' B:=
 ⟨h.code.keptT k (by decide),xA h.traps k (by decide),ho,fun q hq=>by
  rcases List.mem_append.1 hq with hq|hq
  ·exact(h.each q hq).keptT k (by decide)
  rw[List.mem_singleton.1 hq];exact hp⟩
theorem KM.Ow.code1{x:KM}{w:World}{B:Nat}(h:x.Ow w B){a:Option Addr}{n c:Nat}{bs:List UInt8}(ho:wM w B (.slice a n c) n bs):KM.Ow {x with ca:=a,cn:=n,cc:=c,code:=bs} w B:=⟨ho,h.traps,h.maps,h.each⟩
structure MtH(w V:World)(B g gk gm gz:Nat)(m:UM)(s:LW):Prop where
 hs:LoS V B g s
 hk:yR B w V
 k:V.heap[gk]? =some (.cells #[.pointer (some ⟨g,0,none⟩)] PLT (0,0))
 m:V.heap[gm]? =some (.cells m.cells.toArray yT (0,0))
 z:V.heap[gz]? =some (.cells #[.int .i64 0,.int .i64 0,.int .i64 0,.int .i64 0,.int .i64 0,.slice none 0 0,.slice none 0 0,.slice none 0 0] FMT (0,0))
theorem MtH.call{w V V':World}{B g gk gm gz:Nat}{m:UM}{s s':LW}(h:MtH w V B g gk gm gz m s)(hs:LoS V' B g s')(hk:yR B V V'):MtH w V' B g gk gm gz m s':=
 ⟨hs,h.hk.trans hk,hk.row h.k (by decide) (by decide),hk.row h.m (by decide) (by decide),hk.row h.z (by decide) (by decide)⟩
theorem MtH.below{w V V':World}{B g gk gm gz:Nat}{m:UM}{s:LW}(h:MtH w V B g gk gm gz m s)(hb:Below V.heap.size V V'):MtH w V' B g gk gm gz m s:=h.call (h.hs.below hb) (yR.of hb)
structure MtJ(w V:World)(B g gk gm gz go:Nat)(m:UM)(x:KM)(s:LW):Prop where
 h:MtH w V B g gk gm gz m s
 o:V.heap[go]? =some (.cells x.cells.toArray FMT (0,0))
 w:x.Ow V w.heap.size
theorem MtJ.call{w V V':World}{B g gk gm gz go:Nat}{m:UM}{x:KM}{s s':LW}(h:MtJ w V B g gk gm gz go m x s)(hs:LoS V' B g s')(hk:yR B V V'):MtJ w V' B g gk gm gz go m x s':=
 ⟨h.h.call hs hk,hk.row h.o (by decide) (by decide),h.w.keepL hk⟩
theorem MtJ.below{w V V':World}{B g gk gm gz go:Nat}{m:UM}{x:KM}{s:LW}(h:MtJ w V B g gk gm gz go m x s)(hb:Below V.heap.size V V'):MtJ w V' B g gk gm gz go m x s:=h.call (h.h.hs.below hb) (yR.of hb)
theorem MtJ.put{w V:World}{B g gk gm gz go:Nat}{m:UM}{x x':KM}{s:LW}(h:MtJ w V B g gk gm gz go m x s)(hw:w.heap.size<=go)(h0:0<go)(ZF:gz≠go)(o:Nat)(v:Value)(he:x.cells.toArray.setIfInBounds o v=x'.cells.toArray)(hx:x'.Ow V w.heap.size):
  MtJ w (V.setCell ⟨go,o,none⟩ v) B g gk gm gz go m x' s:=by
 have Zt:=uz h.o o v
 exact⟨⟨h.h.hs.setO h.o (by decide) (by decide) h0 o v,h.h.hk.thenB (Z6.setCell hw v),Zt.2 _ _ _ _ h.h.k (by decide),Zt.2 _ _ _ _ h.h.m (by decide),wQ h.h.z ZF o v⟩,
  by rw[<-he];exact wZ h.o o v,hx.keptT Zt (by decide) (by decide) (by decide) (by decide)⟩
theorem MtJ.app{w V w9:World}{B g gk gm gz go:Nat}{m:UM}{x:KM}{s:LW}{ob:Obj}{e:TypeId}{size:Nat}{v:Value}{n:Nat}{xs:List Value}(h:MtJ w V B g gk gm gz go m x s)(VB:0<w.heap.size)
  (ho:V.ownsRow w.heap.size e size v n xs) (hg:(V.alloc ob).grownBy w9 v.ownBlock) (hb:Below w.heap.size V w9) (h1:e≠x7) (h2:e≠wi) (h3:PLT≠e) (h4:yT≠e) (h5:FMT≠e):
  MtH w w9 B g gk gm gz m s/\w9.heap[go]? =some (.cells x.cells.toArray FMT (0,0)):=by
 have Zt:=yd.app ho hg;exact⟨⟨h.h.hs.app ho hg h1 h2 VB,h.h.hk.thenB hb,Zt.2 _ _ _ _ h.h.k h3,Zt.2 _ _ _ _ h.h.m h4,Zt.2 _ _ _ _ h.h.z h5⟩,Zt.2 _ _ _ _ h.o h5⟩
theorem Ss.lowA{α:Type}{z:Nat}{enc:α->List Value}{w:World}{a:Option Addr}{n:Nat}{xs:List α}(h:Ss z enc w a n xs){B:Nat}(hB:w.heap.size<=B):rZ B a n:=by
 intro hn b off e;obtain⟨b',off',e',ZX,_⟩:=h.2 hn;rw[e]at e'
 cases e'
 omega
theorem Sl.lowA{α:Type}{enc:α->Value}{w:World}{a:Option Addr}{n:Nat}{xs:List α}(h:Sl enc w a n xs){B:Nat}(hB:w.heap.size<=B):rZ B a n:=by
 intro hn b off e;obtain⟨b',off',e',ZX,_⟩:=h.2 hn;rw[e]at e'
 cases e'
 omega
structure UP.Fit(p:UP):Prop where
 loc:p.loc.length<=1024
 stk:p.stk.length<=1024
 lt:∀t∈p.loc,t.length<=65536
 st:∀t∈p.stk,t.length<=65536
structure UM.Fit(m:UM):Prop where
 nm:m.nm.length<=65536
 ds:m.ds.length<=65536
 code:m.code.length<=4096
 ins:∀x∈m.code,vd x
 traps:m.traps.length<=1024
 tr:∀t∈m.traps,t.cl.length<=65536
 maps:m.maps.length<=1024
 mp:∀p∈m.maps,p.Fit
theorem fD:StE 62 TrT (.agg #[.int .i64 0,.int .i64 0,.int .i64 0,.int .i64 0]) 4 32:=⟨by kernel_rfl,by kernel_rfl,rfl⟩
theorem eR:StE 63 MpT (.agg #[.int .i64 0,.slice none 0 0,.slice none 0 0]) 3 56:=⟨by kernel_rfl,by kernel_rfl,rfl⟩
theorem rL:(prog.info? FMT).map (·.size)=some 8:=by kernel_rfl
theorem nK:(prog.info? TrT).map (·.size)=some 4:=by kernel_rfl
theorem pX(x:KM):x.cells.toArray.all (·.oneCell')=true:=by simp[KM.cells,Value.oneCell']
theorem nD(x:KT):x.cells.toArray.all (·.oneCell')=true:=by simp[KT.cells,Value.oneCell']
theorem aC(s:LW)(c:List IN)(l:List UT)(t:UT):s.traps c (l++[t])=((((s.traps c l).1).trap c t).1,(s.traps c l).2++[(((s.traps c l).1).trap c t).2]):=by
 induction l generalizing s with
 |nil=>rfl
 |cons x l ih=>
  rw[List.cons_append,LW.traps,LW.traps,ih];rfl
theorem D3k(s:LW)(c:List IN)(l:List UP)(t:UP):s.maps c (l++[t])=((((s.maps c l).1).map c t).1,(s.maps c l).2++[(((s.maps c l).1).map c t).2]):=by
 induction l generalizing s with
 |nil=>rfl
 |cons x l ih=>
  rw[List.cons_append,LW.maps,LW.maps,ih];rfl
theorem qn(s:LW)(l:List IN)(n most:Int):(s.place l n most).1.l=s.l:=by
 unfold LW.place;split<;>rfl
theorem D8e(s:LW)(l:List IN)(t:UT):(s.trap l t).1.l.length<=s.l.length+4:=by
 unfold LW.trap;dsimp only;split
 ·simp only[qn];omega
 have h:=tE ((((s.place l t.fr (l.length-1)).1).place l t.tt l.length).1.place l t.pl (l.length-1)).1 t.cl false;simp only[qn]at h;exact h
theorem mT(s:LW)(c:List IN)(l:List UT):(s.traps c l).1.l.length<=s.l.length+4*l.length:=by
 induction l generalizing s with
 |nil=>exact Nat.le_refl _
 |cons x l ih=>
  rw[LW.traps];have h1:=D8e s c x;have h2:=ih (s.trap c x).1;simp only[List.length_cons];omega
theorem E2y(s:LW)(l:List IN)(t:UP):(s.map l t).1.l.length<=s.l.length+4*(t.loc.length+t.stk.length):=by
 unfold LW.map;dsimp only;have h1:=pm (s.place l t.pl (l.length-1)).1 t.loc;have h2:=pm ((s.place l t.pl (l.length-1)).1.slots t.loc).1 t.stk;simp only[qn]at h1;omega
theorem fW(s:LW)(c:List IN)(l:List UP)(h:∀p∈l,p.Fit):(s.maps c l).1.l.length<=s.l.length+8192*l.length:=by
 induction l generalizing s with
 |nil=>exact Nat.le_refl _
 |cons x l ih=>
  rw[LW.maps];have h1:=E2y s c x;have h2:=ih (s.map c x).1 (fun p hp=>h p (List.mem_cons_of_mem _ hp));have h3:=h x List.mem_cons_self;have h4:=h3.loc;have h5:=h3.stk;simp only[List.length_cons];omega
theorem fY(s:LW)(l:List IN):(s.code l).1.l.length<=s.l.length+12*l.length:=by
 unfold LW.code;dsimp only;have h:=mj s 0 l;show((s.raws 0 l).1.goes l l).l.length<=_;rw[E7n];exact h
end
end Go.Proofs.YtclpkipaehpkdaaGreatDoor
