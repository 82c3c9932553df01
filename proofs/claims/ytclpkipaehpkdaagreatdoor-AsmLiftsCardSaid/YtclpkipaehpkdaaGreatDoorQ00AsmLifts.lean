/- asm: own texts, merged (wip/merge3.py). No condition. -/
import Derived.Test.YtclpkipaehpkdaaGreatDoorRows
import Derived.WalkKit
import Derived.ProofKit
import Derived.OpenShut
import Derived.ShutString
import Derived.ChangeOld
import Derived.Below
import Derived.Lib.Hide
import Derived.Deep.WholeRow
import Derived.Laws.CopyOwn
import Derived.Deep.AppendSrc
import Derived.Lib.SlBytesConst
import Derived.Deep.QuietTactic
import Derived.BigQuiet
import Derived.Deep.RegionLaw
import Derived.Deep.DrawnRows
import Derived.OrdersHeld
import Derived.StillTail
set_option linter.unusedVariables false
set_option linter.unusedSimpArgs false
set_option maxRecDepth 100000
set_option maxHeartbeats 64000000
namespace Go.Proofs.YtclpkipaehpkdaaGreatDoor
section
open Go.ChangeShapes Go.WideShapes Go.ChangeAt Go.RowKit
theorem C8g{α β:Type}(f:β→α→β)(b:β)(xs:List α)(k:Nat)(h:k<xs.length):(xs.take (k+1)).foldl f b=f ((xs.take k).foldl f b) xs[k]:=by
 rw[List.take_succ_eq_append_getElem h,List.foldl_append];rfl
theorem A2s{k:IntKind}{a b:Int}(h:a=b):Ending.returned (.int k a)= .returned (.int k b):=by rw[h]
theorem A8x{P:Program}{ops:Array Oper}{rest:List Oper}{o:Oper}{a:Act}{w:World}{Q:Exit→Act→World→Prop}(hgd:o.guard=none)(ty:TypeId)(x y:Operand)(ho:o.op= .store ty x y)
  (cells:Array Value) (hx:a.eval x= .pointer (some ⟨w.heap.size,0,none⟩)) (hy:a.eval y= .agg cells) (t:TypeId) (old:Array Value) (hi:(P.info? ty).map (·.size)=some cells.size)
  (hold:old.size=cells.size) (h1:cells.all (·.oneCell')=true) (h:wpList P ops Q rest (a.put o.dst undef) (w.alloc (.cells cells t))):wpList P ops Q (o::rest) a (w.alloc (.cells old t)):=
 wpList_store_row hgd ty x y ho w.heap.size cells hx hy t old (heap_alloc_last w _) hi hold h1 (by rw[World.setRow_alloc_new];exact h)
theorem B0y{P:Program}{w:World}(t tx ty e:TypeId)(i:TypeInfo)(ht:P.underlying t=some (.slice e))(hi:P.info? e=some i)
  (g sLen sCap:Nat) (cur:Array Value) (hg:w.heap[g]? =some (.cells cur e (0,0))) (x:Value) (m:Nat) (news:List Value) (hs:Src P i.size tx x m news w)
  (hroom:sLen+m≤sCap) (hfit:sLen*i.size+news.length≤cur.size):
  (Builtin.append_ #[t,tx] ty #[.slice (some ⟨g,0,none⟩) sLen sCap,x]).run P w=
   .ok (.slice (some ⟨g,0,none⟩) (sLen+m) sCap) (w.setRow g (cur.toList.take (sLen*i.size)++news++cur.toList.drop (sLen*i.size+news.length)).toArray):=by
 have hst:=run_storeCells_at P g (sLen*i.size) e news 0 cur w hg (by simpa using hfit) hs.one;simp only[Nat.add_zero]at hst
 rcases hs.kind with⟨e',hk⟩|hk<;>simp[Builtin.append_,run_underlying ht,run_underlying hk,sizeOf,typeInfo,hi,hs.len,hroom,hs.cells,Addr.add_lit,hst]
theorem B1i{P:Program}{w:World}(t tx ty e:TypeId)(i:TypeInfo)(ht:P.underlying t=some (.slice e))(hi:P.info? e=some i)(x:Value)(news:List Value)(hs:Src P i.size tx x 0 news w):
  (Builtin.append_ #[t,tx] ty #[.slice none 0 0,x]).run P w= .ok (.slice none 0 0) w:=by
 have hc:=hs.cells
 rcases hs.kind with⟨e',hk⟩|hk<;>simp[Builtin.append_,run_underlying ht,run_underlying hk,sizeOf,typeInfo,hi,hs.len,hc]
theorem A7p{P:Program}{w:World}(base:Nat)(t tx ty e:TypeId)(i:TypeInfo)(z:Value)(size bytes:Nat)(ht:P.underlying t=some (.slice e))(hi:P.info? e=some i)(hz:i.zero=some z)
  (hsize:i.size=size) (hby:i.bytes=bytes) (hzs:z.cells.size=size) (v:Value) (n:Nat) (xs:List Value) (hown:w.ownsRow base e size v n xs)
  (x:Value) (m:Nat) (news:List Value) (hs:Src P size tx x m news w) (h63:n+m≤maxLen) (hbytes:(n+m)*bytes≤140737488355328) (hbase:base≤w.heap.size):
  ∃v' w',(Builtin.append_ #[t,tx] ty #[v,x]).run P w= .ok v' w'∧w'.ownsRow base e size v' (n+m) (xs++news)∧w.grownBy w' v.ownBlock∧(v'= .slice none 0 0↔v= .slice none 0 0∧m=0):=by
 subst hsize;subst hby;have hsmall:n+m≤9223372036854775807:=by simp only[maxLen]at h63;omega
 have hl:=hs.newsLen;have hlen:(xs++news).length=(n+m)*i.size:=by rw[List.length_append,hown.1,hl,Nat.add_mul]
 have grown:∀(old:Nat),old<n+m→∀(row:Option Nat),
   (w.drew.alloc (.cells ((xs++news).toArray++Builtin.zeroCells z.cells (grownCap w (n+m) old e-(n+m))) e)).ownsRow base e i.size
    (.slice (some ⟨w.heap.size,0,none⟩) (n+m) (grownCap w (n+m) old e)) (n+m) (xs++news)∧
   w.grownBy (w.drew.alloc (.cells ((xs++news).toArray++Builtin.zeroCells z.cells (grownCap w (n+m) old e-(n+m))) e)) row:=by
  intro old ho row;have hge:=grownCap_ge w (n+m) old e;have hcm:grownCap w (n+m) old e≤maxLen:=grownCap_le_maxLen w (n+m) old e h63
  refine⟨⟨hlen,.inr ⟨w.heap.size,_,_,rfl,hbase,heap_alloc_new w.drew _,hge,hcm,?_,?_⟩⟩,⟨rfl,rfl,rfl,by simp,fun k hk _=>Below.heap_alloc w.drew _ k hk⟩⟩
  ·simp only[Array.size_append,List.size_toArray,size_zeroCells,hzs,hlen,←Nat.add_mul];congr 1;omega
  ·simp only[Array.toList_append];rw[←hlen];exact List.take_left
 rcases hown.2 with⟨rfl,rfl⟩|⟨g,cap,cur,rfl,hbg,hg,hnc,hcm,hcs,htake⟩
 ·have hx:xs=[]:=List.eq_nil_of_length_eq_zero (by simpa using hown.1);subst hx;by_cases hm:m=0
  ·subst hm;have hn:news=[]:=List.eq_nil_of_length_eq_zero (by simpa using hl);subst hn
   exact⟨.slice none 0 0,w,B1i t tx ty e i ht hi x [] hs,World.ownsRow_nil w base e i.size,⟨rfl,rfl,rfl,Nat.le_refl _,fun _ _ _=>rfl⟩,by simp⟩
  ·have hr:=run_append_grow_src (P:=P) w t tx ty e i z ht hi hz none 0 0 [] (by simp[Builtin.firstCells]) x m news hs (by omega) (by omega) (growslice_fits (by omega) hbytes)
   have hgr:=grown 0 (by omega) (Value.ownBlock (.slice none 0 0));exact⟨_,_,hr,hgr.1,hgr.2,by simp[hm]⟩
 ·by_cases hroom:n+m≤cap
  ·have hfit:n*i.size+news.length≤cur.size:=by rw[hl,hcs,←Nat.add_mul];exact Nat.mul_le_mul_right _ hroom
   have hr:=B0y (P:=P) t tx ty e i ht hi g n cap cur hg x m news hs hroom hfit
   refine⟨_,_,hr,⟨hlen,.inr ⟨g,cap,_,rfl,hbg,setRow_heap w g cur _ e _ hg,hroom,hcm,?_,?_⟩⟩,⟨rfl,rfl,rfl,by simp,fun k _ hk=>setRow_other w g k _ (fun e=>hk (by simp[Value.ownBlock,e]))⟩,by simp⟩
   ·simp only[List.size_toArray,List.length_append,List.length_take,List.length_drop,Array.length_toList];omega
   ·rw[htake,←hlen];exact List.take_left
  ·have holds:∀j u,xs[j]? =some u→w.drew.cell? ((⟨g,0,none⟩:Addr).add j)=some u:=hown.cells (g:=g) rfl
   have hr:=run_append_grow_src (P:=P) w t tx ty e i z ht hi hz (some ⟨g,0,none⟩) n cap xs (run_firstCells_some w.drew i.size n ⟨g,0,none⟩ n cap xs hown.1 holds) x m news hs (by omega) (by omega) (growslice_fits (by omega) hbytes)
   have hgr:=grown cap (by omega) (Value.ownBlock (.slice (some ⟨g,0,none⟩) n cap));exact⟨_,_,hr,hgr.1,hgr.2,by simp⟩
theorem A8f{P:Program}{w:World}{ops:Array Oper}{rest:List Oper}{o:Oper}{a:Act}{Q:Exit→Act→World→Prop}(hgd:Region.wanted o (yielded ops a.tmps)=true)(s x:Operand)(t tx:TypeId)
  (ho:o.op= .call {callee:= .builtin .append,args:= #[s,x],argTypes:= #[t,tx]})
  (base:Nat) (e:TypeId) (i:TypeInfo) (z:Value) (size bytes:Nat) (ht:P.underlying t=some (.slice e)) (hi:P.info? e=some i) (hz:i.zero=some z)
  (hsize:i.size=size) (hby:i.bytes=bytes) (hzs:z.cells.size=size) (v:Value) (n:Nat) (xs:List Value) (hv:a.eval s=v) (hown:w.ownsRow base e size v n xs)
  (y:Value) (m:Nat) (news:List Value) (hy:a.eval x=y) (hs:Src P size tx y m news w) (h63:n+m≤maxLen) (hbytes:(n+m)*bytes≤140737488355328) (hbase:base≤w.heap.size)
  (h:∀v' w',w'.ownsRow base e size v' (n+m) (xs++news)→w.grownBy w' v.ownBlock→(v'= .slice none 0 0↔v= .slice none 0 0∧m=0)→wpList P ops Q rest (a.put o.dst v') w'):wpList P ops Q (o::rest) a w:=by
 obtain⟨v',w',hr,h2,h3,h4⟩:=A7p (P:=P) (w:=w) base t tx o.type e i z size bytes ht hi hz hsize hby hzs v n xs hown y m news hs h63 hbytes hbase;refine wpList_step fun K hK=> ?_
 rw[if_pos hgd];unfold Oper.wp execOp;simp only[ho,resolve,invoke,builtin,Sem.run_bind,Sem.run_pure,Result.andThen_ok,List.map_toArray,List.map_cons,List.map_nil,hv,hy,hr]
 exact hK _ _ (h v' w' h2 h3 h4)
def A5f(x:UInt8):Value:= .int .u8 (x.toNat:Int)
theorem B2c{B:Nat}{w0 w w':World}{e:TypeId}{size:Nat}{v:Value}{n:Nat}{xs:List Value}(hb:Below B w0 w)(hB:B≤w.heap.size)(hown:w.ownsRow B e size v n xs)(hg:w.grownBy w' v.ownBlock):Below B w0 w':=
 hb.grown hg hB (fun k hk=>(hown.lt k hk).1)
def Sl{α:Type}(enc:α→Value)(w:World)(a:Option Addr)(n:Nat)(xs:List α):Prop:=
 xs.length=n∧(0<n→∃b off,a=some ⟨b,off,none⟩∧b<w.heap.size∧∀i (h:i<xs.length),w.cell? ⟨b,off+i,none⟩=some (enc xs[i]))
section
variable {α:Type} {enc:α→Value}
theorem Sl.below{w w':World}{a:Option Addr}{n:Nat}{xs:List α}(h:Sl enc w a n xs)(hb:Below w.heap.size w w'):Sl enc w' a n xs:=by
 refine⟨h.1,fun hn=> ?_⟩;obtain⟨b,off,ha,hlt,hc⟩:=h.2 hn;exact⟨b,off,ha,Nat.lt_of_lt_of_le hlt hb.size,fun i hi=>by rw[hb.cell (by simpa using hlt)];exact hc i hi⟩
theorem Sl.nil(w:World)(a:Option Addr):Sl enc w a 0 []:=⟨rfl,fun h=>by omega⟩
theorem Sl.ofOwn{w:World}{base:Nat}{e:TypeId}{v:Value}{n:Nat}{xs:List α}(h:w.ownsRow base e 1 v n (xs.map enc)):∃a cap,v= .slice a n cap∧Sl enc w a n xs∧n≤cap:=by
 have hl:xs.length=n:=by have:=h.1;simpa using this
 rcases h.2 with⟨rfl,rfl⟩|⟨g,cap,cur,rfl,hb,hg,hnc,_,_,ht⟩
 ·exact⟨none,0,rfl,⟨hl,fun h=>by omega⟩,Nat.le_refl _⟩
 ·refine⟨_,cap,rfl,⟨hl,fun _=>⟨g,0,rfl,(Array.getElem?_eq_some_iff.1 hg).1,fun i hi=> ?_⟩⟩,hnc⟩;have:=h.cells (g:=g) rfl i (enc xs[i]) (by rw[List.getElem?_map,List.getElem?_eq_getElem hi];rfl)
  have hadd:(⟨g,0,none⟩:Addr).add i=⟨g,0+i,none⟩:=by unfold Addr.add;split<;>simp_all
  rw[hadd]at this;exact this
theorem Sl.drop{w:World}{a:Option Addr}{n j:Nat}{xs:List α}(h:Sl enc w a n xs)(hj:j<n):∃b off,a=some ⟨b,off,none⟩∧Sl enc w (some ⟨b,off+j,none⟩) (n-j) (xs.drop j):=by
 obtain⟨b,off,ha,hlt,hc⟩:=h.2 (by omega);refine⟨b,off,ha,⟨by simp[h.1],fun _=>⟨b,off+j,rfl,hlt,fun i hi=> ?_⟩⟩⟩;have:=hc (j+i) (by simp at hi;omega);rw[Nat.add_assoc,this];simp
theorem Sl.take{w:World}{a:Option Addr}{n j:Nat}{xs:List α}(h:Sl enc w a n xs)(hj:j≤n):Sl enc w a j (xs.take j):=by
 refine⟨by simp[h.1];omega,fun hn=> ?_⟩;obtain⟨b,off,ha,hlt,hc⟩:=h.2 (by omega);refine⟨b,off,ha,hlt,fun i hi=> ?_⟩;rw[hc i (by simp at hi;omega)];simp
end
theorem B2k{e:Int}(h0:0≤e)(h1:e<256):Value.int .u8 e=A5f (UInt8.ofNat e.toNat):=by
 unfold A5f;rw[UInt8.toNat_ofNat_of_lt' (by show e.toNat<256;omega)];congr 1;omega
theorem C4n{w:World}{ops:Array Oper}{o:Oper}{a:Act}{K:Act→World→Prop}{Q:Exit→Act→World→Prop}{E:Prop}(hgd:Region.wanted o (yielded ops a.tmps)=true)(s x:Operand)(t tx:TypeId)
  (ho:o.op= .call {callee:= .builtin .append,args:= #[s,x],argTypes:= #[t,tx]})
  (base:Nat) (e:TypeId) (i:TypeInfo) (z:Value) (size bytes:Nat) (ht:Tryz.prog.underlying t=some (.slice e)) (hi:Tryz.prog.info? e=some i) (hz:i.zero=some z)
  (hsize:i.size=size) (hby:i.bytes=bytes) (hzs:z.cells.size=size) (v:Value) (n:Nat) (xs:List Value) (hv:a.eval s=v) (hown:w.ownsRow base e size v n xs)
  (y:Value) (m:Nat) (news:List Value) (hy:a.eval x=y) (hs:Src Tryz.prog size tx y m news w) (h63:n+m≤maxLen) (hbytes:(n+m)*bytes≤140737488355328) (hbase:base≤w.heap.size)
  (h:∀v' w',w'.ownsRow base e size v' (n+m) (xs++news)→w.grownBy w' v.ownBlock→K (a.put o.dst v') w'):if Region.wanted o (yielded ops a.tmps)=true then Oper.wp Tryz.prog o a w K Q else E:=by
 obtain⟨v',w',hr,h2,h3,_⟩:=A7p (P:=Tryz.prog) (w:=w) base t tx o.type e i z size bytes ht hi hz hsize hby hzs v n xs hown y m news hs h63 hbytes hbase;rw[if_pos hgd];unfold Oper.wp execOp
 simp only[ho,resolve,invoke,builtin,Sem.run_bind,Sem.run_pure,Result.andThen_ok,List.map_toArray,List.map_cons,List.map_nil,hv,hy,hr];exact h v' w' h2 h3
def C9e(t e:TypeId)(z:Value)(bytes:Nat):Prop:=Tryz.prog.underlying t=some (.slice e)∧(Tryz.prog.info? e).map (fun i=>(i.zero,i.size,i.bytes))=some (some z,1,bytes)∧z.cells.size=1
theorem Src.lit{P:Program}{w:World}{g m c:Nat}{C:Array Value}{e tx e':TypeId}{fr:Nat×Nat}(hg:w.heap[g]? =some (.cells C e fr))(hm:C.size=m)(hone:C.toList.all (·.oneCell')=true)(hk:P.underlying tx=some (.slice e')):
  Src P 1 tx (.slice (some ⟨g,0,none⟩) m c) m C.toList w:=by
 refine Src.ofSlice w hk ⟨g,0,none⟩ m c _ (by simp[hm]) (fun j u hu=> ?_) (fun u hu=>List.all_eq_true.1 hone u hu);have hadd:(⟨g,0,none⟩:Addr).add j=⟨g,j,none⟩:=by unfold Addr.add;split<;>simp_all
 rw[hadd,cell_of_row w g j _ e fr hg];simpa using hu
theorem C1a{t e:TypeId}{z:Value}{bytes:Nat}(hO:C9e t e z bytes){w:World}{ops:Array Oper}{rest:List Oper}{o:Oper}{a:Act}{Q:Exit→Act→World→Prop}(hgd:Region.wanted o (yielded ops a.tmps)=true)(s x:Operand)(tx:TypeId)
  (ho:o.op= .call {callee:= .builtin .append,args:= #[s,x],argTypes:= #[t,tx]})
  (base:Nat) (v:Value) (n:Nat) (xs:List Value) (hv:a.eval s=v) (hown:w.ownsRow base e 1 v n xs)
  (y:Value) (m:Nat) (news:List Value) (hy:a.eval x=y) (hs:Src Tryz.prog 1 tx y m news w) (hlen:(n+m)*bytes≤140737488355328) (hm:n+m≤maxLen) (hbase:base≤w.heap.size)
  (h:∀v' w',w'.ownsRow base e 1 v' (n+m) (xs++news)→w.grownBy w' v.ownBlock→Below base w w'→wpList Tryz.prog ops Q rest (a.put o.dst v') w'):wpList Tryz.prog ops Q (o::rest) a w:=by
 obtain⟨ht,hinf,hz⟩:=hO;obtain⟨i0,hi,hz0,hz1,hz2⟩:=info_parts hinf
 exact A8f hgd s x t tx ho base e i0 z 1 bytes ht hi hz0 hz1 hz2 hz v n xs hv hown y m news hy hs hm hlen hbase (fun v' w' h1 h2 _=>h v' w' h1 h2 (B2c (Below.refl _ _) hbase hown h2))
theorem A6b{t e:TypeId}{z:Value}{bytes:Nat}(hO:C9e t e z bytes){w:World}{ops:Array Oper}{rest:List Oper}{o:Oper}{a:Act}{Q:Exit→Act→World→Prop}(hgd:Region.wanted o (yielded ops a.tmps)=true)(s x:Operand)
  (ho:o.op= .call {callee:= .builtin .append,args:= #[s,x],argTypes:= #[t,t]})
  (base:Nat) (v:Value) (n:Nat) (xs:List Value) (hv:a.eval s=v) (hown:w.ownsRow base e 1 v n xs)
  (C:Array Value) (m c:Nat) (hy:a.eval x= .slice (some ⟨w.heap.size,0,none⟩) m c) (hC:C.size=m) (hone:C.toList.all (·.oneCell')=true) (hlen:(n+m)*bytes≤140737488355328) (hm:n+m≤maxLen) (hbase:base≤w.heap.size)
  (h:∀v' w',w'.ownsRow base e 1 v' (n+m) (xs++C.toList)→(w.alloc (.cells C e)).grownBy w' v.ownBlock→Below base w w'→wpList Tryz.prog ops Q rest (a.put o.dst v') w'):wpList Tryz.prog ops Q (o::rest) a (w.alloc (.cells C e)):=
 C1a hO hgd s x t ho base v n xs hv (hown.alloc _) _ m _ hy (Src.lit (heap_alloc_last w _) hC hone hO.1) hlen hm (by simp;omega)
  (fun v' w' h1 h2 h3=>h v' w' h1 h2 (((Below.refl _ _).alloc hbase _).trans h3))
def D4z{α:Type}(enc:α→Value)(e:TypeId)(B:Nat)(w:World)(xs:List α)(en:Ending)(w':World):Prop:=
 ∃v n,en= .returned v∧w'.ownsRow B e 1 v n (xs.map enc)∧Below B w w'
theorem A1n{w w':World}{base:Nat}{e:TypeId}{size:Nat}{v:Value}{n:Nat}{xs:List Value}(h:w.ownsRow base e size v n xs)(hb:Below w.heap.size w w'):w'.ownsRow base e size v n xs:=
 h.kept (row:=none) ⟨hb.os,hb.tape,hb.output,hb.size,fun k hk _=>hb.block k hk⟩ (by by_cases h:v.ownBlock=none;exact .inl h;exact .inr h)
theorem C9b{t e:TypeId}{z:Value}{bytes:Nat}(hO:C9e t e z bytes){w:World}{ops:Array Oper}{o:Oper}{a:Act}{K:Act→World→Prop}{Q:Exit→Act→World→Prop}{E:Prop}(hgd:Region.wanted o (yielded ops a.tmps)=true)(s x:Operand)(tx:TypeId)
  (ho:o.op= .call {callee:= .builtin .append,args:= #[s,x],argTypes:= #[t,tx]})
  (base:Nat) (v:Value) (n:Nat) (xs:List Value) (hv:a.eval s=v) (hown:w.ownsRow base e 1 v n xs)
  (y:Value) (m:Nat) (news:List Value) (hy:a.eval x=y) (hs:Src Tryz.prog 1 tx y m news w) (hlen:(n+m)*bytes≤140737488355328) (hm:n+m≤maxLen) (hbase:base≤w.heap.size)
  (h:∀v' w',w'.ownsRow base e 1 v' (n+m) (xs++news)→w.grownBy w' v.ownBlock→Below base w w'→K (a.put o.dst v') w'):if Region.wanted o (yielded ops a.tmps)=true then Oper.wp Tryz.prog o a w K Q else E:=by
 obtain⟨ht,hinf,hz⟩:=hO;obtain⟨i0,hi,hz0,hz1,hz2⟩:=info_parts hinf
 exact C4n hgd s x t tx ho base e i0 z 1 bytes ht hi hz0 hz1 hz2 hz v n xs hv hown y m news hy hs hm hlen hbase (fun v' w' h1 h2=>h v' w' h1 h2 (B2c (Below.refl _ _) hbase hown h2))
theorem A9m{t e:TypeId}{z:Value}{bytes:Nat}(hO:C9e t e z bytes){w:World}{ops:Array Oper}{o:Oper}{a:Act}{K:Act→World→Prop}{Q:Exit→Act→World→Prop}{E:Prop}(hgd:Region.wanted o (yielded ops a.tmps)=true)(s x:Operand)
  (ho:o.op= .call {callee:= .builtin .append,args:= #[s,x],argTypes:= #[t,t]})
  (base:Nat) (v:Value) (n:Nat) (xs:List Value) (hv:a.eval s=v) (hown:w.ownsRow base e 1 v n xs)
  (C:Array Value) (m c:Nat) (hy:a.eval x= .slice (some ⟨w.heap.size,0,none⟩) m c) (hC:C.size=m) (hone:C.toList.all (·.oneCell')=true) (hlen:(n+m)*bytes≤140737488355328) (hm:n+m≤maxLen) (hbase:base≤w.heap.size)
  (h:∀v' w',w'.ownsRow base e 1 v' (n+m) (xs++C.toList)→(w.alloc (.cells C e)).grownBy w' v.ownBlock→Below base w w'→K (a.put o.dst v') w'):
  if Region.wanted o (yielded ops a.tmps)=true then Oper.wp Tryz.prog o a (w.alloc (.cells C e)) K Q else E:=
 C9b hO hgd s x t ho base v n xs hv (hown.alloc _) _ m _ hy (Src.lit (heap_alloc_last w _) hC hone hO.1) hlen hm (by simp;omega)
  (fun v' w' h1 h2 h3=>h v' w' h1 h2 (((Below.refl _ _).alloc hbase _).trans h3))
theorem D8h{B:Nat}{a w:World}(h:Below B a w)(n:Nat):Below B a (w.drewN n):=⟨h.os,h.tape,h.output,h.size,h.block⟩
theorem C4v{w:World}{a:Option Addr}{n:Nat}{bs:List UInt8}(h:Sl A5f w a n bs)(cap:Nat):(convert 43 9 (.slice a n cap)).run Tryz.prog w= .ok (.string ⟨bs.toArray⟩) w:=by
 by_cases hn:0<n
 ·obtain⟨b,off,rfl,hlt,hc⟩:=h.2 hn
  have h1:=run_convert_bytes_arg (P:=Tryz.prog) w 43 5 Tryz.underlying43 Tryz.underlying5 b off n cap (bs.map fun x=>(x.toNat:Int)) (by simp[h.1])
   (fun i hi=>by
    have hl:i<bs.length:=by rw[h.1];exact hi
    rw[hc i hl];simp[List.getD,hl,A5f]) 9 Tryz.underlying9
  rw[h1];congr 2;unfold strOfNums;congr 2;rw[List.map_map];exact(List.map_congr_left (fun x _=>by simp)).trans (List.map_id bs)
 ·have h0:n=0:=by omega
  subst h0;have hb:bs=[]:=List.eq_nil_of_length_eq_zero h.1;subst hb;rw[run_convert_bytes_string w 43 9 5 a 0 cap Tryz.underlying43 Tryz.underlying5 Tryz.underlying9]
  cases a with
  |none=>simp[Conv.bytesToString];rfl
  |some ad=>rw[run_bytesToString w ad 0 cap [] (by simp[loadCells,loadCellsFrom])];rfl
end
section
open Go.RowKit
def A5h(P:Program)(ops:Array Oper)(Q:Exit→Act→World→Prop)(S:World→Prop)(i:Nat)(b:Bool)(K:Act→World→Prop)(a:Act)(w:World):Prop:=
 match ops[i]? with
 |none=>False
 |some o=>
  if Region.wanted o (yielded ops a.tmps)=true then
   (match b with
    |true=>∃v,(∀w',S w'→(execOp a.eval o).run P w'= .ok (.value v) w')∧S w∧K (a.put o.dst v) w
    |false=>o.wp P a w (fun a' w'=>S w'∧K a' w') Q)
  else S w∧K (a.put o.dst undef) w
def C1v(P:Program)(ops:Array Oper)(Q:Exit→Act→World→Prop)(S:World→Prop):List (Nat×Bool)→Act→World→Prop
 |[],a,w=>Q .normal a w
 |(i,b)::l,a,w=>A5h P ops Q S i b (C1v P ops Q S l) a w
def B2e(ops:Array Oper):Array Bool→List (Nat×Bool)→Bool
 |listed,[]=>(Region.ready .any ops listed).isEmpty
 |listed,(i,b)::l=>(if b then Region.free .any ops listed i&&(Region.ready .any ops listed).contains i else Region.ready .any ops listed==[i])&&B2e ops (listed.setIfInBounds i true) l
theorem C9d{P:Program}{ops:Array Oper}{Q:Exit→Act→World→Prop}{S:World→Prop}(hs:Region.noSelect ops=true)(hQ:∀c a d v w,Q (.panic c) (a.put d v) w→Q (.panic c) a w):
  ∀(l:List (Nat×Bool)) (listed:Array Bool) (a:Act) (w:World),B2e ops listed l=true→C1v P ops Q S l a w→wpAnyH P .any ops Q S l.length listed a w:=by
 intro l
 induction l with
 |nil=>
  intro listed a w hc h;exact⟨by simpa[B2e]using hc,h⟩
 |cons p l ih=>
  obtain⟨i,b⟩:=p;intro listed a w hc h;simp only[B2e,Bool.and_eq_true]at hc;obtain⟨hc1,hc2⟩:=hc;change A5h P ops Q S i b (C1v P ops Q S l) a w at h;unfold A5h at h
  cases ho:ops[i]? with
  |none=>rw[ho]at h;exact h.elim
  |some o=>
   rw[ho]at h;simp only at h
   cases b with
   |true=>
    simp only[if_true,Bool.and_eq_true]at hc1;obtain⟨hf,hr⟩:=hc1;by_cases hw:Region.wanted o (yielded ops a.tmps)=true
    ·rw[if_pos hw]at h;obtain⟨v,h1,h2,h3⟩:=h;exact wpAnyH_take ho hs hf hr (fun c a w=>hQ c a _ _ w) (.inl ⟨hw,h1⟩) h2 (ih _ _ _ hc2 h3)
    ·rw[if_neg hw]at h;exact wpAnyH_take ho hs hf hr (fun c a w=>hQ c a _ _ w) (.inr ⟨by simpa using hw,rfl⟩) h.1 (ih _ _ _ hc2 h.2)
   |false=>
    simp only[Bool.false_eq_true,if_false]at hc1;have hr:Region.ready .any ops listed=[i]:=by simpa using hc1
    refine wpAnyH_all hr (by simp) (fun j hj=> ?_);obtain rfl:j=i:=by simpa using hj
    unfold wpOp;rw[ho];simp only;by_cases hw:Region.wanted o (yielded ops a.tmps)=true
    ·rw[if_pos hw]at h;simp only[hw,if_true];exact .inl (Oper.wp_mono (fun a' w' h'=>⟨h'.1,ih _ _ _ hc2 h'.2⟩) h)
    ·rw[if_neg hw]at h;simp only[hw];exact⟨h.1,ih _ _ _ hc2 h.2⟩
theorem A4g{P:Program}{id:Nat}{ops:Array Oper}{Q:Exit→Act→World→Prop}{a:Act}{w:World}(S:World→Prop)(l:List (Nat×Bool))(hm:P.follows .mixedOrders=true)
  (hc:(Region.noSelect ops&&(l.length==ops.size)&&B2e ops (Array.replicate ops.size false) l)=true) (hQ:∀c a d v w,Q (.panic c) (a.put d v) w→Q (.panic c) a w)
  (h:C1v P ops Q S l a w.drew):(Code.region id ops true).wp P Q a w:=by
 simp only[Bool.and_eq_true,beq_iff_eq]at hc;obtain⟨⟨hs,hl⟩,hk⟩:=hc;have:=C9d (P:=P) (Q:=Q) (S:=S) hs hQ l _ a _ hk h;rw[hl]at this;exact wp_region_held hm this
theorem A1m{P:Program}{ops:Array Oper}{Q:Exit→Act→World→Prop}{S:World→Prop}{i:Nat}{b:Bool}{l:List (Nat×Bool)}{a:Act}{w:World}
  (h:∀K:Act→World→Prop,(∀a w,C1v P ops Q S l a w→K a w)→A5h P ops Q S i b K a w):C1v P ops Q S ((i,b)::l) a w:=h _ (fun _ _ h=>h)
theorem A9r{P:Program}{ops:Array Oper}{Q:Exit→Act→World→Prop}{S:World→Prop}{a:Act}{w:World}(h:Q .normal a w):C1v P ops Q S [] a w:=h
theorem D3v{P:Program}{ops:Array Oper}{Q:Exit→Act→World→Prop}{S:World→Prop}{i:Nat}{o:Oper}{K:Act→World→Prop}{a:Act}{w:World}(ho:ops[i]? =some o)(hw:Region.wanted o (yielded ops a.tmps)=true)(v:Value)
  (hv:∀w',S w'→(execOp a.eval o).run P w'= .ok (.value v) w') (hS:S w) (h:K (a.put o.dst v) w):A5h P ops Q S i true K a w:=by
 unfold A5h;rw[ho];simp only[];rw[if_pos hw];exact⟨v,hv,hS,h⟩
theorem C9k{P:Program}{ops:Array Oper}{Q:Exit→Act→World→Prop}{S:World→Prop}{i:Nat}{o:Oper}{K:Act→World→Prop}{a:Act}{w:World}(ho:ops[i]? =some o)(hw:Region.wanted o (yielded ops a.tmps)=true)
  (h:o.wp P a w (fun a' w'=>S w'∧K a' w') Q):A5h P ops Q S i false K a w:=by
 unfold A5h;rw[ho];simp only[];rw[if_pos hw];exact h
theorem D3c{P:Program}{ops:Array Oper}{Q:Exit→Act→World→Prop}{S:World→Prop}{i:Nat}{b:Bool}{o:Oper}{K:Act→World→Prop}{a:Act}{w:World}(ho:ops[i]? =some o)(hw:Region.wanted o (yielded ops a.tmps)=false)
  (hS:S w) (h:K (a.put o.dst undef) w):A5h P ops Q S i b K a w:=by
 unfold A5h;rw[ho];simp only[];rw[if_neg (by rw[hw];decide)];exact⟨hS,h⟩
theorem A7c{P:Program}{md:Region.Mode}{ops:Array Oper}{Q:Exit→Act→World→Prop}{S S':World→Prop}(hS:∀x,S' x→S x):
  ∀(fuel:Nat) (listed:Array Bool) (a:Act) (w:World),wpAnyH P md ops Q S' fuel listed a w→wpAnyH P md ops Q S fuel listed a w
 |0,_,_,_,h=>h
 |fuel+1,_,_,_,h=>⟨h.1,fun i hi=>wpOp_mono (fun a' w' h'=>⟨hS _ h'.1,A7c hS fuel _ a' w' h'.2⟩) (h.2 i hi)⟩
def A4y(P:Program)(S:World→Prop)(v:Value):Result Next→Prop
 | .ok (.value u) w'=>u=v∧S w'
 | .ok (.enter f args) w'=>Calls P f args w' fun e w''=>e= .returned v∧S w''
 |_=>False
def A9k(P:Program)(ops:Array Oper)(S:World→Prop)(o:Oper)(v:Value)(a:Act):Prop:=
 (Region.wanted o (yielded ops a.tmps)=true∧∀w,S w→A4y P S v ((execOp a.eval o).run P w))∨
 (Region.wanted o (yielded ops a.tmps)=false∧v=undef)
section
variable {P:Program} {ops:Array Oper} {Q:Exit→Act→World→Prop} {md:Region.Mode} {S:World→Prop}
theorem A9k.of_same{o:Oper}{v:Value}{a a':Act}(hy:A9k P ops S o v a)(he:execOp a'.eval o=execOp a.eval o)
  (hw:Region.wanted o (yielded ops a'.tmps)=Region.wanted o (yielded ops a.tmps)):A9k P ops S o v a':=by
 unfold A9k at*;rw[he,hw];exact hy
theorem A4y.wp{o:Oper}{v:Value}{a:Act}{w:World}{K:Act→World→Prop}(h:A4y P S v ((execOp a.eval o).run P w))(hK:∀w',S w'→K (a.put o.dst v) w'):o.wp P a w K Q:=by
 unfold Oper.wp;generalize(execOp a.eval o).run P w=r at*
 cases r with
 |ok n w'=>
  cases n<;>simp only[A4y,Oper.upon]at h⊢
  case value u=>obtain⟨rfl,hs⟩:=h;exact hK _ hs
  case enter f args=>
   refine Calls.mono h fun e w'' he=> ?_
   obtain⟨rfl,hs⟩:=he;exact hK _ hs
 |halt x w'=>cases x<;>simp only[A4y]at h
theorem A9k.wpOp{i:Nat}{o:Oper}{v:Value}{a:Act}(hi:ops[i]? =some o)(hy:A9k P ops S o v a)
  {K:Act→World→Prop} {w:World} (hS:S w) (h:∀w',S w'→K (a.put o.dst v) w'):wpOp P ops Q i K a w:=by
 unfold Go.wpOp;simp only[hi]
 rcases hy with⟨hw,hv⟩|⟨hw,rfl⟩
 ·simp only[hw,if_true];exact .inl ((hv w hS).wp h)
 ·simp only[hw,Bool.false_eq_true,if_false];exact h w hS
def A2r(P:Program)(ops:Array Oper)(S:World→Prop)(i:Nat)(b:Bool)(K:Act→Prop)(a:Act):Prop:=
 match ops[i]? with
 |none=>False
 |some o=>
  if Region.wanted o (yielded ops a.tmps)=true then
   (match b with
    |true=>∃v,(∀w',S w'→(execOp a.eval o).run P w'= .ok (.value v) w')∧K (a.put o.dst v)
    |false=>∃v,(∀w',S w'→A4y P S v ((execOp a.eval o).run P w'))∧K (a.put o.dst v))
  else K (a.put o.dst undef)
def B3d(P:Program)(ops:Array Oper)(Q:Exit→Act→World→Prop)(S:World→Prop):List (Nat×Bool)→Act→Prop
 |[],a=>∀w,S w→Q .normal a w
 |(i,b)::l,a=>A2r P ops S i b (B3d P ops Q S l) a
def B4p(P:Program)(ops:Array Oper)(Q:Exit→Act→World→Prop)(S:World→Prop):List Nat→Act→Prop
 |[],a=>∀w,S w→Q .normal a w
 |i::l,a=>∃o v,ops[i]? =some o∧A9k P ops S o v a∧B4p P ops Q S l (a.put o.dst v)
theorem D2s:∀(l:List (Nat×Bool)) (a:Act),B3d P ops Q S l a→B4p P ops Q S (l.map (·.1)) a:=by
 intro l
 induction l with
 |nil=>exact fun a h=>h
 |cons p l ih=>
  obtain⟨i,b⟩:=p;intro a h;change A2r P ops S i b (B3d P ops Q S l) a at h;unfold A2r at h
  cases ho:ops[i]? with
  |none=>rw[ho]at h;exact h.elim
  |some o=>
   rw[ho]at h;simp only at h;by_cases hw:Region.wanted o (yielded ops a.tmps)=true
   ·rw[if_pos hw]at h
    cases b with
    |true=>
     obtain⟨v,h1,h2⟩:=h;exact⟨o,v,ho,.inl ⟨hw,fun w hs=>by rw[h1 w hs];exact⟨rfl,hs⟩⟩,ih _ h2⟩
    |false=>
     obtain⟨v,h1,h2⟩:=h;exact⟨o,v,ho,.inl ⟨hw,h1⟩,ih _ h2⟩
   ·rw[if_neg hw]at h;exact⟨o,undef,ho,.inr ⟨by simpa using hw,rfl⟩,ih _ h⟩
def D4h(ops:Array Oper)(listed:Array Bool)(i:Nat):Prop:=
 ∀oi,ops[i]? =some oi→∀j oj,ops[j]? =some oj→j≠i→listed.getD j true=false→(∀e∈oj.after,Region.binds .any e=true→e.on≠i)→oi.apart ops oj=true
def B8q(ops:Array Oper):Array Bool→List Nat→Prop
 |listed,[]=>Region.ready .any ops listed=[]
 |listed,i::l=>i∈Region.ready .any ops listed∧D4h ops listed i∧B8q ops (listed.setIfInBounds i true) l
theorem D4h.mono{listed:Array Bool}{i j:Nat}(h:D4h ops listed i):D4h ops (listed.setIfInBounds j true) i:=by
 intro oi hi k ok hk hki hun hno;refine h oi hi k ok hk hki ?_ hno;by_cases hjk:j=k
 ·subst hjk;by_cases hl:j<listed.size
  ·simp[hl]at hun
  ·rw[Array.setIfInBounds_eq_of_size_le (by omega)]at hun;exact hun
 ·rw[getD_set_ne true hjk]at hun;exact hun
theorem C9i(hs:Region.noSelect ops=true):∀(l:List Nat) (listed:Array Bool) (j:Nat),B8q ops listed l→j∈Region.ready .any ops listed→
  j∈l∧B8q ops (listed.setIfInBounds j true) (l.erase j)∧∀a,B4p P ops Q S l a→B4p P ops Q S (j::l.erase j) a:=by
 intro l
 induction l with
 |nil=>intro listed j hc hj;rw[show Region.ready .any ops listed=[]from hc]at hj;cases hj
 |cons i l ih=>
  intro listed j hc hj;obtain⟨hr,hf,hc'⟩:=hc;by_cases hji:j=i
  ·subst hji;simp only[List.erase_cons_head];exact⟨by simp,hc',fun a h=>h⟩
  ·obtain⟨hjl,hcj,hmv⟩:=ih _ j hc' (ready_mono hj hji);have hij:(i==j)=false:=by simp[Ne.symm hji]
   rw[List.erase_cons_tail (by rw[hij];decide)];refine⟨by simp[hjl],⟨ready_mono hr (Ne.symm hji),hf.mono,?_⟩,fun a h=> ?_⟩
   ·rw[Array.setIfInBounds_comm _ _ hji];exact hcj
   ·obtain⟨oi,v,hoi,hyi,hrest⟩:=h;obtain⟨oj,u,hoj,hyj,hrest'⟩:=hmv _ hrest;obtain⟨hjun,oj',hoj',hall⟩:=mem_ready.1 hj
    obtain rfl:oj'=oj:=by rw[hoj]at hoj';exact(Option.some.inj hoj').symm
    have hnot:∀e∈oj'.after,Region.binds .any e=true→e.on≠i:=fun e he hb heq=>by
     have h1:=hall e he hb;have h0:=(mem_ready.1 hr).1;rw[heq]at h1
     rcases Nat.lt_or_ge i listed.size with h'|h'
     ·simp[h']at h0 h1;rw[h0]at h1;cases h1
     ·simp[Array.getElem?_eq_none h']at h1
    have hap:=hf oi hoi j oj' hoj hji hjun hnot;obtain⟨h1,h2,h3⟩:=Oper.apart_spec hap;have hsi:∀cs b,oi.op≠ .select cs b:=fun cs b=>Region.noSelect_spec hs i oi cs b hoi
    have hsj:∀cs b,oj'.op≠ .select cs b:=fun cs b=>Region.noSelect_spec hs j oj' cs b hoj
    have hyj':A9k P ops S oj' u a:=hyj.of_same (execOp_put oj' hsj a oi.dst v h1).symm (wanted_put oj' a oi.dst v h1).symm
    refine⟨oj',u,hoj,hyj',oi,v,hoi,hyi.of_same (execOp_put oi hsi a oj'.dst u h3) (wanted_put oi a oj'.dst u h3),?_⟩;rw[←Act.put_comm a v u h2];exact hrest'
theorem C7f(hs:Region.noSelect ops=true):∀(n:Nat) (l:List Nat) (listed:Array Bool) (a:Act),l.length=n→B8q ops listed l→B4p P ops Q S l a→
  ∀w,S w→wpAnyH P .any ops Q S n listed a w:=by
 intro n
 induction n with
 |zero=>
  intro l listed a hl hc h w hS;obtain rfl:=List.eq_nil_of_length_eq_zero hl;exact⟨hc,h w hS⟩
 |succ n ih=>
  intro l listed a hl hc h w hS;refine⟨fun h0=> ?_,fun j hj=> ?_⟩
  ·cases l with
   |nil=>simp at hl
   |cons i l=>obtain⟨hr,_⟩:=hc;rw[h0]at hr;cases hr
  ·obtain⟨hjl,hcj,hmv⟩:=C9i (P:=P) (Q:=Q) (S:=S) hs l listed j hc hj;obtain⟨o,v,ho,hy,hrest⟩:=hmv a h;refine hy.wpOp ho hS fun w' hs'=>⟨hs',?_⟩
   exact ih (l.erase j) _ _ (by rw[List.length_erase_of_mem hjl];omega) hcj hrest w' hs'
inductive B5y where
 |stir:List (Nat×Bool)→B5y
 |step:Nat→Bool→B5y→B5y
 |fork:Nat→B5y→Nat→B5y→B5y
 |fork3:Nat→B5y→Nat→B5y→Nat→B5y→B5y
def A4z(P:Program)(ops:Array Oper)(Q:Exit→Act→World→Prop):B5y→(World→Prop)→Act→World→Prop
 | .stir l,S,a,w=>∃S':World→Prop,(∀x,S' x→S x)∧S' w∧B3d P ops Q S' l a
 | .step i b l,S,a,w=>∃S':World→Prop,(∀x,S' x→S x)∧A5h P ops Q S' i b (A4z P ops Q l S') a w
 | .fork i l j m,S,a,w=>∃S':World→Prop,(∀x,S' x→S x)∧A5h P ops Q S' i false (A4z P ops Q l S') a w∧A5h P ops Q S' j false (A4z P ops Q m S') a w
 | .fork3 i l j m k r,S,a,w=>∃S':World→Prop,(∀x,S' x→S x)∧A5h P ops Q S' i false (A4z P ops Q l S') a w∧A5h P ops Q S' j false (A4z P ops Q m S') a w∧A5h P ops Q S' k false (A4z P ops Q r S') a w
def A8c(ops:Array Oper):Array Bool→List (Nat×Bool)→Bool
 |listed,[]=>(Region.ready .any ops listed).isEmpty
 |listed,(i,_)::l=>Region.free .any ops listed i&&(Region.ready .any ops listed).contains i&&A8c ops (listed.setIfInBounds i true) l
def A7k(ops:Array Oper):Nat→Array Bool→B5y→Bool
 |n,listed,.stir l=>(l.length==n)&&A8c ops listed l
 |n+1,listed,.step i b l=>(if b then Region.free .any ops listed i&&(Region.ready .any ops listed).contains i else Region.ready .any ops listed==[i])&&A7k ops n (listed.setIfInBounds i true) l
 |n+1,listed,.fork i l j m=>(Region.ready .any ops listed==[i,j])&&A7k ops n (listed.setIfInBounds i true) l&&A7k ops n (listed.setIfInBounds j true) m
 |n+1,listed,.fork3 i l j m k r=>(Region.ready .any ops listed==[i,j,k])&&A7k ops n (listed.setIfInBounds i true) l&&A7k ops n (listed.setIfInBounds j true) m&&A7k ops n (listed.setIfInBounds k true) r
 |_,_,_=>false
theorem C3i:∀(l:List (Nat×Bool)) (listed:Array Bool),A8c ops listed l=true→B8q ops listed (l.map (·.1)):=by
 intro l
 induction l with
 |nil=>intro listed h;show Region.ready .any ops listed=[];simpa[A8c]using h
 |cons p l ih=>
  obtain⟨i,b⟩:=p;intro listed h;simp only[A8c,Bool.and_eq_true]at h;obtain⟨⟨hf,hr⟩,hc⟩:=h;exact⟨by simpa using hr,fun oi hoi=>Region.free_spec hoi hf,ih _ hc⟩
theorem C5v(hs:Region.noSelect ops=true)(hQ:∀c a d v w,Q (.panic c) (a.put d v) w→Q (.panic c) a w):
  ∀(l:B5y) (S:World→Prop) (n:Nat) (listed:Array Bool) (a:Act) (w:World),A7k ops n listed l=true→A4z P ops Q l S a w→wpAnyH P .any ops Q S n listed a w:=by
 intro l
 induction l with
 |stir l=>
  intro S n listed a w hc h
  have hc':((l.length==n)&&A8c ops listed l)=true:=by cases n<;>exact hc
  simp only[Bool.and_eq_true,beq_iff_eq]at hc';obtain⟨hl,hk⟩:=hc';obtain⟨S',hSS,hw,h⟩:=h
  exact A7c hSS _ _ _ _ (C7f hs n (l.map (·.1)) listed a (by simpa using hl) (C3i _ _ hk) (D2s _ _ h) w hw)
 |step i b l ih=>
  intro S n listed a w hc h
  cases n with
  |zero=>simp[A7k]at hc
  |succ n=>
  simp only[A7k,Bool.and_eq_true]at hc;obtain⟨hc1,hc2⟩:=hc;obtain⟨S',hSS,h⟩:=h;refine A7c hSS _ _ _ _ ?_;unfold A5h at h
  cases ho:ops[i]? with
  |none=>rw[ho]at h;exact h.elim
  |some o=>
   rw[ho]at h;simp only at h
   cases b with
   |true=>
    simp only[if_true,Bool.and_eq_true]at hc1;obtain⟨hf,hr⟩:=hc1;by_cases hw:Region.wanted o (yielded ops a.tmps)=true
    ·rw[if_pos hw]at h;obtain⟨v,h1,h2,h3⟩:=h;exact wpAnyH_take ho hs hf hr (fun c a w=>hQ c a _ _ w) (.inl ⟨hw,h1⟩) h2 (ih _ _ _ _ _ hc2 h3)
    ·rw[if_neg hw]at h;exact wpAnyH_take ho hs hf hr (fun c a w=>hQ c a _ _ w) (.inr ⟨by simpa using hw,rfl⟩) h.1 (ih _ _ _ _ _ hc2 h.2)
   |false=>
    simp only[Bool.false_eq_true,if_false]at hc1;have hr:Region.ready .any ops listed=[i]:=by simpa using hc1
    refine wpAnyH_all hr (by simp) (fun j hj=> ?_);obtain rfl:j=i:=by simpa using hj
    unfold wpOp;rw[ho];simp only;by_cases hw:Region.wanted o (yielded ops a.tmps)=true
    ·rw[if_pos hw]at h;simp only[hw,if_true];exact .inl (Oper.wp_mono (fun a' w' h'=>⟨h'.1,ih _ _ _ _ _ hc2 h'.2⟩) h)
    ·rw[if_neg hw]at h;simp only[hw];exact⟨h.1,ih _ _ _ _ _ hc2 h.2⟩
 |fork i l j m ih1 ih2=>
  intro S n listed a w hc h
  cases n with
  |zero=>simp[A7k]at hc
  |succ n=>
  simp only[A7k,Bool.and_eq_true]at hc;obtain⟨⟨hc1,hc2⟩,hc3⟩:=hc;have hr:Region.ready .any ops listed=[i,j]:=by simpa using hc1
  obtain⟨S',hSS,h1,h2⟩:=h;refine A7c hSS _ _ _ _ ?_;refine wpAnyH_all hr (by simp) (fun k hk=> ?_);have hk':k=i∨k=j:=by simpa using hk
  rcases hk' with rfl|rfl
  ·unfold A5h at h1
   cases ho:ops[k]? with
   |none=>rw[ho]at h1;exact h1.elim
   |some o=>
    rw[ho]at h1;simp only at h1;unfold wpOp;rw[ho];simp only;by_cases hw:Region.wanted o (yielded ops a.tmps)=true
    ·rw[if_pos hw]at h1;simp only[hw,if_true];exact .inl (Oper.wp_mono (fun a' w' h'=>⟨h'.1,ih1 _ _ _ _ _ hc2 h'.2⟩) h1)
    ·rw[if_neg hw]at h1;simp only[hw];exact⟨h1.1,ih1 _ _ _ _ _ hc2 h1.2⟩
  ·unfold A5h at h2
   cases ho:ops[k]? with
   |none=>rw[ho]at h2;exact h2.elim
   |some o=>
    rw[ho]at h2;simp only at h2;unfold wpOp;rw[ho];simp only;by_cases hw:Region.wanted o (yielded ops a.tmps)=true
    ·rw[if_pos hw]at h2;simp only[hw,if_true];exact .inl (Oper.wp_mono (fun a' w' h'=>⟨h'.1,ih2 _ _ _ _ _ hc3 h'.2⟩) h2)
    ·rw[if_neg hw]at h2;simp only[hw];exact⟨h2.1,ih2 _ _ _ _ _ hc3 h2.2⟩
 |fork3 i l j m k r ih1 ih2 ih3=>
  intro S n listed a w hc h
  cases n with
  |zero=>simp[A7k]at hc
  |succ n=>
  simp only[A7k,Bool.and_eq_true]at hc;obtain⟨⟨⟨hc1,hc2⟩,hc3⟩,hc4⟩:=hc;have hr:Region.ready .any ops listed=[i,j,k]:=by simpa using hc1
  obtain⟨S',hSS,h1,h2,h3⟩:=h;refine A7c hSS _ _ _ _ ?_
  have one:∀(x:Nat) (y:B5y),(∀(a:Act) (w:World),A4z P ops Q y S' a w→wpAnyH P .any ops Q S' n (listed.setIfInBounds x true) a w)→A5h P ops Q S' x false (A4z P ops Q y S') a w→
    wpOp P ops Q x (fun a' w'=>S' w'∧wpAnyH P .any ops Q S' n (listed.setIfInBounds x true) a' w') a w:=by
   intro x y ih h1;unfold A5h at h1
   cases ho:ops[x]? with
   |none=>rw[ho]at h1;exact h1.elim
   |some o=>
    rw[ho]at h1;simp only at h1;unfold wpOp;rw[ho];simp only;by_cases hw:Region.wanted o (yielded ops a.tmps)=true
    ·rw[if_pos hw]at h1;simp only[hw,if_true];exact .inl (Oper.wp_mono (fun a' w' h'=>⟨h'.1,ih _ _ h'.2⟩) h1)
    ·rw[if_neg hw]at h1;simp only[hw];exact⟨h1.1,ih _ _ h1.2⟩
  refine wpAnyH_all hr (by simp) (fun x hx=> ?_);have hx':x=i∨x=j∨x=k:=by simpa using hx
  rcases hx' with rfl|rfl|rfl
  ·exact one _ l (fun a w h=>ih1 _ _ _ _ _ hc2 h) h1
  ·exact one _ m (fun a w h=>ih2 _ _ _ _ _ hc3 h) h2
  ·exact one _ r (fun a w h=>ih3 _ _ _ _ _ hc4 h) h3
def B5y.of:List (Nat×Bool)→B5y→B5y
 |[],t=>t
 |(i,b)::l,t=> .step i b (B5y.of l t)
theorem A0g{id:Nat}{a:Act}{w:World}(S:World→Prop)(l:B5y)(hm:P.follows .mixedOrders=true)
  (hc:(Region.noSelect ops&&A7k ops ops.size (Array.replicate ops.size false) l)=true) (hQ:∀c a d v w,Q (.panic c) (a.put d v) w→Q (.panic c) a w)
  (h:A4z P ops Q l S a w.drew):(Code.region id ops true).wp P Q a w:=by
 simp only[Bool.and_eq_true]at hc;obtain⟨hs,hk⟩:=hc;exact wp_region_held hm (C5v (P:=P) (Q:=Q) hs hQ l S _ _ a _ hk h)
theorem A0b{i:Nat}{b:Bool}{l:B5y}{a:Act}{w:World}
  (h:∀K:Act→World→Prop,(∀a w,A4z P ops Q l S a w→K a w)→A5h P ops Q S i b K a w):A4z P ops Q (.step i b l) S a w:=⟨S,fun _ h=>h,h _ (fun _ _ h=>h)⟩
theorem A3h{i j:Nat}{l m:B5y}{a:Act}{w:World}
  (h1:∀K:Act→World→Prop,(∀a w,A4z P ops Q l S a w→K a w)→A5h P ops Q S i false K a w) (h2:∀K:Act→World→Prop,(∀a w,A4z P ops Q m S a w→K a w)→A5h P ops Q S j false K a w):A4z P ops Q (.fork i l j m) S a w:=
 ⟨S,fun _ h=>h,h1 _ (fun _ _ h=>h),h2 _ (fun _ _ h=>h)⟩
theorem A0m{l:List (Nat×Bool)}{a:Act}{w:World}(S':World→Prop)(hSS:∀x,S' x→S x)(hS:S' w)(h:B3d P ops Q S' l a):A4z P ops Q (.stir l) S a w:=⟨S',hSS,hS,h⟩
theorem A0i{i:Nat}{b:Bool}{l:List (Nat×Bool)}{a:Act}
  (h:∀K:Act→Prop,(∀a,B3d P ops Q S l a→K a)→A2r P ops S i b K a):B3d P ops Q S ((i,b)::l) a:=h _ (fun _ h=>h)
theorem A0p{a:Act}(h:∀w,S w→Q .normal a w):B3d P ops Q S [] a:=h
theorem A4y.call{v:Value}{f:FuncId}{args:Array Value}{w':World}(h:Calls P f args w' fun e w''=>e= .returned v∧S w''):A4y P S v (.ok (.enter f args) w'):=h
end
section
variable {P:Program} {ops:Array Oper} {Q:Exit→Act→World→Prop} {md:Region.Mode} {S:World→Prop}
def C0m(P:Program)(md:Region.Mode)(ops:Array Oper)(Q:Exit→Act→World→Prop)(S:World→Prop)(n:Nat):Nat→Array Bool→Act→World→Prop
 |0,listed,a,w=>Region.ready md ops listed=[]∧Q .normal a w
 |fuel+1,listed,a,w=>(Region.ready md ops listed=[]→Q .normal a w)∧
  ∀i∈Region.ready md ops listed,wpOp P ops Q i (fun a' w'=>(i≠n→S w')∧C0m P md ops Q S n fuel (listed.setIfInBounds i true) a' w') a w
theorem B6b{n:Nat}:∀(fuel:Nat) (listed:Array Bool) (a:Act) (w:World),C0m P md ops Q S n fuel listed a w→wpAny P md ops Q fuel listed a w
 |0,_,_,_,h=>h
 |fuel+1,_,_,_,h=>⟨h.1,fun i hi=>wpOp_mono (fun a' w' h'=>B6b fuel _ a' w' h'.2) (h.2 i hi)⟩
theorem B3m{n i:Nat}{oi:Oper}{v:Value}(hsk:Region.sinkB md ops n=true)(hch:Region.chainB md ops n=true)(hn:ops.size=n+1)(hin:i<n)
  (hi:ops[i]? =some oi) (hsel:∀(j:Nat) (o:Oper) cs b,ops[j]? =some o→o.op≠ .select cs b)
  (hQ:∀c a w,Q (.panic c) (a.put oi.dst v) w→Q (.panic c) a w):
  ∀(fuel:Nat) (listed:Array Bool) (a:Act) (w:World),HeadInv md ops n listed→
   (∀j oj,ops[j]? =some oj→j≠i→listed.getD j true=false→(∀e∈oj.after,Region.binds md e=true→e.on≠i)→oi.apart ops oj=true)→
   i∈Region.ready md ops listed→YieldsIf P ops S oi v a→S w→
   C0m P md ops Q S n fuel (listed.setIfInBounds i true) (a.put oi.dst v) w→C0m P md ops Q S n (fuel+1) listed a w:=by
 intro fuel
 induction fuel with
 |zero=>
  intro listed a w _ _ hr hy hS H
  refine⟨fun h=>(by rw[h]at hr;cases hr),fun j hj=> ?_⟩
  by_cases hji:j=i
  ·subst hji;exact hy.wpOp hi hS ⟨fun _=>hS,H⟩
  ·have:=ready_mono hj hji;rw[H.1]at this
   cases this
 |succ fuel ih=>
  intro listed a w inv hfree hr hy hS H
  refine⟨fun h=>(by rw[h]at hr;cases hr),fun j hj=> ?_⟩
  by_cases hji:j=i
  ·subst hji;exact hy.wpOp hi hS ⟨fun _=>hS,H⟩
  ·have h1:=H.2 j (ready_mono hj hji);obtain⟨hjun,oj,hoj,hall⟩:=mem_ready.1 hj
   have hnot:∀e∈oj.after,Region.binds md e=true→e.on≠i:=fun e he hb heq=>by
    have h1:=hall e he hb;have h0:=(mem_ready.1 hr).1;rw[heq,getD_both h0]at h1
    cases h1
   have hjs:j<ops.size:=(Array.getElem?_eq_some_iff.1 hoj).1;have hjn:j≠n:=fun e=>tail_waits hsk hch (by omega) inv (n-i) i rfl hin (mem_ready.1 hr).1 j (by omega) hj
   have h2:=wpOp_putIf hoj (hfree j oj hoj hji hjun hnot) (fun cs b=>hsel i oi cs b hi) (fun cs b=>hsel j oj cs b hoj) hQ hy h1
   have hfree':∀k ok,ops[k]? =some ok→k≠i→(listed.setIfInBounds j true).getD k true=false→
     (∀e∈ok.after,Region.binds md e=true→e.on≠i)→oi.apart ops ok=true:=fun k ok hk hki hun hno=>by
    refine hfree k ok hk hki ?_ hno;by_cases hjk:j=k
    ·subst hjk;exact hjun
    ·rw[getD_set_ne true hjk]at hun;exact hun
   refine wpOp_mono (fun a' w' h3=>⟨fun _=>h3.2.1 hjn,ih (listed.setIfInBounds j true) a' w' (inv.set hj (by omega)) hfree' (ready_mono hr (Ne.symm hji)) h3.1 (h3.2.1 hjn) ?_⟩) h2
   rw[Array.setIfInBounds_comm _ _ hji];exact h3.2.2
def B6r(P:Program)(ops:Array Oper)(Q:Exit→Act→World→Prop)(n:Nat)(a:Act)(w:World):Prop:=
 match ops[n]? with
 |none=>False
 |some o=>if Region.wanted o (yielded ops a.tmps)=true then o.wp P a w (fun a' w'=>Q .normal a' w') Q else Q .normal (a.put o.dst undef) w
def B4q(P:Program)(ops:Array Oper)(Q:Exit→Act→World→Prop)(S:World→Prop)(n:Nat):List (Nat×Bool)→Act→World→Prop
 |[],a,w=>B6r P ops Q n a w
 |(i,b)::l,a,w=>A5h P ops Q S i b (B4q P ops Q S n l) a w
def A9u(ops:Array Oper)(n:Nat):Array Bool→List (Nat×Bool)→Bool
 |listed,[]=>Region.ready .any ops listed==[n]&&(Region.ready .any ops (listed.setIfInBounds n true)).isEmpty
 |listed,(i,b)::l=>decide (i<n)&&(if b then Region.free .any ops listed i&&(Region.ready .any ops listed).contains i else Region.ready .any ops listed==[i])&&A9u ops n (listed.setIfInBounds i true) l
theorem C5h{n:Nat}(hs:Region.noSelect ops=true)(hQ:∀c a d v w,Q (.panic c) (a.put d v) w→Q (.panic c) a w)(hsk:Region.sinkB .any ops n=true)(hch:Region.chainB .any ops n=true)(hn:ops.size=n+1):
  ∀(l:List (Nat×Bool)) (listed:Array Bool) (a:Act) (w:World),HeadInv .any ops n listed→A9u ops n listed l=true→B4q P ops Q S n l a w→C0m P .any ops Q S n (l.length+1) listed a w:=by
 intro l
 induction l with
 |nil=>
  intro listed a w inv hc h;simp only[A9u,Bool.and_eq_true,beq_iff_eq]at hc
  refine⟨fun h0=>(by rw[hc.1]at h0;cases h0),fun j hj=> ?_⟩
  rw[hc.1]at hj;obtain rfl:j=n:=by simpa using hj
  change B6r P ops Q j a w at h;unfold B6r at h;unfold wpOp
  cases ho:ops[j]? with
  |none=>rw[ho]at h;exact h.elim
  |some o=>
   rw[ho]at h;simp only at h⊢;by_cases hw:Region.wanted o (yielded ops a.tmps)=true
   ·rw[if_pos hw]at h;simp only[hw,if_true];exact .inl (Oper.wp_mono (fun a' w' h'=>⟨fun hne=>absurd rfl hne,by simpa using hc.2,h'⟩) h)
   ·rw[if_neg hw]at h;simp only[hw];exact⟨fun hne=>absurd rfl hne,by simpa using hc.2,h⟩
 |cons p l ih=>
  obtain⟨i,b⟩:=p;intro listed a w inv hc h;simp only[A9u,Bool.and_eq_true,decide_eq_true_eq]at hc;obtain⟨⟨hin,hc1⟩,hc2⟩:=hc;change A5h P ops Q S i b (B4q P ops Q S n l) a w at h
  unfold A5h at h
  cases ho:ops[i]? with
  |none=>rw[ho]at h;exact h.elim
  |some o=>
   rw[ho]at h;simp only at h
   cases b with
   |true=>
    simp only[if_true,Bool.and_eq_true]at hc1;obtain⟨hf,hr⟩:=hc1;have hr':i∈Region.ready .any ops listed:=by simpa using hr
    by_cases hw:Region.wanted o (yielded ops a.tmps)=true
    ·rw[if_pos hw]at h;obtain⟨v,h1,h2,h3⟩:=h
     exact B3m hsk hch hn hin ho (Region.noSelect_spec hs) (fun c a w=>hQ c a _ _ w) _ listed a w inv (Region.free_spec ho hf) hr' (.inl ⟨hw,h1⟩) h2 (ih _ _ _ (inv.set hr' hin) hc2 h3)
    ·rw[if_neg hw]at h
     exact B3m hsk hch hn hin ho (Region.noSelect_spec hs) (fun c a w=>hQ c a _ _ w) _ listed a w inv (Region.free_spec ho hf) hr' (.inr ⟨by simpa using hw,rfl⟩) h.1 (ih _ _ _ (inv.set hr' hin) hc2 h.2)
   |false=>
    simp only[Bool.false_eq_true,if_false,beq_iff_eq]at hc1
    refine⟨fun h0=>(by rw[hc1]at h0;cases h0),fun j hj=> ?_⟩
    have hj0:=hj;rw[hc1]at hj;obtain rfl:j=i:=by simpa using hj
    unfold wpOp;rw[ho];simp only;by_cases hw:Region.wanted o (yielded ops a.tmps)=true
    ·rw[if_pos hw]at h;simp only[hw,if_true];exact .inl (Oper.wp_mono (fun a' w' h'=>⟨fun _=>h'.1,ih _ _ _ (inv.set hj0 hin) hc2 h'.2⟩) h)
    ·rw[if_neg hw]at h;simp only[hw];exact⟨fun _=>h.1,ih _ _ _ (inv.set hj0 hin) hc2 h.2⟩
theorem A2v{id:Nat}{a:Act}{w:World}(S:World→Prop)(n:Nat)(l:List (Nat×Bool))(hm:P.follows .mixedOrders=true)
  (hc:(Region.noSelect ops&&(ops.size==n+1)&&(l.length==n)&&Region.sinkB .any ops n&&Region.chainB .any ops n&&A9u ops n (Array.replicate ops.size false) l)=true) (hQ:∀c a d v w,Q (.panic c) (a.put d v) w→Q (.panic c) a w)
  (h:B4q P ops Q S n l a w.drew):(Code.region id ops true).wp P Q a w:=by
 simp only[Bool.and_eq_true,beq_iff_eq]at hc;obtain⟨⟨⟨⟨⟨hs,hl⟩,hl2⟩,hsk⟩,hch⟩,hk⟩:=hc
 have inv0:HeadInv .any ops n (Array.replicate ops.size false):=
  ⟨by simp,fun j oj _ hl=>(by rw[getD_replicate_false]at hl;cases hl),fun t _ ht=>getD_in (by simpa using ht) (getD_replicate_false _ _)⟩
 have:=C5h (P:=P) (Q:=Q) (S:=S) hs hQ hsk hch hl l _ a _ inv0 hk h;rw[hl2,←hl]at this;exact wp_region_any hm (B6b _ _ _ _ this)
theorem A0t{n i:Nat}{b:Bool}{l:List (Nat×Bool)}{a:Act}{w:World}
  (h:∀K:Act→World→Prop,(∀a w,B4q P ops Q S n l a w→K a w)→A5h P ops Q S i b K a w):B4q P ops Q S n ((i,b)::l) a w:=h _ (fun _ _ h=>h)
theorem A5p{n:Nat}{a:Act}{w:World}(h:B6r P ops Q n a w):B4q P ops Q S n [] a w:=h
end
end
end Go.Proofs.YtclpkipaehpkdaaGreatDoor
