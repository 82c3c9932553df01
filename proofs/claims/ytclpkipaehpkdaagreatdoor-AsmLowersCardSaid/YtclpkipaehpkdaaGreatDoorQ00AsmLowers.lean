/- asm -/
import Derived.Test.YtclpkipaehpkdaaGreatDoorRows
import Derived.WalkKit
import Derived.ProofKit
import Derived.OpenShut
import Derived.ShutString
import Derived.ChangeOld
import Derived.Below
import Derived.Lib.Hide
import Derived.Deep.WholeRow
import Derived.Laws.CopyOwn
import Derived.Deep.AppendSrc
import Derived.Lib.SlBytesConst
import Derived.Deep.QuietTactic
import Derived.BigQuiet
import Derived.Deep.RegionLaw
import Derived.Deep.DrawnRows
import Derived.Lib.ConvBytes
set_option linter.unusedVariables false
set_option linter.unusedSimpArgs false
set_option maxRecDepth 100000
set_option maxHeartbeats 64000000
namespace Go.Proofs.YtclpkipaehpkdaaGreatDoor
section
open Go.ChangeShapes Go.WideShapes Go.ChangeAt Go.RowKit
theorem D0c{α β:Type}(f:β->α->β)(b:β)(xs:List α)(k:Nat)(h:k<xs.length):(xs.take (k+1)).foldl f b=f ((xs.take k).foldl f b) xs[k]:=by
 rw[List.take_succ_eq_append_getElem h,List.foldl_append];rfl
theorem A2v{k:IntKind}{a b:Int}(h:a=b):Ending.returned (.int k a)= .returned (.int k b):=by rw[h]
theorem A9e{P:Program}{ops:Array Oper}{rest:List Oper}{o:Oper}{a:Act}{w:World}{Q:Exit->Act->World->Prop}(hgd:o.guard=none)(ty:TypeId)(x y:Operand)(ho:o.op= .store ty x y)
  (cells:Array Value) (hx:a.eval x= .pointer (some ⟨w.heap.size,0,none⟩)) (hy:a.eval y= .agg cells) (t:TypeId) (old:Array Value) (hi:(P.info? ty).map (·.size)=some cells.size)
  (hold:old.size=cells.size) (h1:cells.all (·.oneCell')=true) (h:wpList P ops Q rest (a.put o.dst undef) (w.alloc (.cells cells t))):wpList P ops Q (o::rest) a (w.alloc (.cells old t)):=
 wpList_store_row hgd ty x y ho w.heap.size cells hx hy t old (heap_alloc_last w _) hi hold h1 (by rw[World.setRow_alloc_new];exact h)
theorem B1d{P:Program}{w:World}(t tx ty e:TypeId)(i:TypeInfo)(ht:P.underlying t=some (.slice e))(hi:P.info? e=some i)
  (g sLen sCap:Nat) (cur:Array Value) (hg:w.heap[g]? =some (.cells cur e (0,0))) (x:Value) (m:Nat) (news:List Value) (hs:Src P i.size tx x m news w)
  (hroom:sLen+m<=sCap) (hfit:sLen*i.size+news.length<=cur.size):
  (Builtin.append_ #[t,tx] ty #[.slice (some ⟨g,0,none⟩) sLen sCap,x]).run P w=
   .ok (.slice (some ⟨g,0,none⟩) (sLen+m) sCap) (w.setRow g (cur.toList.take (sLen*i.size)++news++cur.toList.drop (sLen*i.size+news.length)).toArray):=by
 have hst:=run_storeCells_at P g (sLen*i.size) e news 0 cur w hg (by simpa using hfit) hs.one;simp only[Nat.add_zero]at hst
 rcases hs.kind with⟨e',hk⟩|hk<;>simp[Builtin.append_,run_underlying ht,run_underlying hk,sizeOf,typeInfo,hi,hs.len,hroom,hs.cells,Addr.add_lit,hst]
theorem B2a{P:Program}{w:World}(t tx ty e:TypeId)(i:TypeInfo)(ht:P.underlying t=some (.slice e))(hi:P.info? e=some i)(x:Value)(news:List Value)(hs:Src P i.size tx x 0 news w):
  (Builtin.append_ #[t,tx] ty #[.slice none 0 0,x]).run P w= .ok (.slice none 0 0) w:=by
 have hc:=hs.cells
 rcases hs.kind with⟨e',hk⟩|hk<;>simp[Builtin.append_,run_underlying ht,run_underlying hk,sizeOf,typeInfo,hi,hs.len,hc]
theorem A7w{P:Program}{w:World}(base:Nat)(t tx ty e:TypeId)(i:TypeInfo)(z:Value)(size bytes:Nat)(ht:P.underlying t=some (.slice e))(hi:P.info? e=some i)(hz:i.zero=some z)
  (hsize:i.size=size) (hby:i.bytes=bytes) (hzs:z.cells.size=size) (v:Value) (n:Nat) (xs:List Value) (hown:w.ownsRow base e size v n xs)
  (x:Value) (m:Nat) (news:List Value) (hs:Src P size tx x m news w) (h63:n+m<=maxLen) (hbytes:(n+m)*bytes<=140737488355328) (hbase:base<=w.heap.size):
  ∃v' w',(Builtin.append_ #[t,tx] ty #[v,x]).run P w= .ok v' w'/\w'.ownsRow base e size v' (n+m) (xs++news)/\w.grownBy w' v.ownBlock/\(v'= .slice none 0 0↔v= .slice none 0 0/\m=0):=by
 subst hsize;subst hby;have hsmall:n+m<=9223372036854775807:=by simp only[maxLen]at h63;omega
 have hl:=hs.newsLen;have hlen:(xs++news).length=(n+m)*i.size:=by rw[List.length_append,hown.1,hl,Nat.add_mul]
 have grown:∀(old:Nat),old<n+m->∀(row:Option Nat),
   (w.drew.alloc (.cells ((xs++news).toArray++Builtin.zeroCells z.cells (grownCap w (n+m) old e-(n+m))) e)).ownsRow base e i.size
    (.slice (some ⟨w.heap.size,0,none⟩) (n+m) (grownCap w (n+m) old e)) (n+m) (xs++news)/\
   w.grownBy (w.drew.alloc (.cells ((xs++news).toArray++Builtin.zeroCells z.cells (grownCap w (n+m) old e-(n+m))) e)) row:=by
  intro old ho row;have hge:=grownCap_ge w (n+m) old e;have hcm:grownCap w (n+m) old e<=maxLen:=grownCap_le_maxLen w (n+m) old e h63
  refine⟨⟨hlen,.inr ⟨w.heap.size,_,_,rfl,hbase,heap_alloc_new w.drew _,hge,hcm,?_,?_⟩⟩,⟨rfl,rfl,rfl,by simp,fun k hk _=>Below.heap_alloc w.drew _ k hk⟩⟩
  ·simp only[Array.size_append,List.size_toArray,size_zeroCells,hzs,hlen,<-Nat.add_mul];congr 1;omega
  ·simp only[Array.toList_append];rw[<-hlen];exact List.take_left
 rcases hown.2 with⟨rfl,rfl⟩|⟨g,cap,cur,rfl,hbg,hg,hnc,hcm,hcs,htake⟩
 ·have hx:xs=[]:=List.eq_nil_of_length_eq_zero (by simpa using hown.1);subst hx;by_cases hm:m=0
  ·subst hm;have hn:news=[]:=List.eq_nil_of_length_eq_zero (by simpa using hl);subst hn
   exact⟨.slice none 0 0,w,B2a t tx ty e i ht hi x [] hs,World.ownsRow_nil w base e i.size,⟨rfl,rfl,rfl,Nat.le_refl _,fun _ _ _=>rfl⟩,by simp⟩
  have hr:=run_append_grow_src (P:=P) w t tx ty e i z ht hi hz none 0 0 [] (by simp[Builtin.firstCells]) x m news hs (by omega) (by omega) (growslice_fits (by omega) hbytes)
  have hgr:=grown 0 (by omega) (Value.ownBlock (.slice none 0 0));exact⟨_,_,hr,hgr.1,hgr.2,by simp[hm]⟩
 by_cases hroom:n+m<=cap
 ·have hfit:n*i.size+news.length<=cur.size:=by rw[hl,hcs,<-Nat.add_mul];exact Nat.mul_le_mul_right _ hroom
  have hr:=B1d (P:=P) t tx ty e i ht hi g n cap cur hg x m news hs hroom hfit
  refine⟨_,_,hr,⟨hlen,.inr ⟨g,cap,_,rfl,hbg,setRow_heap w g cur _ e _ hg,hroom,hcm,?_,?_⟩⟩,⟨rfl,rfl,rfl,by simp,fun k _ hk=>setRow_other w g k _ (fun e=>hk (by simp[Value.ownBlock,e]))⟩,by simp⟩
  ·simp only[List.size_toArray,List.length_append,List.length_take,List.length_drop,Array.length_toList];omega
  rw[htake,<-hlen];exact List.take_left
 have holds:∀j u,xs[j]? =some u->w.drew.cell? ((⟨g,0,none⟩:Addr).add j)=some u:=hown.cells (g:=g) rfl
 have hr:=run_append_grow_src (P:=P) w t tx ty e i z ht hi hz (some ⟨g,0,none⟩) n cap xs (run_firstCells_some w.drew i.size n ⟨g,0,none⟩ n cap xs hown.1 holds) x m news hs (by omega) (by omega) (growslice_fits (by omega) hbytes)
 have hgr:=grown cap (by omega) (Value.ownBlock (.slice (some ⟨g,0,none⟩) n cap));exact⟨_,_,hr,hgr.1,hgr.2,by simp⟩
theorem A8n{P:Program}{w:World}{ops:Array Oper}{rest:List Oper}{o:Oper}{a:Act}{Q:Exit->Act->World->Prop}(hgd:Region.wanted o (yielded ops a.tmps)=true)(s x:Operand)(t tx:TypeId)
  (ho:o.op= .call {callee:= .builtin .append,args:= #[s,x],argTypes:= #[t,tx]})
  (base:Nat) (e:TypeId) (i:TypeInfo) (z:Value) (size bytes:Nat) (ht:P.underlying t=some (.slice e)) (hi:P.info? e=some i) (hz:i.zero=some z)
  (hsize:i.size=size) (hby:i.bytes=bytes) (hzs:z.cells.size=size) (v:Value) (n:Nat) (xs:List Value) (hv:a.eval s=v) (hown:w.ownsRow base e size v n xs)
  (y:Value) (m:Nat) (news:List Value) (hy:a.eval x=y) (hs:Src P size tx y m news w) (h63:n+m<=maxLen) (hbytes:(n+m)*bytes<=140737488355328) (hbase:base<=w.heap.size)
  (h:∀v' w',w'.ownsRow base e size v' (n+m) (xs++news)->w.grownBy w' v.ownBlock->(v'= .slice none 0 0↔v= .slice none 0 0/\m=0)->wpList P ops Q rest (a.put o.dst v') w'):wpList P ops Q (o::rest) a w:=by
 obtain⟨v',w',hr,h2,h3,h4⟩:=A7w (P:=P) (w:=w) base t tx o.type e i z size bytes ht hi hz hsize hby hzs v n xs hown y m news hs h63 hbytes hbase;refine wpList_step fun K hK=> ?_
 rw[if_pos hgd];unfold Oper.wp execOp;simp only[ho,resolve,invoke,builtin,Sem.run_bind,Sem.run_pure,Result.andThen_ok,List.map_toArray,List.map_cons,List.map_nil,hv,hy,hr]
 exact hK _ _ (h v' w' h2 h3 h4)
def A5q(x:UInt8):Value:= .int .u8 (x.toNat:Int)
theorem B2i{B:Nat}{w0 w w':World}{e:TypeId}{size:Nat}{v:Value}{n:Nat}{xs:List Value}(hb:Below B w0 w)(hB:B<=w.heap.size)(hown:w.ownsRow B e size v n xs)(hg:w.grownBy w' v.ownBlock):Below B w0 w':=
 hb.grown hg hB (fun k hk=>(hown.lt k hk).1)
end
section
open Go.RowKit
def E{n:Nat}(v:BitVec n):Int:=(v.toNat:Int)
theorem hzz{p:Prop}(h:p):Hid p:=h
theorem exz{α:Sort _}(a:α):∃x,x=a:=⟨a,rfl⟩
theorem btz{w w1 w2:World}(h:Hid (Below w.heap.size w w1))(k:Below w1.heap.size w1 w2):Hid (Below w.heap.size w w2):=h.out.trans (k.mono h.out.size)
theorem brz{B:Nat}{w:World}:Below B w w:=Below.refl _ _
theorem nlz{n:Nat}:n<=n:=Nat.le_refl _
theorem gsz{α:Type _}{l:List α}{i:Nat}{a:α}(h:l[i]? =some a):∃h:i<l.length,l[i]=a:=List.getElem?_eq_some_iff.1 h
end
section
open Go.ChangeShapes Go.WideShapes Go.ChangeAt Go.RowKit
def Sl{α:Type}(enc:α->Value)(w:World)(a:Option Addr)(n:Nat)(xs:List α):Prop:=
 xs.length=n/\(0<n->∃b off,a=some ⟨b,off,none⟩/\b<w.heap.size/\∀i (h:i<xs.length),w.cell? ⟨b,off+i,none⟩=some (enc xs[i]))
section
variable {α:Type} {enc:α->Value}
theorem Sl.below{w w':World}{a:Option Addr}{n:Nat}{xs:List α}(h:Sl enc w a n xs)(hb:Below w.heap.size w w'):Sl enc w' a n xs:=by
 refine⟨h.1,fun hn=> ?_⟩;obtain⟨b,off,ha,hlt,hc⟩:=h.2 hn;exact⟨b,off,ha,Nat.lt_of_lt_of_le hlt hb.size,fun i hi=>by rw[hb.cell (by simpa using hlt)];exact hc i hi⟩
theorem Sl.nil(w:World)(a:Option Addr):Sl enc w a 0 []:=⟨rfl,fun h=>by omega⟩
theorem Sl.ofOwn{w:World}{base:Nat}{e:TypeId}{v:Value}{n:Nat}{xs:List α}(h:w.ownsRow base e 1 v n (xs.map enc)):∃a cap,v= .slice a n cap/\Sl enc w a n xs/\n<=cap:=by
 have hl:xs.length=n:=by have:=h.1;simpa using this
 rcases h.2 with⟨rfl,rfl⟩|⟨g,cap,cur,rfl,hb,hg,hnc,_,_,ht⟩
 ·exact⟨none,0,rfl,⟨hl,fun h=>by omega⟩,Nat.le_refl _⟩
 refine⟨_,cap,rfl,⟨hl,fun _=>⟨g,0,rfl,(Array.getElem?_eq_some_iff.1 hg).1,fun i hi=> ?_⟩⟩,hnc⟩;have:=h.cells (g:=g) rfl i (enc xs[i]) (by rw[List.getElem?_map,List.getElem?_eq_getElem hi];rfl)
 have hadd:(⟨g,0,none⟩:Addr).add i=⟨g,0+i,none⟩:=by unfold Addr.add;split<;>simp_all
 rw[hadd]at this;exact this
theorem Sl.drop{w:World}{a:Option Addr}{n j:Nat}{xs:List α}(h:Sl enc w a n xs)(hj:j<n):∃b off,a=some ⟨b,off,none⟩/\Sl enc w (some ⟨b,off+j,none⟩) (n-j) (xs.drop j):=by
 obtain⟨b,off,ha,hlt,hc⟩:=h.2 (by omega);refine⟨b,off,ha,⟨by simp[h.1],fun _=>⟨b,off+j,rfl,hlt,fun i hi=> ?_⟩⟩⟩;have:=hc (j+i) (by simp at hi;omega);rw[Nat.add_assoc,this];simp
theorem Sl.take{w:World}{a:Option Addr}{n j:Nat}{xs:List α}(h:Sl enc w a n xs)(hj:j<=n):Sl enc w a j (xs.take j):=by
 refine⟨by simp[h.1];omega,fun hn=> ?_⟩;obtain⟨b,off,ha,hlt,hc⟩:=h.2 (by omega);refine⟨b,off,ha,hlt,fun i hi=> ?_⟩;rw[hc i (by simp at hi;omega)];simp
theorem Sl.src{P:Program}(h1:∀x:α,(enc x).oneCell'=true){w:World}{a:Option Addr}{n:Nat}{xs:List α}(h:Sl enc w a n xs){tx e':TypeId}(hk:P.underlying tx=some (.slice e'))(cap:Nat):Src P 1 tx (.slice a n cap) n (xs.map enc) w:=by
 obtain⟨hl,hc⟩:=h
 have hone:∀u∈xs.map enc,u.oneCell'=true:=by
  intro u hu;obtain⟨_,_,rfl⟩:=List.mem_map.1 hu;exact h1 _
 by_cases hn:0<n
 ·obtain⟨b,off,rfl,_,hcell⟩:=hc hn;refine Src.ofSlice w hk ⟨b,off,none⟩ n cap _ (by simp[hl]) (fun j u hu=> ?_) hone;rw[List.getElem?_map]at hu
  have hj:j<xs.length:=by
   rcases Nat.lt_or_ge j xs.length with h|h
   ·exact h
   rw[List.getElem?_eq_none h]at hu;simp at hu
  rw[List.getElem?_eq_getElem hj]at hu;simp only[Option.map_some,Option.some.injEq]at hu;subst hu;have hadd:(⟨b,off,none⟩:Addr).add j=⟨b,off+j,none⟩:=by unfold Addr.add;split<;>simp_all
  rw[hadd];exact hcell j hj
 have h0:n=0:=by omega
 subst h0;have hb:xs=[]:=List.eq_nil_of_length_eq_zero hl;subst hb
 cases a with
 |none=>exact Src.ofNil w hk cap
 |some ad=>exact Src.ofSlice w hk ad 0 cap [] rfl (fun j u hu=>by simp at hu) (fun u hu=>by cases hu)
end
theorem B3d{e:Int}(h0:0<=e)(h1:e<256):Value.int .u8 e=A5q (UInt8.ofNat e.toNat):=by
 unfold A5q;rw[UInt8.toNat_ofNat_of_lt' (by show e.toNat<256;omega)];congr 1;omega
theorem C5k{w:World}{ops:Array Oper}{o:Oper}{a:Act}{K:Act->World->Prop}{Q:Exit->Act->World->Prop}{E:Prop}(hgd:Region.wanted o (yielded ops a.tmps)=true)(s x:Operand)(t tx:TypeId)
  (ho:o.op= .call {callee:= .builtin .append,args:= #[s,x],argTypes:= #[t,tx]})
  (base:Nat) (e:TypeId) (i:TypeInfo) (z:Value) (size bytes:Nat) (ht:Tryz.prog.underlying t=some (.slice e)) (hi:Tryz.prog.info? e=some i) (hz:i.zero=some z)
  (hsize:i.size=size) (hby:i.bytes=bytes) (hzs:z.cells.size=size) (v:Value) (n:Nat) (xs:List Value) (hv:a.eval s=v) (hown:w.ownsRow base e size v n xs)
  (y:Value) (m:Nat) (news:List Value) (hy:a.eval x=y) (hs:Src Tryz.prog size tx y m news w) (h63:n+m<=maxLen) (hbytes:(n+m)*bytes<=140737488355328) (hbase:base<=w.heap.size)
  (h:∀v' w',w'.ownsRow base e size v' (n+m) (xs++news)->w.grownBy w' v.ownBlock->K (a.put o.dst v') w'):if Region.wanted o (yielded ops a.tmps)=true then Oper.wp Tryz.prog o a w K Q else E:=by
 obtain⟨v',w',hr,h2,h3,_⟩:=A7w (P:=Tryz.prog) (w:=w) base t tx o.type e i z size bytes ht hi hz hsize hby hzs v n xs hown y m news hs h63 hbytes hbase;rw[if_pos hgd];unfold Oper.wp execOp
 simp only[ho,resolve,invoke,builtin,Sem.run_bind,Sem.run_pure,Result.andThen_ok,List.map_toArray,List.map_cons,List.map_nil,hv,hy,hr];exact h v' w' h2 h3
def C9y(t e:TypeId)(z:Value)(bytes:Nat):Prop:=Tryz.prog.underlying t=some (.slice e)/\(Tryz.prog.info? e).map (fun i=>(i.zero,i.size,i.bytes))=some (some z,1,bytes)/\z.cells.size=1
theorem Src.lit{P:Program}{w:World}{g m c:Nat}{C:Array Value}{e tx e':TypeId}{fr:Nat×Nat}(hg:w.heap[g]? =some (.cells C e fr))(hm:C.size=m)(hone:C.toList.all (·.oneCell')=true)(hk:P.underlying tx=some (.slice e')):
  Src P 1 tx (.slice (some ⟨g,0,none⟩) m c) m C.toList w:=by
 refine Src.ofSlice w hk ⟨g,0,none⟩ m c _ (by simp[hm]) (fun j u hu=> ?_) (fun u hu=>List.all_eq_true.1 hone u hu);have hadd:(⟨g,0,none⟩:Addr).add j=⟨g,j,none⟩:=by unfold Addr.add;split<;>simp_all
 rw[hadd,cell_of_row w g j _ e fr hg];simpa using hu
theorem C4r{t e:TypeId}{z:Value}{bytes:Nat}(hO:C9y t e z bytes){w:World}{ops:Array Oper}{rest:List Oper}{o:Oper}{a:Act}{Q:Exit->Act->World->Prop}(hgd:Region.wanted o (yielded ops a.tmps)=true)(s x:Operand)(tx:TypeId)
  (ho:o.op= .call {callee:= .builtin .append,args:= #[s,x],argTypes:= #[t,tx]})
  (base:Nat) (v:Value) (n:Nat) (xs:List Value) (hv:a.eval s=v) (hown:w.ownsRow base e 1 v n xs)
  (y:Value) (m:Nat) (news:List Value) (hy:a.eval x=y) (hs:Src Tryz.prog 1 tx y m news w) (hlen:(n+m)*bytes<=140737488355328) (hm:n+m<=maxLen) (hbase:base<=w.heap.size)
  (h:∀v' w',w'.ownsRow base e 1 v' (n+m) (xs++news)->w.grownBy w' v.ownBlock->Below base w w'->wpList Tryz.prog ops Q rest (a.put o.dst v') w'):wpList Tryz.prog ops Q (o::rest) a w:=by
 obtain⟨ht,hinf,hz⟩:=hO;obtain⟨i0,hi,hz0,hz1,hz2⟩:=info_parts hinf
 exact A8n hgd s x t tx ho base e i0 z 1 bytes ht hi hz0 hz1 hz2 hz v n xs hv hown y m news hy hs hm hlen hbase (fun v' w' h1 h2 _=>h v' w' h1 h2 (B2i brz hbase hown h2))
theorem A6h{t e:TypeId}{z:Value}{bytes:Nat}(hO:C9y t e z bytes){w:World}{ops:Array Oper}{rest:List Oper}{o:Oper}{a:Act}{Q:Exit->Act->World->Prop}(hgd:Region.wanted o (yielded ops a.tmps)=true)(s x:Operand)
  (ho:o.op= .call {callee:= .builtin .append,args:= #[s,x],argTypes:= #[t,t]})
  (base:Nat) (v:Value) (n:Nat) (xs:List Value) (hv:a.eval s=v) (hown:w.ownsRow base e 1 v n xs)
  (C:Array Value) (m c:Nat) (hy:a.eval x= .slice (some ⟨w.heap.size,0,none⟩) m c) (hC:C.size=m) (hone:C.toList.all (·.oneCell')=true) (hlen:(n+m)*bytes<=140737488355328) (hm:n+m<=maxLen) (hbase:base<=w.heap.size)
  (h:∀v' w',w'.ownsRow base e 1 v' (n+m) (xs++C.toList)->(w.alloc (.cells C e)).grownBy w' v.ownBlock->Below base w w'->wpList Tryz.prog ops Q rest (a.put o.dst v') w'):wpList Tryz.prog ops Q (o::rest) a (w.alloc (.cells C e)):=
 C4r hO hgd s x t ho base v n xs hv (hown.alloc _) _ m _ hy (Src.lit (heap_alloc_last w _) hC hone hO.1) hlen hm (by simp;omega)
  (fun v' w' h1 h2 h3=>h v' w' h1 h2 ((brz.alloc hbase _).trans h3))
def D7z{α:Type}(enc:α->Value)(e:TypeId)(B:Nat)(w:World)(xs:List α)(en:Ending)(w':World):Prop:=
 ∃v n,en= .returned v/\w'.ownsRow B e 1 v n (xs.map enc)/\Below B w w'
theorem A1p{w w':World}{base:Nat}{e:TypeId}{size:Nat}{v:Value}{n:Nat}{xs:List Value}(h:w.ownsRow base e size v n xs)(hb:Below w.heap.size w w'):w'.ownsRow base e size v n xs:=
 h.kept (row:=none) ⟨hb.os,hb.tape,hb.output,hb.size,fun k hk _=>hb.block k hk⟩ (by by_cases h:v.ownBlock=none;exact .inl h;exact .inr h)
theorem B9t{t e:TypeId}{z:Value}{bytes:Nat}(hO:C9y t e z bytes){w:World}{ops:Array Oper}{o:Oper}{a:Act}{K:Act->World->Prop}{Q:Exit->Act->World->Prop}{E:Prop}(hgd:Region.wanted o (yielded ops a.tmps)=true)(s x:Operand)(tx:TypeId)
  (ho:o.op= .call {callee:= .builtin .append,args:= #[s,x],argTypes:= #[t,tx]})
  (base:Nat) (v:Value) (n:Nat) (xs:List Value) (hv:a.eval s=v) (hown:w.ownsRow base e 1 v n xs)
  (y:Value) (m:Nat) (news:List Value) (hy:a.eval x=y) (hs:Src Tryz.prog 1 tx y m news w) (hlen:(n+m)*bytes<=140737488355328) (hm:n+m<=maxLen) (hbase:base<=w.heap.size)
  (h:∀v' w',w'.ownsRow base e 1 v' (n+m) (xs++news)->w.grownBy w' v.ownBlock->Below base w w'->K (a.put o.dst v') w'):if Region.wanted o (yielded ops a.tmps)=true then Oper.wp Tryz.prog o a w K Q else E:=by
 obtain⟨ht,hinf,hz⟩:=hO;obtain⟨i0,hi,hz0,hz1,hz2⟩:=info_parts hinf
 exact C5k hgd s x t tx ho base e i0 z 1 bytes ht hi hz0 hz1 hz2 hz v n xs hv hown y m news hy hs hm hlen hbase (fun v' w' h1 h2=>h v' w' h1 h2 (B2i brz hbase hown h2))
theorem B0g{t e:TypeId}{z:Value}{bytes:Nat}(hO:C9y t e z bytes){w:World}{ops:Array Oper}{o:Oper}{a:Act}{K:Act->World->Prop}{Q:Exit->Act->World->Prop}{E:Prop}(hgd:Region.wanted o (yielded ops a.tmps)=true)(s x:Operand)
  (ho:o.op= .call {callee:= .builtin .append,args:= #[s,x],argTypes:= #[t,t]})
  (base:Nat) (v:Value) (n:Nat) (xs:List Value) (hv:a.eval s=v) (hown:w.ownsRow base e 1 v n xs)
  (C:Array Value) (m c:Nat) (hy:a.eval x= .slice (some ⟨w.heap.size,0,none⟩) m c) (hC:C.size=m) (hone:C.toList.all (·.oneCell')=true) (hlen:(n+m)*bytes<=140737488355328) (hm:n+m<=maxLen) (hbase:base<=w.heap.size)
  (h:∀v' w',w'.ownsRow base e 1 v' (n+m) (xs++C.toList)->(w.alloc (.cells C e)).grownBy w' v.ownBlock->Below base w w'->K (a.put o.dst v') w'):
  if Region.wanted o (yielded ops a.tmps)=true then Oper.wp Tryz.prog o a (w.alloc (.cells C e)) K Q else E:=
 B9t hO hgd s x t ho base v n xs hv (hown.alloc _) _ m _ hy (Src.lit (heap_alloc_last w _) hC hone hO.1) hlen hm (by simp;omega)
  (fun v' w' h1 h2 h3=>h v' w' h1 h2 ((brz.alloc hbase _).trans h3))
theorem D7x{B:Nat}{a w:World}(h:Below B a w)(n:Nat):Below B a (w.drewN n):=⟨h.os,h.tape,h.output,h.size,h.block⟩
theorem B4k{w:World}{a:Option Addr}{n:Nat}{bs:List UInt8}(h:Sl A5q w a n bs)(cap:Nat):(convert 43 9 (.slice a n cap)).run Tryz.prog w= .ok (.string ⟨bs.toArray⟩) w:=by
 by_cases hn:0<n
 ·obtain⟨b,off,rfl,hlt,hc⟩:=h.2 hn
  have h1:=run_convert_bytes_arg (P:=Tryz.prog) w 43 5 Tryz.underlying43 Tryz.underlying5 b off n cap (bs.map fun x=>(x.toNat:Int)) (by simp[h.1])
   (fun i hi=>by
    have hl:i<bs.length:=by rw[h.1];exact hi
    rw[hc i hl];simp[List.getD,hl,A5q]) 9 Tryz.underlying9
  rw[h1];congr 2;unfold strOfNums;congr 2;rw[List.map_map];exact(List.map_congr_left (fun x _=>by simp)).trans (List.map_id bs)
 have h0:n=0:=by omega
 subst h0;have hb:bs=[]:=List.eq_nil_of_length_eq_zero h.1;subst hb;rw[run_convert_bytes_string w 43 9 5 a 0 cap Tryz.underlying43 Tryz.underlying5 Tryz.underlying9]
 cases a with
 |none=>simp[Conv.bytesToString];rfl
 |some ad=>rw[run_bytesToString w ad 0 cap [] (by simp[loadCells,loadCellsFrom])];rfl
end
section
def A9q(v:Nat):List UInt8:=
 if 1<=v/\v<128 then [UInt8.ofNat v]
 else if v<2048 then [UInt8.ofNat (192+v/64),UInt8.ofNat (128+v%64)]
 else [UInt8.ofNat (224+v/4096),UInt8.ofNat (128+v/64%64),UInt8.ofNat (128+v%64)]
def D7j(x:UInt16):Value:= .int .u16 (x.toNat:Int)
theorem D0x{v:Nat}(h:1<=v)(h':v<128):(A9q v).map A5q=[.int .u8 (v:Int)]:=by
 unfold A9q;rw[if_pos ⟨h,h'⟩];simp only[List.map_cons,List.map_nil];rw[B3d (by omega) (by omega)];rfl
theorem D0p{v:Nat}(h:¬(1<=v/\v<128))(h':v<2048):(A9q v).map A5q=[.int .u8 (192+(v:Int)/64),.int .u8 (128+(v:Int)%64)]:=by
 unfold A9q;rw[if_neg h,if_pos h'];simp only[List.map_cons,List.map_nil];rw[B3d (by omega) (by omega),B3d (by omega) (by omega)];rfl
theorem C4n{v:Nat}(h':¬v<2048)(h:v<65536):(A9q v).map A5q=[.int .u8 (224+(v:Int)/4096),.int .u8 (128+(v:Int)/64%64),.int .u8 (128+(v:Int)%64)]:=by
 unfold A9q;rw[if_neg (by omega),if_neg h'];simp only[List.map_cons,List.map_nil];rw[B3d (by omega) (by omega),B3d (by omega) (by omega),B3d (by omega) (by omega)];rfl
def A6z(bs:List UInt8)(i:Nat):Nat×Bool:=
 match bs[i]? with
 |some c=>if c.toNat/64=2 then(c.toNat%64,true)else(0,false)
 |none=>(0,false)
theorem B4i(bs:List UInt8)(i:Nat):(A6z bs i).1<64:=by
 unfold A6z;split
 ·split
  ·exact Nat.mod_lt _ (by decide)
  decide
 decide
def A2z(c:Nat)(x:Nat)(one:Bool)(y:Nat)(both:Bool):Nat×Nat:=
 if c≠0/\c<128 then(c,1)
 else if c/32=6/\one=true then(if c%32*64+x=0\/128<=c%32*64+x then(c%32*64+x,2)else(0,0))
 else if c/16=14/\one=true/\both=true then(if 2048<=c%16*4096+x*64+y then(c%16*4096+x*64+y,3)else(0,0))
 else(0,0)
def A7r(bs:List UInt8):Nat×Nat:=A2z ((bs[0]?).getD 0).toNat (A6z bs 1).1 (A6z bs 1).2 (A6z bs 2).1 (A6z bs 2).2
theorem B4s{x y:Nat}(i:Nat)(hx:x%2^i=0)(hy:y<2^i)(h:x+y<65536):bits .or .u16 (x:Int) (y:Int)=(x:Int)+y:=by
 rw[u16_or_nat x y (by omega) (by omega),nat_join i x y hx hy]
 push_cast;rfl
def A6f:Nat->List UInt8->Option (List UInt16)
 |_,[]=>some []
 |0,_=>none
 |f+1,c::t=>if(A7r (c::t)).2=0 then none else(A6f f ((c::t).drop (A7r (c::t)).2)).map (UInt16.ofNat (A7r (c::t)).1::·)
def A3m(bs:List UInt8):Option (List UInt16):=A6f bs.length bs
theorem B0j{bs:List UInt8}{i:Nat}(h:(A6z bs i).2=true):i<bs.length:=by
 unfold A6z at h;split at h
 ·rename_i c hc
  exact(gsz hc).1
 simp at h
theorem D5r{bs:List UInt8}(h:bs≠[]):(A7r bs).2<=bs.length/\(A7r bs).1<65536:=by
 have hl:0<bs.length:=List.length_pos_iff.2 h;have hx:=B4i bs 1;have hy:=B4i bs 2;have hc:=(bs[0]?.getD 0).toNat_lt;unfold A7r A2z;split
 ·exact⟨hl,by simp only;omega⟩
 split
 ·rename_i h1
  have:=B0j h1.2;split
  ·exact⟨this,by simp only;omega⟩
  exact⟨by simp,by simp⟩
 split
 ·rename_i h1
  have:=B0j h1.2.2;split
  ·exact⟨this,by simp only;omega⟩
  exact⟨by simp,by simp⟩
 exact⟨by simp,by simp⟩
theorem B4a{f:Nat}{bs:List UInt8}(hf:bs.length<=f+1)(h:bs≠[]):A6f (f+1) bs=if(A7r bs).2=0 then none else(A6f f (bs.drop (A7r bs).2)).map (UInt16.ofNat (A7r bs).1::·):=by
 cases bs with
 |nil=>exact absurd rfl h
 |cons c t=>rw[A6f]
def B5g(c:Nat)(l:Nat)(x y:Nat):Int×Nat:=
 if 192<=c/\c<224/\1<l then(((c:Int) -192)*64+x-128,2)
 else if 224<=c/\c<240/\2<l then(((c:Int) -224)*4096+((x:Int) -128)*64+y-128,3)
 else(c,1)
def B7b(bs:List UInt8):Int×Nat:=B5g (bs[0]?.getD 0).toNat bs.length (bs[1]?.getD 0).toNat (bs[2]?.getD 0).toNat
theorem C9j{n:Nat}{c:UInt8}(h:n<256):UInt8.ofNat n=c↔n=c.toNat:=by
 constructor
 ·intro e;rw[<-e,UInt8.toNat_ofNat_of_lt' h]
 intro e;rw[e];simp
theorem C5i{v:Nat}(hv:v<65536)(c:UInt8):A9q v=[c]↔1<=v/\v<128/\v=c.toNat:=by
 unfold A9q;split
 ·rename_i h;rw[List.cons.injEq,C9j (by omega)];simp;omega
 rename_i h;split<;>simp<;>omega
theorem C5r{v:Nat}(hv:v<65536)(c x:UInt8):A9q v=[c,x]↔¬(1<=v/\v<128)/\v<2048/\192+v/64=c.toNat/\128+v%64=x.toNat:=by
 unfold A9q;split
 ·rename_i h;simp;omega
 rename_i h
 split
 ·rename_i h2;rw[List.cons.injEq,List.cons.injEq,C9j (by omega),C9j (by omega)];simp;omega
 rename_i h2;simp;omega
theorem C6i{v:Nat}(hv:v<65536)(c x y:UInt8):A9q v=[c,x,y]↔2048<=v/\224+v/4096=c.toNat/\128+v/64%64=x.toNat/\128+v%64=y.toNat:=by
 unfold A9q;split
 ·rename_i h;simp;omega
 rename_i h
 split
 ·rename_i h2;simp;omega
 rename_i h2;rw[List.cons.injEq,List.cons.injEq,List.cons.injEq,C9j (by omega),C9j (by omega),C9j (by omega)];simp;omega
theorem B9s(bs:List UInt8)(i:Nat)(c:UInt8)(h:bs[i]? =some c):A6z bs i=if c.toNat/64=2 then(c.toNat%64,true)else(0,false):=by
 unfold A6z;rw[h]
theorem D6j(bs:List UInt8)(h:bs≠[]):
  (0<=(B7b bs).1/\(B7b bs).1<=65535/\A9q (B7b bs).1.toNat=bs.take (B7b bs).2->A7r bs=((B7b bs).1.toNat,(B7b bs).2))/\
  (¬(0<=(B7b bs).1/\(B7b bs).1<=65535/\A9q (B7b bs).1.toNat=bs.take (B7b bs).2)->(A7r bs).2=0):=by
 rcases bs with _|⟨c,t⟩
 ·exact absurd rfl h
 have hc:=c.toNat_lt;by_cases c2:192<=c.toNat/\c.toNat<224/\1<(c::t).length
 ·rcases t with _|⟨x,t⟩
  ·simp at c2
  have hx:=x.toNat_lt
  have e1:B7b (c::x::t)=(((c.toNat:Int) -192)*64+x.toNat-128,2):=by
   show B5g c.toNat (c::x::t).length x.toNat _=_;unfold B5g;rw[if_pos c2]
  have e2:A7r (c::x::t)=if x.toNat/64=2 then(if c.toNat%32*64+x.toNat%64=0\/128<=c.toNat%32*64+x.toNat%64 then(c.toNat%32*64+x.toNat%64,2)else(0,0))else(0,0):=by
   unfold A7r;rw[B9s (c::x::t) 1 x rfl];show A2z c.toNat _ _ _ _=_;by_cases h1:x.toNat/64=2
   ·rw[if_pos h1,if_pos h1];unfold A2z;rw[if_neg (by omega),if_pos ⟨by omega,rfl⟩]
   rw[if_neg h1,if_neg h1];unfold A2z;rw[if_neg (by omega),if_neg (by simp),if_neg (by simp)]
  rw[e1,e2];simp only[List.take_succ_cons,List.take_zero];refine⟨fun⟨p1,p2,p3⟩=> ?_,fun hP=> ?_⟩
  ·have q:=(C5r (by omega) c x).1 p3;rw[if_pos (by omega),if_pos (by omega)];simp;omega
  by_cases h1:x.toNat/64=2
  ·rw[if_pos h1];by_cases h2:c.toNat%32*64+x.toNat%64=0\/128<=c.toNat%32*64+x.toNat%64
   ·exact(hP ⟨by omega,by omega,(C5r (by omega) c x).2 (by omega)⟩).elim
   rw[if_neg h2]
  rw[if_neg h1]
 by_cases c3:224<=c.toNat/\c.toNat<240/\2<(c::t).length
 ·rcases t with _|⟨x,_|⟨y,t⟩⟩
  ·simp at c3
  ·simp at c3
  have hx:=x.toNat_lt;have hy:=y.toNat_lt
  have e1:B7b (c::x::y::t)=(((c.toNat:Int) -224)*4096+((x.toNat:Int) -128)*64+y.toNat-128,3):=by
   show B5g c.toNat (c::x::y::t).length x.toNat y.toNat=_;unfold B5g;rw[if_neg c2,if_pos c3]
  have e2:A7r (c::x::y::t)=if x.toNat/64=2/\y.toNat/64=2 then(if 2048<=c.toNat%16*4096+x.toNat%64*64+y.toNat%64 then(c.toNat%16*4096+x.toNat%64*64+y.toNat%64,3)else(0,0))else(0,0):=by
   unfold A7r;rw[B9s (c::x::y::t) 1 x rfl,B9s (c::x::y::t) 2 y rfl];show A2z c.toNat _ _ _ _=_;by_cases h1:x.toNat/64=2
   ·by_cases h2:y.toNat/64=2
    ·rw[if_pos h1,if_pos h2,if_pos ⟨h1,h2⟩];unfold A2z;rw[if_neg (by omega),if_neg (by omega),if_pos ⟨by omega,rfl,rfl⟩]
    rw[if_neg h2,if_neg (by omega:¬(x.toNat/64=2/\y.toNat/64=2))];unfold A2z;rw[if_neg (by omega),if_neg (by omega),if_neg (by simp)]
   rw[if_neg h1,if_neg (by omega:¬(x.toNat/64=2/\y.toNat/64=2))];unfold A2z;rw[if_neg (by omega),if_neg (by omega),if_neg (by simp)]
  rw[e1,e2];simp only[List.take_succ_cons,List.take_zero];refine⟨fun⟨p1,p2,p3⟩=> ?_,fun hP=> ?_⟩
  ·have q:=(C6i (by omega) c x y).1 p3;rw[if_pos (by omega),if_pos (by omega)];simp;omega
  by_cases h1:x.toNat/64=2/\y.toNat/64=2
  ·rw[if_pos h1];by_cases h2:2048<=c.toNat%16*4096+x.toNat%64*64+y.toNat%64
   ·exact(hP ⟨by omega,by omega,(C6i (by omega) c x y).2 (by omega)⟩).elim
   rw[if_neg h2]
  rw[if_neg h1]
 have e1:B7b (c::t)=((c.toNat:Int),1):=by
  show B5g c.toNat (c::t).length _ _=_;unfold B5g;rw[if_neg c2,if_neg c3]
 rw[e1];simp only[List.take_succ_cons,List.take_zero]
 have e2:A7r (c::t)=if c.toNat≠0/\c.toNat<128 then(c.toNat,1)else(0,0):=by
  unfold A7r;show A2z c.toNat _ _ _ _=_;by_cases h1:c.toNat≠0/\c.toNat<128
  ·unfold A2z;rw[if_pos h1,if_pos h1]
  rw[if_neg h1];unfold A2z;rw[if_neg h1,if_neg,if_neg]
  ·rintro⟨h2,h3,h4⟩;have:=B0j h4;exact c3 ⟨by omega,by omega,this⟩
  rintro⟨h2,h3⟩;have:=B0j h3;exact c2 ⟨by omega,by omega,this⟩
 rw[e2];refine⟨fun⟨p1,p2,p3⟩=> ?_,fun hP=> ?_⟩
 ·have q:=(C5i (by omega) c).1 p3;rw[if_pos (by omega)];simp
 by_cases h1:c.toNat≠0/\c.toNat<128
 ·exact(hP ⟨by omega,by omega,(C5i (by omega) c).2 (by omega)⟩).elim
 rw[if_neg h1]
end
section
open Go.ChangeShapes Go.WideShapes Go.ChangeAt Go.RowKit
theorem B5u{t e:TypeId}{z:Value}{bytes:Nat}(hO:C9y t e z bytes){α:Type}{enc:α->Value}(base:Nat){w:World}(tx ty:TypeId){a:Option Addr}{n cap:Nat}{xs:List α}(hsl:Sl enc w a n xs)
  (y:Value) (m:Nat) (news:List Value) (hs:Src Tryz.prog 1 tx y m news w) (hfull:cap<n+m) (hnc:n<=cap) (hlen:(n+m)*bytes<=140737488355328) (hm:n+m<=maxLen) (hbase:base<=w.heap.size):
  ∃v' w',(Builtin.append_ #[t,tx] ty #[.slice a n cap,y]).run Tryz.prog w= .ok v' w'/\w'.ownsRow base e 1 v' (n+m) (xs.map enc++news)/\Below base w w':=by
 obtain⟨ht,hinf,hz⟩:=hO;obtain⟨i,hi,hz0,hz1,hz2⟩:=info_parts hinf;have hl:=hs.newsLen
 have hfc:(Builtin.firstCells i.size n (.slice a n cap)).run Tryz.prog w.drew= .ok (xs.map enc).toArray w.drew:=by
  rw[hz1];by_cases hn:0<n
  ·obtain⟨b,off,rfl,_,hc⟩:=hsl.2 hn;refine run_firstCells_some w.drew 1 n _ n cap _ (by simp[hsl.1]) (fun j u hu=> ?_);rw[List.getElem?_map]at hu
   have hj:j<xs.length:=by
    rcases Nat.lt_or_ge j xs.length with h|h
    ·exact h
    rw[List.getElem?_eq_none h]at hu;simp at hu
   rw[List.getElem?_eq_getElem hj]at hu;simp only[Option.map_some,Option.some.injEq]at hu;subst hu;have hadd:(⟨b,off,none⟩:Addr).add j=⟨b,off+j,none⟩:=by unfold Addr.add;split<;>simp_all
   rw[hadd];exact hc j hj
  have h0:n=0:=by omega
  subst h0;have hx:xs=[]:=List.eq_nil_of_length_eq_zero hsl.1;subst hx
  cases a with
  |none=>simp[Builtin.firstCells]
  |some ad=>exact run_firstCells_some w.drew 1 0 ad 0 cap [] rfl (fun j u hu=>by simp at hu)
 have hsmall:n+m<=9223372036854775807:=by simp only[maxLen]at hm;omega
 subst hz2;have hr:=run_append_grow_src (P:=Tryz.prog) w t tx ty e i z ht hi hz0 a n cap (xs.map enc) hfc y m news (by rw[hz1];exact hs) hfull (by omega) (growslice_fits (by omega) hlen)
 refine⟨_,_,hr,?_,?_⟩
 ·have hlen2:(xs.map enc++news).length=(n+m)*1:=by simp[hsl.1,hl]
  have hge:=grownCap_ge w (n+m) cap e;have hcm:grownCap w (n+m) cap e<=maxLen:=grownCap_le_maxLen w (n+m) cap e hm
  refine⟨hlen2,.inr ⟨w.heap.size,_,_,rfl,hbase,heap_alloc_new w.drew _,hge,hcm,?_,?_⟩⟩
  ·simp only[Array.size_append,List.size_toArray,size_zeroCells,hz,hlen2];omega
  simp only[Array.toList_append];rw[<-hlen2];exact List.take_left
 exact⟨rfl,rfl,rfl,by simp,fun k hk=>Below.heap_alloc w.drew _ k (by show k<w.heap.size;omega)⟩
theorem B5e{t e:TypeId}{z:Value}{bytes:Nat}(hO:C9y t e z bytes){α:Type}{enc:α->Value}{w:World}{ops:Array Oper}{rest:List Oper}{o:Oper}{a:Act}{Q:Exit->Act->World->Prop}(hgd:Region.wanted o (yielded ops a.tmps)=true)(s x:Operand)(tx:TypeId)
  (ho:o.op= .call {callee:= .builtin .append,args:= #[s,x],argTypes:= #[t,tx]})
  (base:Nat) (ad:Option Addr) (n cap:Nat) (xs:List α) (hv:a.eval s= .slice ad n cap) (hsl:Sl enc w ad n xs)
  (y:Value) (m:Nat) (news:List Value) (hy:a.eval x=y) (hs:Src Tryz.prog 1 tx y m news w) (hfull:cap<n+m) (hnc:n<=cap) (hlen:(n+m)*bytes<=140737488355328) (hm:n+m<=maxLen) (hbase:base<=w.heap.size)
  (h:∀v' w',w'.ownsRow base e 1 v' (n+m) (xs.map enc++news)->Below base w w'->wpList Tryz.prog ops Q rest (a.put o.dst v') w'):wpList Tryz.prog ops Q (o::rest) a w:=by
 obtain⟨v',w',hr,h2,h3⟩:=B5u hO base tx o.type hsl y m news hs hfull hnc hlen hm hbase;refine wpList_step fun K hK=> ?_
 rw[if_pos hgd];unfold Oper.wp execOp;simp only[ho,resolve,invoke,builtin,Sem.run_bind,Sem.run_pure,Result.andThen_ok,List.map_toArray,List.map_cons,List.map_nil,hv,hy,hr];exact hK _ _ (h v' w' h2 h3)
theorem A7q{t e:TypeId}{z:Value}{bytes:Nat}(hO:C9y t e z bytes){α:Type}{enc:α->Value}{w:World}{ops:Array Oper}{rest:List Oper}{o:Oper}{a:Act}{Q:Exit->Act->World->Prop}(hgd:Region.wanted o (yielded ops a.tmps)=true)(s x:Operand)
  (ho:o.op= .call {callee:= .builtin .append,args:= #[s,x],argTypes:= #[t,t]})
  (base:Nat) (ad:Option Addr) (n cap:Nat) (xs:List α) (hv:a.eval s= .slice ad n cap) (hsl:Sl enc w ad n xs)
  (C:Array Value) (m c:Nat) (hy:a.eval x= .slice (some ⟨w.heap.size,0,none⟩) m c) (hC:C.size=m) (hone:C.toList.all (·.oneCell')=true) (hfull:cap<n+m) (hnc:n<=cap) (hlen:(n+m)*bytes<=140737488355328) (hm:n+m<=maxLen) (hbase:base<=w.heap.size)
  (h:∀v' w',w'.ownsRow base e 1 v' (n+m) (xs.map enc++C.toList)->Below base w w'->wpList Tryz.prog ops Q rest (a.put o.dst v') w'):wpList Tryz.prog ops Q (o::rest) a (w.alloc (.cells C e)):=
 B5e hO hgd s x t ho base ad n cap xs hv (hsl.below (brz.alloc nlz _)) _ m _ hy (Src.lit (heap_alloc_last w _) hC hone hO.1) hfull hnc hlen hm (by simp;omega)
  (fun v' w' h1 h3=>h v' w' h1 ((brz.alloc hbase _).trans h3))
theorem A2r{w:World}{B B':Nat}{e:TypeId}{size:Nat}{v:Value}{n:Nat}{xs:List Value}(h:w.ownsRow B e size v n xs)(hB:B'<=B):w.ownsRow B' e size v n xs:=by
 obtain⟨h1,h2⟩:=h;refine⟨h1,?_⟩
 rcases h2 with h2|⟨g,cap,cur,hv,hb,hg,h3⟩
 ·exact .inl h2
 exact .inr ⟨g,cap,cur,hv,Nat.le_trans hB hb,hg,h3⟩
theorem A0d{P:Program}{fn:Func}{p u:Tmp}{ty:TypeId}(h:fn.results= #[.cell p ty,.tmp u])(tmps:Array Value)(w:World)(g:Nat)(t:TypeId)(cs:Array Value)(fr:Nat×Nat)(d:TypeDesc)
  (hp:tmps.getD p undef= .pointer (some ⟨g,0,none⟩)) (hg:w.heap[g]? =some (.cells cs t fr))
  (hu:P.underlying ty=some d) (hd:(match d with| .struct _| .array _ _=>true|_=>false)=true) (hi:(P.info? ty).map (·.size)=some cs.size):
  (results fn tmps).run P w= .ok (.tuple #[.agg cs,tmps.getD u undef]) w:=by
 rw[results_cell_tmp h,hp];simp[asAddr,run_loadVar_row w g t ty cs fr d hg hu hd hi,Result.andThen]
end
section
def A6c(v n:Nat):List UInt8:=(List.range n).map fun i=>UInt8.ofNat (v/256^(n-1-i)%256)
theorem A1t(v n:Nat):(A6c v n).length=n:=by simp[A6c]
theorem C0s(v n k:Nat)(h:k<n):(A6c v n).take (k+1)=(A6c v n).take k++[UInt8.ofNat (v/256^(n-1-k)%256)]:=by
 rw[List.take_succ_eq_append_getElem (by rw[A1t];exact h)];simp[A6c]
theorem C1d(x:Nat):A5q (UInt8.ofNat (x%256))= .int .u8 ((x:Int)%256):=by
 unfold A5q;rw[UInt8.toNat_ofNat_of_lt' (by show x%256<256;omega)];rw[Int.natCast_emod];rfl
def B6r(bs:List UInt8):Nat:=bs.foldl (fun v c=>v*256+c.toNat) 0
theorem C2e(bs:List UInt8)(k:Nat)(h:k<bs.length):B6r (bs.take (k+1))=B6r (bs.take k)*256+bs[k].toNat:=D0c _ _ bs k h
theorem B2d(bs:List UInt8)(c:UInt8):B6r (bs++[c])=B6r bs*256+c.toNat:=by simp[B6r]
theorem B8y(bs:List UInt8):B6r bs<256^bs.length:=by
 generalize hn:bs.length=n
 induction n generalizing bs with
 |zero=>have:bs=[]:=List.length_eq_zero_iff.1 hn;subst this;simp[B6r]
 |succ n ih=>
  have h1:bs≠[]:=by intro h;rw[h]at hn;simp at hn
  obtain⟨as',c,rfl⟩:∃as' c,bs=as'++[c]:=⟨bs.dropLast,bs.getLast h1,(List.dropLast_concat_getLast h1).symm⟩;have h2:=ih as' (by simpa using hn);rw[B2d,Nat.pow_succ];have:=c.toNat_lt
  omega
theorem B3z(bs:List UInt8)(k:Nat)(h:k<=7):B6r (bs.take k)<72057594037927936:=by
 have h1:=B8y (bs.take k);have h2:256^(bs.take k).length<=256^7:=Nat.pow_le_pow_right (by decide) (by simp;omega);omega
theorem D2u{x y:Nat}(hx:x%256=0)(hy:y<256)(h:x+y<18446744073709551616):bits .or .u64 (x:Int) (y:Int)=(x:Int)+y:=by
 rw[u64_or_nat x y (by omega) (by omega),nat_join 8 x y hx hy]
 push_cast;rfl
def A5y(bs:List UInt8)(at_ n:Int):Int×Int:=
 if n<1\/8<n then(0,1)
 else if at_<0\/(bs.length:Int)<at_\/(bs.length:Int) -at_<n then(0,6)
 else(B6r ((bs.drop at_.toNat).take n.toNat),0)
theorem C5v(v e:Nat):((v:Int)/2^(8*e))=((v/256^e:Nat):Int):=by
 rw[Int.natCast_ediv,Int.natCast_pow,Int.pow_mul];rfl
theorem C7r(v n:Nat)(h:0<n):(A6c v n).take (0+1)=[UInt8.ofNat (v/256^(n-1)%256)]:=by
 rw[C0s v n 0 h];rfl
end
section
open Go.ChangeShapes Go.WideShapes Go.ChangeAt Go.RowKit
theorem E3y:C9y 215 231 (.int .u16 0) 2:=⟨Tryz.underlying215,by kernel_rfl,rfl⟩
theorem C3q(w:World)(u:Nat)(h1:u<65536):
  Calls Tryz.prog 175 #[.int .u16 u] w (D7z A5q 5 w.heap.size w (A9q u)):=by
 by_cases c1:1<=u/\u<128
 ·have hU:=D0x c1.1 c1.2;have HU:=hzz hU;obtain⟨c1,c2⟩:=c1;clear hU;go_enter Tryz.func175,Tryz.ntmps175
  go_wp2
  go_ret;exact⟨_,1,rfl,by rw[HU.out];exact World.ownsRow_lit w #[.int .u8 (u:Int)] 1 nlz (by decide) rfl,brz.alloc nlz _⟩
 by_cases c2:u<2048
 ·have hU:=D0p c1 c2;have HU:=hzz hU;clear hU;by_cases c0:u=0
  ·subst c0;go_enter Tryz.func175,Tryz.ntmps175
   go_wp2
   go_ret;exact⟨_,2,rfl,by rw[HU.out];exact World.ownsRow_lit w #[.int .u8 192,.int .u8 128] 2 nlz (by decide) rfl,brz.alloc nlz _⟩
  have c4:¬u<=127:=by omega
  go_enter Tryz.func175,Tryz.ntmps175
  go_wp2
  go_ret;exact⟨_,2,rfl,by rw[HU.out];exact World.ownsRow_lit w #[.int .u8 (192+(u:Int)/64),.int .u8 (128+(u:Int)%64)] 2 nlz (by decide) rfl,brz.alloc nlz _⟩
 have hU:=C4n c2 h1;have HU:=hzz hU;have c4:¬u<=127:=by omega
 clear hU;go_enter Tryz.func175,Tryz.ntmps175
 go_wp2
 go_ret;exact⟨_,3,rfl,by rw[HU.out];exact World.ownsRow_lit w #[.int .u8 (224+(u:Int)/4096),.int .u8 (128+(u:Int)/64%64),.int .u8 (128+(u:Int)%64)] 3 nlz (by decide) rfl,brz.alloc nlz _⟩
theorem C6m(w:World)(a:Option Addr)(n cap:Nat)(bs:List UInt8)(i:Nat)(hs:Sl A5q w a n bs)(hn:n<=65536)(hi:i<=65536):
  Calls Tryz.prog 186 #[.slice a n cap,.int .i64 i] w fun e w'=>e= .returned (.tuple #[.int .u16 ((A6z bs i).1:Nat),.bool (A6z bs i).2])/\w=w':=by
 have HS:=hzz hs;clear hs;by_cases hin:i<n
 ·obtain⟨b,off,rfl,hbl,hc⟩:=HS.out.2 (by omega);have hil:i<bs.length:=by rw[HS.out.1];exact hin
  have hck:w.cell? ⟨b,off+i,none⟩=some (.int .u8 (bs[i].toNat:Int)):=hc i hil
  have hT:A6z bs i=if bs[i].toNat/64=2 then(bs[i].toNat%64,true)else(0,false):=by
   unfold A6z;rw[List.getElem?_eq_getElem hil]
  obtain⟨c,hcq⟩:=exz (bs[i].toNat);have hc2:c<256:=by have:=bs[i].toNat_lt;omega
  rw[<-hcq]at hck hT;have HT:=hzz hT;clear hT hcq hc hbl;by_cases h2:c/64=2
  ·have HH:=hzz h2;have h3:((c:Int)/64 !=2)=false:=by simp;omega
   clear h2;go_enter Tryz.func186,Tryz.ntmps186
   go_wp2
   go_ret2;exact⟨by rw[HT.out,if_pos HH.out];rfl,rfl⟩
  have HH:=hzz h2;have h3:((c:Int)/64 !=2)=true:=by simp;omega
  clear h2;go_enter Tryz.func186,Tryz.ntmps186
  go_wp2
  go_ret2;exact⟨by rw[HT.out,if_neg HH.out];rfl,rfl⟩
 have hT:A6z bs i=(0,false):=by
  unfold A6z;rw[List.getElem?_eq_none (by rw[HS.out.1];omega)]
 have HT:=hzz hT;clear hT;go_enter Tryz.func186,Tryz.ntmps186
 go_wp2
 go_ret2;exact⟨by rw[HT.out];rfl,rfl⟩
def D2q(w:World)(p:Nat×Nat)(e:Ending)(w':World):Prop:=e= .returned (.tuple #[.int .u16 (p.1:Nat),.int .i64 (p.2:Nat)])/\w=w'
theorem D7h(w:World)(a:Option Addr)(n cap:Nat)(bs:List UInt8)(hs:Sl A5q w a n bs)(hn:n<=65536)(hp:0<n):
  Calls Tryz.prog 183 #[.slice a n cap] w (D2q w (A7r bs)):=by
 have HS:=hzz hs;clear hs;obtain⟨b,off,rfl,hbl,hc⟩:=HS.out.2 hp;have hil:0<bs.length:=by rw[HS.out.1];exact hp
 have hck:w.cell? ⟨b,off,none⟩=some (.int .u8 (bs[0].toNat:Int)):=hc 0 hil;have hx:=B4i bs 1;have hy:=B4i bs 2
 have hT:A7r bs=A2z bs[0].toNat (A6z bs 1).1 (A6z bs 1).2 (A6z bs 2).1 (A6z bs 2).2:=by
  unfold A7r;rw[List.getElem?_eq_getElem hil];rfl
 have t1:=fun w' hh=>C6m w' (some ⟨b,off,none⟩) n cap bs 1 hh hn (by decide)
 have t2:=fun w' hh=>C6m w' (some ⟨b,off,none⟩) n cap bs 2 hh hn (by decide)
 obtain⟨c,hcq⟩:=exz (bs[0].toNat);have hc2:c<256:=by have:=bs[0].toNat_lt;omega
 rw[<-hcq]at hck hT;obtain⟨x,hxq⟩:∃x,x=(A6z bs 1).1:=⟨_,rfl⟩;obtain⟨one,h1q⟩:∃x,x=(A6z bs 1).2:=⟨_,rfl⟩;obtain⟨y,hyq⟩:∃x,x=(A6z bs 2).1:=⟨_,rfl⟩
 obtain⟨both,h2q⟩:∃x,x=(A6z bs 2).2:=⟨_,rfl⟩;rw[<-hxq]at hx hT t1;rw[<-h1q]at hT t1;rw[<-hyq]at hy hT t2;rw[<-h2q]at hT t2;have T1:=hzz t1;have T2:=hzz t2;rw[hT]
 clear hxq h1q hyq h2q hcq hc hbl hT t1 t2;have o1:=B4s (x:=c%32*64) (y:=x) 6 (by omega) (by omega) (by omega)
 have o2:=B4s (x:=c%16*4096) (y:=x*64) 12 (by omega) (by omega) (by omega);have o3:=B4s (x:=c%16*4096+x*64) (y:=y) 6 (by omega) (by omega) (by omega)
 push_cast at o1 o2 o3
 have a1:=u8_and15 (x:=(c:Int)) (by omega) (by omega);go_enter Tryz.func183,Tryz.ntmps183
 go_wp2_with fail
 refine(T1.out _ HS.out).mono ?_;rintro e w1 ⟨rfl,rfl⟩
 go_wp2_with fail
 refine(T2.out _ HS.out).mono ?_;rintro e w1 ⟨rfl,rfl⟩;clear T1 T2;by_cases c1:c≠0/\c<128
 ·have HR:=hzz (show A2z c x one y both=(c,1) by unfold A2z;rw[if_pos c1]);obtain⟨c1,c2⟩:=c1;have c3:((c:Int) !=0)=true:=by simp;omega
  clear c1
  go_wp2
  go_ret2;exact⟨by rw[HR.out];rfl,rfl⟩
 have HN:=hzz c1;by_cases c0:c=0
 ·subst c0;have HR:=hzz (show A2z 0 x one y both=(0,0) by unfold A2z;simp);clear c1
  go_wp2
  go_ret2;exact⟨by rw[HR.out];rfl,rfl⟩
 have c2:128<=c:=by omega
 have c3:((c:Int) !=0)=true:=by simp;omega
 clear c1 c0;by_cases c6:c/32=6
 ·have h6:((c:Int)/32==6)=true:=by simp;omega
  have h14:((c:Int)/16==14)=false:=by simp;omega
  have H6:=hzz c6;have H14:=hzz (show ¬c/16=14 by omega);clear c6
  cases one
  ·have HR:=hzz (show A2z c x false y both=(0,0) by unfold A2z;rw[if_neg HN.out,if_neg (by simp),if_neg (by simp)])
   go_wp2
   go_ret2;exact⟨by rw[HR.out];rfl,rfl⟩
  by_cases u0:c%32*64+x=0
  ·have HR:=hzz (show A2z c x true y both=(c%32*64+x,2) by unfold A2z;rw[if_neg HN.out,if_pos ⟨H6.out,rfl⟩,if_pos (.inl u0)])
   have u1:(((c:Int)%32*64+x==0))=true:=by simp;omega
   clear u0
   go_wp2
   go_ret2;exact⟨by rw[HR.out];rfl,rfl⟩
  have u1:(((c:Int)%32*64+x==0))=false:=by simp;omega
  have HU:=hzz u0;clear u0;by_cases u2:128<=c%32*64+x
  ·have HR:=hzz (show A2z c x true y both=(c%32*64+x,2) by unfold A2z;rw[if_neg HN.out,if_pos ⟨H6.out,rfl⟩,if_pos (.inr u2)])
   go_wp2
   go_ret2;exact⟨by rw[HR.out];rfl,rfl⟩
  have HR:=hzz (show A2z c x true y both=(0,0) by unfold A2z;rw[if_neg HN.out,if_pos ⟨H6.out,rfl⟩,if_neg (by have:=HU.out;omega)])
  go_wp2
  go_ret2;exact⟨by rw[HR.out];rfl,rfl⟩
 have h6:((c:Int)/32==6)=false:=by simp;omega
 have H6:=hzz c6;clear c6;by_cases c14:c/16=14
 ·have h14:((c:Int)/16==14)=true:=by simp;omega
  have H14:=hzz c14;clear c14
  cases one
  ·have HR:=hzz (show A2z c x false y both=(0,0) by unfold A2z;rw[if_neg HN.out,if_neg (by simp),if_neg (by simp)])
   go_wp2
   go_ret2;exact⟨by rw[HR.out];rfl,rfl⟩
  cases both
  ·have HR:=hzz (show A2z c x true y false=(0,0) by unfold A2z;rw[if_neg HN.out,if_neg (by simp[H6.out]),if_neg (by simp)])
   go_wp2
   go_ret2;exact⟨by rw[HR.out];rfl,rfl⟩
  by_cases u2:2048<=c%16*4096+x*64+y
  ·have HR:=hzz (show A2z c x true y true=(c%16*4096+x*64+y,3) by unfold A2z;rw[if_neg HN.out,if_neg (by simp[H6.out]),if_pos ⟨H14.out,rfl,rfl⟩,if_pos u2])
   go_wp2
   go_ret2;exact⟨by rw[HR.out];rfl,rfl⟩
  have HR:=hzz (show A2z c x true y true=(0,0) by unfold A2z;rw[if_neg HN.out,if_neg (by simp[H6.out]),if_pos ⟨H14.out,rfl,rfl⟩,if_neg u2])
  go_wp2
  go_ret2;exact⟨by rw[HR.out];rfl,rfl⟩
 have h14:((c:Int)/16==14)=false:=by simp;omega
 have HR:=hzz (show A2z c x one y both=(0,0) by unfold A2z;rw[if_neg HN.out,if_neg (by simp[H6.out]),if_neg (by simp[c14])]);clear c14
 go_wp2
 go_ret2;exact⟨by rw[HR.out];rfl,rfl⟩
theorem E3q:C9y 43 5 (.int .u8 0) 1:=⟨Tryz.underlying43,by kernel_rfl,rfl⟩
def A5r(n:Int):Prop:= -9223372036854775808<=n/\n<=9223372036854775807
theorem A3i(w:World)(n:Int):Calls Tryz.prog 174 #[.int .i64 n] w fun e w'=>e= .returned (.bool (decide (1<=n/\n<=8)))/\w=w':=by
 by_cases h1:1<=n
 ·by_cases h2:n<=8
  ·rw[decide_eq_true ⟨h1,h2⟩];go_enter Tryz.func174,Tryz.ntmps174
   go_wp2
   go_ret;exact⟨rfl,rfl⟩
  rw[decide_eq_false (by omega)];go_enter Tryz.func174,Tryz.ntmps174
  go_wp2
  go_ret;exact⟨rfl,rfl⟩
 rw[decide_eq_false (by omega)];go_enter Tryz.func174,Tryz.ntmps174
 go_wp2
 go_ret;exact⟨rfl,rfl⟩
theorem A8u(w:World)(a:Option Addr)(len cap:Nat)(bs:List UInt8)(i n:Int)(hs:Sl A5q w a len bs)(hl:len<=1048576)(hcap:len<=cap)(hi:A5r i)(hn:A5r n):
  Calls Tryz.prog 147 #[.slice a len cap,.int .i64 i,.int .i64 n] w fun e w'=>e= .returned (.tuple #[.int .u64 (A5y bs i n).1,.int .i64 (A5y bs i n).2])/\w=w':=by
 have hbl:=hs.1;have HS:=hzz hs;obtain⟨i1,i2⟩:=hi;obtain⟨n1,n2⟩:=hn;clear hs;by_cases c1:n<1\/8<n
 ·have hR:A5y bs i n=(0,1):=by unfold A5y;rw[if_pos c1]
  rw[hR];have hd:decide (1<=n/\n<=8)=false:=decide_eq_false (by omega);clear hR;go_enter Tryz.func147,Tryz.ntmps147
  go_wp2_with fail
  refine(A3i _ n).mono ?_;rw[hd];rintro e w' ⟨rfl,rfl⟩
  go_wp2
  go_ret2;exact⟨rfl,rfl⟩
 have hd:decide (1<=n/\n<=8)=true:=decide_eq_true (by omega);by_cases c2:i<0\/(len:Int)<i\/(len:Int) -i<n
 ·have hR:A5y bs i n=(0,6):=by unfold A5y;rw[if_neg c1,hbl,if_pos c2]
  rw[hR];clear hR;by_cases d1:i<0
  ·have e1:=decide_eq_true d1;go_enter Tryz.func147,Tryz.ntmps147
   go_wp2_with fail
   refine(A3i _ n).mono ?_;rw[hd];rintro e w' ⟨rfl,rfl⟩
   go_wp2
   go_ret2;exact⟨rfl,rfl⟩
  have e1:=decide_eq_false d1;by_cases d2:(len:Int)<i
  ·have e2:=decide_eq_true d2;go_enter Tryz.func147,Tryz.ntmps147
   go_wp2_with fail
   refine(A3i _ n).mono ?_;rw[hd];rintro e w' ⟨rfl,rfl⟩
   go_wp2
   go_ret2;exact⟨rfl,rfl⟩
  have e2:=decide_eq_false d2;have e3:=decide_eq_true (show(len:Int) -i<n by omega);go_enter Tryz.func147,Tryz.ntmps147
  go_wp2_with fail
  refine(A3i _ n).mono ?_;rw[hd];rintro e w' ⟨rfl,rfl⟩
  go_wp2
  go_ret2;exact⟨rfl,rfl⟩
 have hR:A5y bs i n=(((B6r ((bs.drop i.toNat).take n.toNat):Nat):Int),(0:Int)):=by unfold A5y;rw[if_neg c1,hbl,if_neg c2]
 rw[hR];clear hR;obtain⟨j,rfl⟩:∃j:Nat,i=j:=⟨i.toNat,by omega⟩;obtain⟨m,rfl⟩:∃m:Nat,n=m:=⟨n.toNat,by omega⟩;have j1:j+m<=len:=by omega
 have m1:1<=m:=by omega
 have m2:m<=8:=by omega
 clear i1 i2 n1 n2 c1 c2;simp only[Int.toNat_natCast];obtain⟨b,off,rfl,hbw,hc⟩:=HS.out.2 (by omega);have HC:=hzz hc;obtain⟨cs,hcs⟩:∃cs,cs=(bs.drop j).take m:=⟨_,rfl⟩;rw[<-hcs]
 have HCS:=hzz hcs;have hcl:cs.length=m:=by rw[hcs];simp;omega
 have HCL:=hzz hcl;clear hcs hc hcl;have e1:=decide_eq_false (show ¬(j:Int)<0 by omega);have e2:=decide_eq_false (show ¬(len:Int)<(j:Int) by omega)
 have e3:=decide_eq_false (show ¬(len:Int) -(j:Int)<(m:Int) by omega);have g1:(0:Int)<=(j:Int):=by omega
 have g2:(j:Int)<=(len:Int):=by omega
 have g3:(0:Int)<=(m:Int):=by omega
 have g4:(m:Int)<=(cap:Int) -(j:Int):=by omega
 have g5:(len:Int)<=(cap:Int):=by omega
 go_enter Tryz.func147,Tryz.ntmps147
 go_wp2_with fail
 refine(A3i _ m).mono ?_;rw[hd];rintro e w' ⟨rfl,rfl⟩
 go_wp2_with fail
 go_loopw [8,38] (fun v i wr=>∃k x:Nat,k<=m/\i= .int .i64 k/\v= .int .u64 x/\Hid (x=B6r (cs.take k))/\wr=w) (fun _ i _=>m-(intOf i).toNat)
 case atStart=>exact⟨0,0,Nat.zero_le _,rfl,rfl,rfl,rfl⟩
 obtain⟨k,x,hk,rfl,rfl,HX,rfl⟩:=hrel;by_cases hlt:k<m
 ·have hck:wr.cell? ⟨b,off+j+k,none⟩=some (.int .u8 ((cs[k]'(by rw[HCL.out];exact hlt)).toNat:Int)):=by
   have h1:=HC.out (j+k) (by omega);rw[Nat.add_assoc,h1];simp only[HCS.out,List.getElem_take,List.getElem_drop];rfl
  obtain⟨c,hcc⟩:∃c,c=(cs[k]'(by rw[HCL.out];exact hlt)).toNat:=⟨_,rfl⟩;rw[<-hcc]at hck;have hcl:c<256:=by rw[hcc];exact(cs[k]'(by rw[HCL.out];exact hlt)).toNat_lt
  have HCC:=hzz hcc;clear hcc;have hx7:x<72057594037927936:=by rw[HX.out];exact B3z _ _ (by omega)
  have hor:=D2u (x:=x*256) (y:=c) (by omega) hcl (by omega);rw[show((x*256:Nat):Int)=(x:Int)*256 by omega]at hor
  go_wp2
  go_roundw
  case rel=>exact⟨k+1,x*256+c,by omega,by go_num,by go_num,by show _=_;rw[C2e cs k (by rw[HCL.out];exact hlt),<-HX.out,<-HCC.out],trivial⟩
  simp[intOf];omega
 obtain rfl:k=m:=by omega
 go_wp2
 go_ret2;have h1:=HX.out;rw[List.take_of_length_le (by rw[HCL.out];omega)]at h1;rw[h1];exact⟨rfl,rfl⟩
theorem A4z(w:World)(a:Option Addr)(len cap:Nat)(bs:List UInt8)(i n:Int)(hs:Sl A5q w a len bs)(hl:len<=1048576)(hcap:len<=cap)(hi:A5r i)(hn:A5r n):
  Calls Tryz.prog 112 #[.slice a len cap,.int .i64 i,.int .i64 n] w fun e w'=>e= .returned (.tuple #[.int .u64 (A5y bs i n).1,.int .i64 (A5y bs i n).2])/\w=w':=by
 have hbl:=hs.1;have HS:=hzz hs;obtain⟨i1,i2⟩:=hi;obtain⟨n1,n2⟩:=hn;clear hs;by_cases c1:n<1\/8<n
 ·have hR:A5y bs i n=(0,1):=by unfold A5y;rw[if_pos c1]
  rw[hR];clear hR;by_cases d1:n<1
  ·have e1:=decide_eq_true d1;go_enter Tryz.func112,Tryz.ntmps112
   go_wp2
   go_ret2;exact⟨rfl,rfl⟩
  have e1:=decide_eq_false d1;have e2:=decide_eq_true (show 8<n by omega);go_enter Tryz.func112,Tryz.ntmps112
  go_wp2
  go_ret2;exact⟨rfl,rfl⟩
 have a1:=decide_eq_false (show ¬n<1 by omega);have a2:=decide_eq_false (show ¬8<n by omega);by_cases c2:i<0\/(len:Int)<i\/(len:Int) -i<n
 ·have hR:A5y bs i n=(0,6):=by unfold A5y;rw[if_neg c1,hbl,if_pos c2]
  rw[hR];clear hR;by_cases d1:i<0
  ·have e1:=decide_eq_true d1;go_enter Tryz.func112,Tryz.ntmps112
   go_wp2
   go_ret2;exact⟨rfl,rfl⟩
  have e1:=decide_eq_false d1;by_cases d2:(len:Int)<i
  ·have e2:=decide_eq_true d2;go_enter Tryz.func112,Tryz.ntmps112
   go_wp2
   go_ret2;exact⟨rfl,rfl⟩
  have e2:=decide_eq_false d2;have e3:=decide_eq_true (show(len:Int) -i<n by omega);go_enter Tryz.func112,Tryz.ntmps112
  go_wp2
  go_ret2;exact⟨rfl,rfl⟩
 have hR:A5y bs i n=(((B6r ((bs.drop i.toNat).take n.toNat):Nat):Int),(0:Int)):=by unfold A5y;rw[if_neg c1,hbl,if_neg c2]
 rw[hR];clear hR;obtain⟨j,rfl⟩:∃j:Nat,i=j:=⟨i.toNat,by omega⟩;obtain⟨m,rfl⟩:∃m:Nat,n=m:=⟨n.toNat,by omega⟩;have j1:j+m<=len:=by omega
 have m1:1<=m:=by omega
 have m2:m<=8:=by omega
 clear i1 i2 n1 n2 c1 c2;simp only[Int.toNat_natCast];obtain⟨b,off,rfl,hbw,hc⟩:=HS.out.2 (by omega);have HC:=hzz hc;obtain⟨cs,hcs⟩:∃cs,cs=(bs.drop j).take m:=⟨_,rfl⟩;rw[<-hcs]
 have HCS:=hzz hcs;have hcl:cs.length=m:=by rw[hcs];simp;omega
 have HCL:=hzz hcl;clear hcs hc hcl;have e1:=decide_eq_false (show ¬(j:Int)<0 by omega);have e2:=decide_eq_false (show ¬(len:Int)<(j:Int) by omega)
 have e3:=decide_eq_false (show ¬(len:Int) -(j:Int)<(m:Int) by omega);have g1:(0:Int)<=(j:Int):=by omega
 have g2:(j:Int)<=(len:Int):=by omega
 have g3:(j:Int)<=(j:Int)+(m:Int):=by omega
 have g4:(j:Int)+(m:Int)<=(cap:Int):=by omega
 have g5:(len:Int)<=(cap:Int):=by omega
 go_enter Tryz.func112,Tryz.ntmps112
 go_wp2_with fail
 go_loopw [8,40] (fun v i wr=>∃k x:Nat,k<=m/\i= .int .i64 k/\v= .int .u64 x/\Hid (x=B6r (cs.take k))/\wr=w) (fun _ i _=>m-(intOf i).toNat)
 case atStart=>exact⟨0,0,Nat.zero_le _,rfl,rfl,rfl,rfl⟩
 obtain⟨k,x,hk,rfl,rfl,HX,rfl⟩:=hrel;by_cases hlt:k<m
 ·have hck:wr.cell? ⟨b,off+j+k,none⟩=some (.int .u8 ((cs[k]'(by rw[HCL.out];exact hlt)).toNat:Int)):=by
   have h1:=HC.out (j+k) (by omega);rw[Nat.add_assoc,h1];simp only[HCS.out,List.getElem_take,List.getElem_drop];rfl
  obtain⟨c,hcc⟩:∃c,c=(cs[k]'(by rw[HCL.out];exact hlt)).toNat:=⟨_,rfl⟩;rw[<-hcc]at hck;have hcl:c<256:=by rw[hcc];exact(cs[k]'(by rw[HCL.out];exact hlt)).toNat_lt
  have HCC:=hzz hcc;clear hcc;have hx7:x<72057594037927936:=by rw[HX.out];exact B3z _ _ (by omega)
  go_wp2
  go_roundw
  case rel=>exact⟨k+1,x*256+c,by omega,by go_num,by go_num,by show _=_;rw[C2e cs k (by rw[HCL.out];exact hlt),<-HX.out,<-HCC.out],trivial⟩
  simp[intOf];omega
 obtain rfl:k=m:=by omega
 go_wp2
 go_ret2;have h1:=HX.out;rw[List.take_of_length_le (by rw[HCL.out];omega)]at h1;rw[h1];exact⟨rfl,rfl⟩
theorem B5b(w:World)(a:Option Addr)(len cap:Nat)(bs:List UInt8)(v n:Nat)(hs:Sl A5q w a len bs)(hl:len<=1048576)(hcap:len<=cap)(hv:v<18446744073709551616)(n1:1<=n)(n2:n<=8):
  Calls Tryz.prog 157 #[.slice a len cap,.int .u64 v,.int .i64 n] w (D7z A5q 5 w.heap.size w (bs++A6c v n)):=by
 have HS:=hzz hs;clear hs;have hd:decide (1<=(n:Int)/\(n:Int)<=8)=true:=decide_eq_true (by omega);have g5:(len:Int)<=(cap:Int):=by omega
 go_enter Tryz.func157,Tryz.ntmps157
 go_wp2_with fail
 refine(A3i _ n).mono ?_;rw[hd];rintro e w' ⟨rfl,rfl⟩
 go_wp2_with fail
 go_loopw [0,19] (fun s i wr=>∃k:Nat,k<=n/\i= .int .i64 k/\(k=0/\s= .slice a len len\/0<k/\Hid (wr.ownsRow w.heap.size 5 1 s (len+k) ((bs++(A6c v n).take k).map A5q)))/\Hid (Below w.heap.size w wr)) (fun _ i _=>n-(intOf i).toNat)
 case atStart=>exact⟨0,Nat.zero_le _,rfl,.inl ⟨rfl,rfl⟩,brz⟩
 obtain⟨k,hk,rfl,hor,HW⟩:=hrel;by_cases hlt:k<n
 ·rcases hor with⟨rfl,rfl⟩|⟨hk0,HO⟩
  ·go_wp2_with (at_builtin;refine A7q (enc:=A5q) E3q rfl _ _ rfl w.heap.size a len len bs rfl (HS.out.below HW.out) _ 1 _ rfl rfl rfl (by omega) nlz (by omega) (by unfold maxLen;omega) HW.out.size ?_;intro v1 w1 hown1 hb1;rw[C5v]at hown1;have HO1:=hzz hown1;have HB1:=hzz (HW.out.trans hb1);clear hown1 hb1)
   go_roundw
   case rel=>exact⟨1,by omega,by go_num,.inr ⟨by omega,by rw[C7r v n (by omega),List.map_append];simp only[List.map_cons,List.map_nil,C1d];exact HO1⟩,HB1⟩
   simp[intOf];omega
  go_wp2_with (at_builtin;refine A6h E3q rfl _ _ rfl w.heap.size _ _ _ rfl HO.out _ 1 _ rfl rfl rfl (by omega) (by unfold maxLen;omega) HW.out.size ?_;intro v1 w1 hown1 hg1 hb1;rw[C5v]at hown1;have HO1:=hzz hown1;have HB1:=hzz (HW.out.trans hb1);clear hown1 hb1 hg1)
  go_roundw
  case rel=>exact⟨k+1,by omega,by go_num,.inr ⟨by omega,by rw[C0s v n k hlt,<-List.append_assoc,List.map_append (l₁:=bs++_)];simp only[List.map_cons,List.map_nil,C1d];exact HO1⟩,HB1⟩
  simp[intOf];omega
 obtain rfl:k=n:=by omega
 rcases hor with⟨rfl,rfl⟩|⟨hk0,HO⟩
 ·omega
 go_wp2
 go_ret;exact⟨_,_,rfl,by have h:=HO.out;rwa [List.take_of_length_le (by rw[A1t];omega)]at h,HW.out⟩
theorem E0c(w:World)(a:Option Addr)(len cap:Nat)(v n:Int)(hcap:len<=cap)(hn:n<1\/8<n):
  Calls Tryz.prog 157 #[.slice a len cap,.int .u64 v,.int .i64 n] w fun e w'=>e= .returned (.slice a len len)/\w=w':=by
 have hd:decide (1<=n/\n<=8)=false:=decide_eq_false (by omega);have g5:(len:Int)<=(cap:Int):=by omega
 go_enter Tryz.func157,Tryz.ntmps157
 go_wp2_with fail
 refine(A3i _ n).mono ?_;rw[hd];rintro e w' ⟨rfl,rfl⟩
 go_wp2
 go_ret;exact⟨rfl,rfl⟩
attribute [local go_sem↓] Go.wp_at_zero Go.wp_at_succ
def D7u(w:World)(r:Option (List UInt16))(e:Ending)(w':World):Prop:=
 match r with
 |none=>e= .returned (.tuple #[.slice none 0 0,.int .i64 8])/\Below w.heap.size w w'
 |some us=>∃v n,e= .returned (.tuple #[v,.int .i64 0])/\w'.ownsRow w.heap.size 231 1 v n (us.map D7j)/\Below w.heap.size w w'
def D0v(w:World)(n:Nat)(bs:List UInt8)(s t:Value)(wr:World):Prop:=
 ∃(a':Option Addr) (m c f k:Nat) (rest:List UInt8) (us:List UInt16),s= .slice a' m c/\m<=f/\f<=n/\m<=c/\k+m<=n/\Hid (Sl A5q w a' m rest)/\Hid (wr.ownsRow w.heap.size 231 1 t k (us.map D7j))/\Hid (Below w.heap.size w wr)/\
   Hid (A3m bs=(A6f f rest).map (us++·))
def D2f:Value->Nat| .slice _ m _=>m|_=>0
theorem C7z(w:World)(a:Option Addr)(n cap:Nat)(bs:List UInt8)(hs:Sl A5q w a n bs)(hn:n<=65536)(hcap:n<=cap):
  Calls Tryz.prog 169 #[.slice a n cap] w (D7u w (A3m bs)):=by
 have HS:=hzz hs;have hnl:=hs.1;have HC:=hzz hcap;clear hs hcap;go_enter Tryz.func169,Tryz.ntmps169
 go_wp2
 go_loopw [0,4] (fun s t wr=>D0v w n bs s t wr) (fun s _ _=>D2f s)
 case atStart=>exact⟨a,n,cap,n,0,bs,[],rfl,Nat.le_refl _,Nat.le_refl _,HC.out,by omega,HS,World.ownsRow_nil _ _ _ _,brz,by show _=_;unfold A3m;rw[hnl];simp⟩
 obtain⟨a',m,c,f,k,rest,us,rfl,hmf,hfn,hmc,hkm,HR,HO,HW,HD⟩:=hrel;by_cases hlt:0<m
 ·have hne:rest≠[]:=by intro h;have:=HR.out.1;rw[h]at this;simp at this;omega
  have hle:=D5r hne;rw[HR.out.1]at hle
  go_wp2_with fail
  refine(D7h _ _ _ _ rest (HR.out.below HW.out) (by omega) hlt).mono ?_;obtain⟨u,hu⟩:∃u,u=(A7r rest).1:=⟨_,rfl⟩;obtain⟨q,hq⟩:∃q,q=(A7r rest).2:=⟨_,rfl⟩;rw[<-hu,<-hq]at hle
  obtain⟨hq1,hu1⟩:=hle;unfold D2q;rw[<-hu,<-hq];have HU:=hzz hu;have HQ:=hzz hq;clear hu hq;rintro e w1 ⟨rfl,rfl⟩;obtain⟨f,rfl⟩:∃f',f=f'+1:=⟨f-1,by omega⟩
  have hstep:=B4a (f:=f) (bs:=rest) (by rw[HR.out.1];omega) hne;rw[<-HU.out,<-HQ.out]at hstep;have HT:=hzz hstep;clear hstep hne;by_cases hq0:q=0
  ·have hN:A3m bs=none:=by rw[HD.out,HT.out,if_pos hq0];rfl
   have HN:=hzz hN;clear hN;subst hq0
   go_wp2
   go_ret2;rw[HN.out];exact⟨rfl,HW.out⟩
  have hq2:((q:Int)==0)=false:=by simp;omega
  have hqp:0<q:=by omega
  have HD2:=hzz (show A3m bs=(A6f f (rest.drop q)).map ((us++[UInt16.ofNat u])++·) by
   rw[HD.out,HT.out,if_neg hq0]
   cases A6f f (rest.drop q)<;>simp)
  have HE:=hzz (show(Value.int .u16 (u:Int))=D7j (UInt16.ofNat u) by unfold D7j;rw[UInt16.toNat_ofNat_of_lt' hu1]);have g1:(0:Int)<=(q:Int):=by omega
  have g2:(q:Int)<=(m:Int):=by omega
  have g3:(m:Int)<=(c:Int):=by omega
  obtain⟨b,off,rfl,_⟩:=HR.out.drop (j:=0) hlt;by_cases hqc:c=q
  ·obtain rfl:q=m:=by omega
   subst hqc;clear hq0
   go_wp2_with fail
   go_region_law ((refine B0g E3y (by rfl) _ _ (by rfl) w.heap.size _ _ _ (by rfl) HO.out.drew _ 1 _ (by rfl) (by rfl) (by rfl) (by omega) (by unfold maxLen;omega) HW.out.size ?_;intro v1 w1 hown1 hg1 hb1))
   have HO1:=hzz hown1;have HB1:=hzz (HW.out.trans ((brz.drew).trans hb1));clear hown1 hg1 hb1
   go_wp2_with fail
   have hrel:D0v w n bs (.slice (some ⟨b,off,none⟩) 0 0) v1 w1:=
    ⟨_,0,0,f,k+1,_,us++[UInt16.ofNat u],rfl,by omega,by omega,by omega,by omega,by
     have hl:=HR.out.1;show Sl _ _ _ _ _;rw[List.drop_of_length_le (by omega)]
     exact Sl.nil _ _,by rw[List.map_append];show World.ownsRow _ _ _ _ _ _ (_++[_]);rw[<-HE.out];exact HO1.out,HB1,HD2⟩
   exact⟨⟨_,_,_,_,hrel,rfl,rfl,rfl,rfl⟩,by simp only[D2f];omega⟩
  clear hq0
  go_wp2_with fail
  go_region_law ((refine B0g E3y (by rfl) _ _ (by rfl) w.heap.size _ _ _ (by rfl) HO.out.drew _ 1 _ (by rfl) (by rfl) (by rfl) (by omega) (by unfold maxLen;omega) HW.out.size ?_;intro v1 w1 hown1 hg1 hb1))
  have HO1:=hzz hown1;have HB1:=hzz (HW.out.trans ((brz.drew).trans hb1));clear hown1 hg1 hb1
  go_wp2_with fail
  have hSl:Sl A5q w (some ⟨b,off+q,none⟩) (m-q) (rest.drop q):=by
   by_cases hqm:q<m
   ·obtain⟨b',off',he,hSl⟩:=HR.out.drop hqm;simp only[Option.some.injEq,Addr.mk.injEq,and_true]at he;rw[he.1,he.2];exact hSl
   have hl:=HR.out.1;rw[List.drop_of_length_le (by omega),show m-q=0 by omega];exact Sl.nil _ _
  have hrel:D0v w n bs (.slice (some ⟨b,off+q,none⟩) (m-q) (c-q)) v1 w1:=
   ⟨_,m-q,c-q,f,k+1,_,us++[UInt16.ofNat u],rfl,by omega,by omega,by omega,by omega,hSl,
    by rw[List.map_append];show World.ownsRow _ _ _ _ _ _ (_++[_]);rw[<-HE.out];exact HO1.out,HB1,HD2⟩
  exact⟨⟨_,_,_,_,hrel,rfl,rfl,rfl,rfl⟩,by simp only[D2f];omega⟩
 have hN:A3m bs=some us:=by
  have:rest=[]:=List.eq_nil_of_length_eq_zero (by rw[HR.out.1];omega);rw[HD.out,this];simp[A6f]
 have HN:=hzz hN;clear hN
 go_wp2
 go_ret2;rw[HN.out];exact⟨_,k,rfl,HO.out,HW.out⟩
def D5x(r:Option (List UInt16)):Int×Int:=match r with|none=>(0,8)|some us=>(us.length,0)
theorem D8r(w:World)(a:Option Addr)(n cap:Nat)(bs:List UInt8)(hs:Sl A5q w a n bs)(hn:n<=65536)(hcap:n<=cap):
  Calls Tryz.prog 136 #[.slice a n cap] w fun e w'=>e= .returned (.tuple #[.int .i64 (D5x (A3m bs)).1,.int .i64 (D5x (A3m bs)).2])/\Below w.heap.size w w':=by
 have HD:=hzz (C7z w a n cap bs hs hn hcap);clear hs hcap;go_enter Tryz.func136,Tryz.ntmps136
 go_wp2_with fail
 refine HD.out.mono ?_;intro e w1 hr;clear HD
 cases hd:A3m bs with
 |none=>
  rw[hd]at hr;obtain⟨rfl,hb⟩:=hr;have H:=hzz hd;clear hd
  go_wp2
  go_ret2;exact⟨by rw[H.out];rfl,hb⟩
 |some us=>
 rw[hd]at hr;obtain⟨v,m,rfl,hown,hb⟩:=hr;obtain⟨a1,cap1,rfl,hsl,_⟩:=Sl.ofOwn hown;have hl:=hsl.1;have H:=hzz hd;have HL:=hzz hl;clear hd hown hsl hl
 go_wp2
 go_ret2;exact⟨by rw[H.out,show m=us.length from HL.out.symm];rfl,hb⟩
def B0d(p:UInt8->Bool)(bs:List UInt8):Int:=match bs.findIdx? p with|some i=>i|none=> -1
theorem C0g{p:UInt8->Bool}{bs:List UInt8}{k:Nat}(h:k<bs.length)(hp:p bs[k]=true)(hn:∀j (h:j<k) (h':j<bs.length),p bs[j]=false):B0d p bs=k:=by
 unfold B0d;rw[List.findIdx?_eq_some_iff_getElem.2 ⟨h,hp,fun j hj=>by have:=hn j hj (by omega);simp[this]⟩]
theorem B9y{p:UInt8->Bool}{bs:List UInt8}(hn:∀j (h':j<bs.length),p bs[j]=false):B0d p bs= -1:=by
 unfold B0d;rw[List.findIdx?_eq_none_iff.2 (fun x hx=>by obtain⟨j,hj,rfl⟩:=List.mem_iff_getElem.1 hx;exact hn j hj)]
theorem B9d(w:World)(a:Option Addr)(n cap:Nat)(bs:List UInt8)(f:Nat)(p:UInt8->Bool)(hs:Sl A5q w a n bs)(hn:n<=65536)
  (he:∀(args:Array Value) (w:World),(callFunc f args).run Tryz.prog w= .ok (.enter f args) w) (hf:∀(w:World) (c:UInt8),Calls Tryz.prog f #[.int .u8 (c.toNat:Int)] w fun e w'=>e= .returned (.bool (p c))/\w=w'):
  Calls Tryz.prog 168 #[.slice a n cap,.func (.func f) #[] #[]] w fun e w'=>e= .returned (.int .i64 (B0d p bs))/\w=w':=by
 have HS:=hzz hs;have HF:=hzz hf;clear hs hf;go_enter Tryz.func168,Tryz.ntmps168
 go_wp2
 go_loop [8] (fun i=>∃k:Nat,k<=n/\i= .int .i64 k/\Hid (∀j (h:j<k) (h':j<bs.length),p bs[j]=false)) (fun i=>n-(intOf i).toNat)
 case atStart=>exact⟨0,Nat.zero_le _,rfl,fun j h=>by omega⟩
 obtain⟨k,hk,rfl,HN⟩:=hrel;by_cases hlt:k<n
 ·obtain⟨b,off,rfl,hbl,hc⟩:=HS.out.2 (by omega);have hkl:k<bs.length:=by rw[HS.out.1];exact hlt
  have hck:w.cell? ⟨b,off+k,none⟩=some (.int .u8 (bs[k].toNat:Int)):=hc k hkl;clear hc hbl
  go_wp2_with fail
  refine(HF.out w bs[k]).mono ?_;rintro e w1 ⟨rfl,rfl⟩
  cases hp:p bs[k]
  ·have HP:=hzz hp;clear hp
   go_wp2_with fail
   go_round
   case rel=>exact⟨k+1,by omega,by go_num,fun j hj hj'=>by
    by_cases h:j=k
    ·subst h;exact HP.out
    exact HN.out j (by omega) hj'⟩
   simp[intOf];omega
  have HP:=hzz hp;clear hp
  go_wp2_with fail
  go_ret;exact⟨A2v (C0g hkl HP.out (fun j hj hj'=>HN.out j hj hj')).symm,rfl⟩
 go_wp2
 go_ret;exact⟨A2v (B9y (fun j hj=>HN.out j (by have:=HS.out.1;omega) hj)).symm,rfl⟩
theorem C4f(p:UInt8->Bool)(bs:List UInt8):decide (0<=B0d p bs)=bs.any p:=by
 unfold B0d
 cases h:bs.findIdx? p with
 |none=>
  rw[List.findIdx?_eq_none_iff]at h;have:bs.any p=false:=by rw[List.any_eq_false];intro x hx;simp[h x hx]
  rw[this];rfl
 |some i=>
 obtain⟨hi,hp,_⟩:=List.findIdx?_eq_some_iff_getElem.1 h;have:bs.any p=true:=List.any_eq_true.2 ⟨_,List.getElem_mem hi,hp⟩;rw[this];simp
theorem B4c(w:World)(a:Option Addr)(n cap:Nat)(bs:List UInt8)(f:Nat)(p:UInt8->Bool)(hs:Sl A5q w a n bs)(hn:n<=65536)
  (he:∀(args:Array Value) (w:World),(callFunc f args).run Tryz.prog w= .ok (.enter f args) w) (hf:∀(w:World) (c:UInt8),Calls Tryz.prog f #[.int .u8 (c.toNat:Int)] w fun e w'=>e= .returned (.bool (p c))/\w=w'):
  Calls Tryz.prog 135 #[.slice a n cap,.func (.func f) #[] #[]] w fun e w'=>e= .returned (.bool (bs.any p))/\w=w':=by
 have HI:=hzz (B9d w a n cap bs f p hs hn he hf);have HP:=hzz (C4f p bs);clear hs he hf;go_enter Tryz.func135,Tryz.ntmps135
 go_wp2_with fail
 refine HI.out.mono ?_;rintro e w1 ⟨rfl,rfl⟩;obtain⟨q,hq⟩:=exz (B0d p bs);rw[<-hq]at HP⊢;clear hq HI
 go_wp2
 go_ret;exact⟨by rw[<-HP.out];rfl,rfl⟩
theorem B3e(w:World)(bs:List UInt8):∃c w1,(convert 9 43 (.string ⟨bs.toArray⟩)).run Tryz.prog w= .ok (.slice (some ⟨w.heap.size,0,none⟩) bs.length c) w1/\
  Sl A5q w1 (some ⟨w.heap.size,0,none⟩) bs.length bs/\bs.length<=c/\Below w.heap.size w w1/\w1.heap.size=w.heap.size+1:=by
 have hr:=Lib.run_convert_string_bytes (P:=Tryz.prog) w 9 43 5 ⟨bs.toArray⟩ Tryz.underlying9 Tryz.underlying43 Tryz.underlying5;have hsz:(⟨bs.toArray⟩:ByteArray).size=bs.length:=by simp[ByteArray.size]
 rw[hsz]at hr
 refine⟨_,_,hr,⟨rfl,fun _=>⟨w.heap.size,0,rfl,by rw[Lib.bytesWorld_size];omega,fun i hi=> ?_⟩⟩,grownCap_ge _ _ _ _,⟨?_,?_,?_,by rw[Lib.bytesWorld_size];omega,fun k hk=>Lib.bytesWorld_at_old _ _ _ _ hk⟩,Lib.bytesWorld_size _ _ _⟩
 ·rw[Nat.zero_add,Lib.bytesWorld_cell _ _ _ i (by rw[hsz];exact hi)];simp[List.getD,hi,A5q]
 ·simp[Lib.bytesWorld,World.freeze,World.alloc,World.drew,-World.alloc_eq,-World.drew_eq]
 ·simp[Lib.bytesWorld,World.freeze,World.alloc,World.drew,-World.alloc_eq,-World.drew_eq]
 simp[Lib.bytesWorld,World.freeze,World.alloc,World.drew,-World.alloc_eq,-World.drew_eq]
def Ss{α:Type}(z:Nat)(enc:α->List Value)(w:World)(a:Option Addr)(n:Nat)(xs:List α):Prop:=
 xs.length=n/\(0<n->∃b off,a=some ⟨b,off,none⟩/\b<w.heap.size/\∀i (_:i<xs.length) j,j<z->w.cell? ⟨b,off+i*z+j,none⟩=(enc xs[i])[j]?)
theorem B8n(b o k:Nat):(⟨b,o,none⟩:Addr).add k=⟨b,o+k,none⟩:=by unfold Addr.add;split<;>simp_all
theorem A0e{w w':World}(h:Below w.heap.size w w'){a:Addr}{v:Value}(hc:w.cell? a=some v):w'.cell? a=some v:=by
 have hlt:a.block<w.heap.size:=by
  unfold World.cell? at hc
  cases hb:w.heap[a.block]? with
  |none=>rw[hb]at hc;simp at hc
  |some o=>exact(Array.getElem?_eq_some_iff.1 hb).1
 rw[h.cell hlt];exact hc
section
variable {α:Type} {z:Nat} {enc:α->List Value}
theorem Ss.below{w w':World}{a:Option Addr}{n:Nat}{xs:List α}(h:Ss z enc w a n xs)(hb:Below w.heap.size w w'):Ss z enc w' a n xs:=by
 refine⟨h.1,fun hn=> ?_⟩;obtain⟨b,off,ha,hlt,hc⟩:=h.2 hn;exact⟨b,off,ha,Nat.lt_of_lt_of_le hlt hb.size,fun i hi j hj=>by rw[hb.cell (by simpa using hlt)];exact hc i hi j hj⟩
theorem Ss.nil(w:World)(a:Option Addr):Ss z enc w a 0 []:=⟨rfl,fun h=>by omega⟩
theorem A6y(hz:∀x,(enc x).length=z)(xs:List α):(xs.flatMap enc).length=xs.length*z:=by
 induction xs with
 |nil=>simp
 |cons x xs ih=>rw[List.flatMap_cons,List.length_append,hz,ih,List.length_cons,Nat.add_mul,Nat.one_mul,Nat.add_comm]
theorem B6p(hz:∀x,(enc x).length=z)(xs:List α)(i:Nat)(hi:i<xs.length)(j:Nat)(hj:j<z):(xs.flatMap enc)[i*z+j]? =(enc xs[i])[j]? :=by
 induction xs generalizing i with
 |nil=>simp at hi
 |cons x xs ih=>
  rw[List.flatMap_cons]
  cases i with
  |zero=>rw[Nat.zero_mul,Nat.zero_add,List.getElem?_append_left (by rw[hz];exact hj)];simp
  |succ i=>
  rw[List.getElem?_append_right (by rw[hz,Nat.add_mul];omega),hz,show(i+1)*z+j-z=i*z+j by rw[Nat.add_mul];omega,ih i (by simpa using hi)];simp
theorem Ss.ofOwn(hz:∀x,(enc x).length=z)(z0:0<z){w:World}{base:Nat}{e:TypeId}{v:Value}{n:Nat}{xs:List α}(h:w.ownsRow base e z v n (xs.flatMap enc)):∃a cap,v= .slice a n cap/\Ss z enc w a n xs/\n<=cap:=by
 have hl:xs.length=n:=by
  have h1:=h.1;rw[A6y hz]at h1;exact Nat.eq_of_mul_eq_mul_right z0 h1
 rcases h.2 with⟨rfl,rfl⟩|⟨g,cap,cur,rfl,hb,hg,hnc,_,_,ht⟩
 ·exact⟨none,0,rfl,⟨hl,fun h=>by omega⟩,Nat.le_refl _⟩
 refine⟨_,cap,rfl,⟨hl,fun _=>⟨g,0,rfl,(Array.getElem?_eq_some_iff.1 hg).1,fun i hi j hj=> ?_⟩⟩,hnc⟩
 have hlt:i*z+j<n*z:=by
  have:(i+1)*z<=n*z:=Nat.mul_le_mul_right _ (by omega);rw[Nat.add_mul]at this;omega
 rw[Nat.zero_add,h.cellAt (i*z+j) hlt,B6p hz xs i hi j hj]
end
def StE(t e:TypeId)(z0:Value)(z bytes:Nat):Prop:=Tryz.prog.underlying t=some (.slice e)/\(Tryz.prog.info? e).map (fun i=>(i.zero,i.size,i.bytes))=some (some z0,z,bytes)/\z0.cells.size=z
theorem C3y{t e:TypeId}{z0:Value}{z bytes:Nat}(hO:StE t e z0 z bytes){w:World}{ops:Array Oper}{rest:List Oper}{o:Oper}{a:Act}{Q:Exit->Act->World->Prop}(hgd:Region.wanted o (yielded ops a.tmps)=true)(s x:Operand)(tx:TypeId)
  (ho:o.op= .call {callee:= .builtin .append,args:= #[s,x],argTypes:= #[t,tx]})
  (base:Nat) (v:Value) (n:Nat) (xs:List Value) (hv:a.eval s=v) (hown:w.ownsRow base e z v n xs)
  (y:Value) (m:Nat) (news:List Value) (hy:a.eval x=y) (hs:Src Tryz.prog z tx y m news w) (hlen:(n+m)*bytes<=140737488355328) (hm:n+m<=maxLen) (hbase:base<=w.heap.size)
  (h:∀v' w',w'.ownsRow base e z v' (n+m) (xs++news)->w.grownBy w' v.ownBlock->Below base w w'->wpList Tryz.prog ops Q rest (a.put o.dst v') w'):wpList Tryz.prog ops Q (o::rest) a w:=by
 obtain⟨ht,hinf,hz⟩:=hO;obtain⟨i0,hi,hz0,hz1,hz2⟩:=info_parts hinf
 exact A8n hgd s x t tx ho base e i0 z0 z bytes ht hi hz0 hz1 hz2 hz v n xs hv hown y m news hy hs hm hlen hbase (fun v' w' h1 h2 _=>h v' w' h1 h2 (B2i brz hbase hown h2))
theorem Src.litS{P:Program}{w:World}{z m c:Nat}{C:Array Value}{e tx e':TypeId}(hm:C.size=m*z)(hone:C.toList.all (·.oneCell')=true)(hk:P.underlying tx=some (.slice e')):
  Src P z tx (.slice (some ⟨w.heap.size,0,none⟩) m c) m C.toList (w.alloc (.cells C e)):=by
 refine Src.ofSlice _ hk ⟨w.heap.size,0,none⟩ m c _ (by simpa using hm) (fun j u hu=> ?_) (fun u hu=>List.all_eq_true.1 hone u hu)
 rw[B8n,Nat.zero_add,cell_of_row _ w.heap.size j _ _ _ (heap_alloc_last w _)];simpa using hu
theorem A0r{t e:TypeId}{z0:Value}{z bytes:Nat}(hO:StE t e z0 z bytes){w:World}{ops:Array Oper}{rest:List Oper}{o:Oper}{a:Act}{Q:Exit->Act->World->Prop}(hgd:Region.wanted o (yielded ops a.tmps)=true)(s x:Operand)
  (ho:o.op= .call {callee:= .builtin .append,args:= #[s,x],argTypes:= #[t,t]})
  (base:Nat) (v:Value) (n:Nat) (xs:List Value) (hv:a.eval s=v) (hown:w.ownsRow base e z v n xs)
  (C:Array Value) (m c sz:Nat) (hy:a.eval x= .slice (some ⟨sz,0,none⟩) m c) (hsz:w.heap.size=sz) (hC:C.size=m*z) (hone:C.toList.all (·.oneCell')=true) (hlen:(n+m)*bytes<=140737488355328) (hm:n+m<=maxLen) (hbase:base<=w.heap.size)
  (h:∀v' w',w'.ownsRow base e z v' (n+m) (xs++C.toList)->(w.alloc (.cells C e)).grownBy w' v.ownBlock->Below base w w'->wpList Tryz.prog ops Q rest (a.put o.dst v') w'):wpList Tryz.prog ops Q (o::rest) a (w.alloc (.cells C e)):=by
 subst hsz
 exact C3y hO hgd s x t ho base v n xs hv (hown.alloc _) _ m _ hy (Src.litS hC hone hO.1) hlen hm (by simp;omega)
  (fun v' w' h1 h2 h3=>h v' w' h1 h2 ((brz.alloc hbase _).trans h3))
theorem A1h{t e:TypeId}{z:Value}{bytes:Nat}(hO:C9y t e z bytes){w:World}{ops:Array Oper}{rest:List Oper}{o:Oper}{a:Act}{Q:Exit->Act->World->Prop}(hgd:Region.wanted o (yielded ops a.tmps)=true)(s x:Operand)
  (ho:o.op= .call {callee:= .builtin .append,args:= #[s,x],argTypes:= #[t,t]})
  (base:Nat) (v:Value) (n:Nat) (xs:List Value) (hv:a.eval s=v) (hown:w.ownsRow base e 1 v n xs)
  (C:Array Value) (m c sz:Nat) (hy:a.eval x= .slice (some ⟨sz,0,none⟩) m c) (hsz:w.heap.size=sz) (hC:C.size=m) (hone:C.toList.all (·.oneCell')=true) (hlen:(n+m)*bytes<=140737488355328) (hm:n+m<=maxLen) (hbase:base<=w.heap.size)
  (h:∀v' w',w'.ownsRow base e 1 v' (n+m) (xs++C.toList)->(w.alloc (.cells C e)).grownBy w' v.ownBlock->Below base w w'->wpList Tryz.prog ops Q rest (a.put o.dst v') w'):wpList Tryz.prog ops Q (o::rest) a (w.alloc (.cells C e)):=by
 subst hsz;exact A6h hO hgd s x ho base v n xs hv hown C m c hy hC hone hlen hm hbase h
end
section
theorem B0f(v n:Nat):A6c v (n+1)=A6c (v/256) n++[UInt8.ofNat (v%256)]:=by
 unfold A6c;rw[List.range_succ,List.map_append];congr 1
 ·apply List.map_congr_left;intro i hi;have hi:=List.mem_range.1 hi;rw[show n+1-1-i=(n-1-i)+1 by omega,Nat.pow_succ,Nat.mul_comm,<-Nat.div_div_eq_div_mul]
 simp
theorem D3f(cs:List UInt8):A6c (B6r cs) cs.length=cs:=by
 generalize hn:cs.length=n
 induction n generalizing cs with
 |zero=>rw[List.length_eq_zero_iff.1 hn];rfl
 |succ n ih=>
  have h1:cs≠[]:=by intro h;rw[h]at hn;simp at hn
  obtain⟨ds,c,rfl⟩:∃ds c,cs=ds++[c]:=⟨cs.dropLast,cs.getLast h1,(List.dropLast_concat_getLast h1).symm⟩;have hl:ds.length=n:=by simpa using hn
  have hc:=c.toNat_lt;rw[B0f,B2d,show(B6r ds*256+c.toNat)/256=B6r ds by omega,show(B6r ds*256+c.toNat)%256=c.toNat by omega,ih ds hl];simp
theorem A9c(v n:Nat):B6r (A6c v n)=v%256^n:=by
 induction n generalizing v with
 |zero=>simp[A6c,B6r,Nat.mod_one]
 |succ n ih=>
  rw[B0f,B2d,ih,UInt8.toNat_ofNat_of_lt' (by show v%256<256;omega),Nat.pow_succ,Nat.mul_comm (256^n) 256,Nat.mod_mul];omega
end
section
open Go.ChangeShapes Go.WideShapes Go.ChangeAt Go.RowKit
attribute [local go_sem↓] Go.wp_at_zero Go.wp_at_succ
end
end Go.Proofs.YtclpkipaehpkdaaGreatDoor
