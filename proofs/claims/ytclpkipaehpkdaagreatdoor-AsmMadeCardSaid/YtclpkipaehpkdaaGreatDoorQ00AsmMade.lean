/- asm -/
import Derived.Test.YtclpkipaehpkdaaGreatDoorRows
import Derived.WalkKit
import Derived.ProofKit
import Derived.OpenShut
import Derived.ShutString
import Derived.ChangeOld
import Derived.Below
import Derived.Lib.Hide
import Derived.Deep.WholeRow
import Derived.Laws.CopyOwn
import Derived.Deep.AppendSrc
import Derived.Lib.SlBytesConst
import Derived.Deep.QuietTactic
import Derived.BigQuiet
import Derived.Deep.RegionLaw
import Derived.Deep.DrawnRows
import Derived.OrdersHeld
import Derived.Deep.LoopGhost
import Derived.Deep.DeepCutAuto
import Derived.Lib.SmallJoins
set_option linter.unusedVariables false
set_option linter.unusedSimpArgs false
set_option maxRecDepth 100000
set_option maxHeartbeats 64000000
namespace Go.Proofs.YtclpkipaehpkdaaGreatDoor
section
open Go.ChangeShapes Go.WideShapes Go.ChangeAt Go.RowKit
def Bs(w:World)(a:Option Addr)(n:Nat)(bs:List UInt8):Prop:=
 bs.length=n/\(0<n->∃b off,a=some ⟨b,off,none⟩/\b<w.heap.size/\∀i (h:i<bs.length),w.cell? ⟨b,off+i,none⟩=some (.int .u8 (bs[i].toNat:Int)))
theorem C8d{α β:Type}(f:β->α->β)(b:β)(xs:List α)(k:Nat)(h:k<xs.length):(xs.take (k+1)).foldl f b=f ((xs.take k).foldl f b) xs[k]:=by
 rw[List.take_succ_eq_append_getElem h,List.foldl_append];rfl
theorem A2n{k:IntKind}{a b:Int}(h:a=b):Ending.returned (.int k a)= .returned (.int k b):=by rw[h]
theorem A8u{P:Program}{ops:Array Oper}{rest:List Oper}{o:Oper}{a:Act}{w:World}{Q:Exit->Act->World->Prop}(hgd:o.guard=none)(ty:TypeId)(x y:Operand)(ho:o.op= .store ty x y)
  (cells:Array Value) (hx:a.eval x= .pointer (some ⟨w.heap.size,0,none⟩)) (hy:a.eval y= .agg cells) (t:TypeId) (old:Array Value) (hi:(P.info? ty).map (·.size)=some cells.size)
  (hold:old.size=cells.size) (h1:cells.all (·.oneCell')=true) (h:wpList P ops Q rest (a.put o.dst undef) (w.alloc (.cells cells t))):wpList P ops Q (o::rest) a (w.alloc (.cells old t)):=
 wpList_store_row hgd ty x y ho w.heap.size cells hx hy t old (heap_alloc_last w _) hi hold h1 (by rw[World.setRow_alloc_new];exact h)
theorem B0m{P:Program}{w:World}(t tx ty e:TypeId)(i:TypeInfo)(ht:P.underlying t=some (.slice e))(hi:P.info? e=some i)
  (g sLen sCap:Nat) (cur:Array Value) (hg:w.heap[g]? =some (.cells cur e (0,0))) (x:Value) (m:Nat) (news:List Value) (hs:Src P i.size tx x m news w)
  (hroom:sLen+m<=sCap) (hfit:sLen*i.size+news.length<=cur.size):
  (Builtin.append_ #[t,tx] ty #[.slice (some ⟨g,0,none⟩) sLen sCap,x]).run P w=
   .ok (.slice (some ⟨g,0,none⟩) (sLen+m) sCap) (w.setRow g (cur.toList.take (sLen*i.size)++news++cur.toList.drop (sLen*i.size+news.length)).toArray):=by
 have hst:=run_storeCells_at P g (sLen*i.size) e news 0 cur w hg (by simpa using hfit) hs.one;simp only[Nat.add_zero]at hst
 rcases hs.kind with⟨e',hk⟩|hk<;>simp[Builtin.append_,run_underlying ht,run_underlying hk,sizeOf,typeInfo,hi,hs.len,hroom,hs.cells,Addr.add_lit,hst]
theorem B1p{P:Program}{w:World}(t tx ty e:TypeId)(i:TypeInfo)(ht:P.underlying t=some (.slice e))(hi:P.info? e=some i)(x:Value)(news:List Value)(hs:Src P i.size tx x 0 news w):
  (Builtin.append_ #[t,tx] ty #[.slice none 0 0,x]).run P w= .ok (.slice none 0 0) w:=by
 have hc:=hs.cells
 rcases hs.kind with⟨e',hk⟩|hk<;>simp[Builtin.append_,run_underlying ht,run_underlying hk,sizeOf,typeInfo,hi,hs.len,hc]
theorem A7c{P:Program}{w:World}(base:Nat)(t tx ty e:TypeId)(i:TypeInfo)(z:Value)(size bytes:Nat)(ht:P.underlying t=some (.slice e))(hi:P.info? e=some i)(hz:i.zero=some z)
  (hsize:i.size=size) (hby:i.bytes=bytes) (hzs:z.cells.size=size) (v:Value) (n:Nat) (xs:List Value) (hown:w.ownsRow base e size v n xs)
  (x:Value) (m:Nat) (news:List Value) (hs:Src P size tx x m news w) (h63:n+m<=maxLen) (hbytes:(n+m)*bytes<=140737488355328) (hbase:base<=w.heap.size):
  ∃v' w',(Builtin.append_ #[t,tx] ty #[v,x]).run P w= .ok v' w'/\w'.ownsRow base e size v' (n+m) (xs++news)/\w.grownBy w' v.ownBlock/\(v'= .slice none 0 0↔v= .slice none 0 0/\m=0):=by
 subst hsize;subst hby;have hsmall:n+m<=9223372036854775807:=by simp only[maxLen]at h63;omega
 have hl:=hs.newsLen;have hlen:(xs++news).length=(n+m)*i.size:=by rw[List.length_append,hown.1,hl,Nat.add_mul]
 have grown:∀(old:Nat),old<n+m->∀(row:Option Nat),
   (w.drew.alloc (.cells ((xs++news).toArray++Builtin.zeroCells z.cells (grownCap w (n+m) old e-(n+m))) e)).ownsRow base e i.size
    (.slice (some ⟨w.heap.size,0,none⟩) (n+m) (grownCap w (n+m) old e)) (n+m) (xs++news)/\
   w.grownBy (w.drew.alloc (.cells ((xs++news).toArray++Builtin.zeroCells z.cells (grownCap w (n+m) old e-(n+m))) e)) row:=by
  intro old ho row;have hge:=grownCap_ge w (n+m) old e;have hcm:grownCap w (n+m) old e<=maxLen:=grownCap_le_maxLen w (n+m) old e h63
  refine⟨⟨hlen,.inr ⟨w.heap.size,_,_,rfl,hbase,heap_alloc_new w.drew _,hge,hcm,?_,?_⟩⟩,⟨rfl,rfl,rfl,by simp,fun k hk _=>Below.heap_alloc w.drew _ k hk⟩⟩
  ·simp only[Array.size_append,List.size_toArray,size_zeroCells,hzs,hlen,<-Nat.add_mul];congr 1;omega
  ·simp only[Array.toList_append];rw[<-hlen];exact List.take_left
 rcases hown.2 with⟨rfl,rfl⟩|⟨g,cap,cur,rfl,hbg,hg,hnc,hcm,hcs,htake⟩
 ·have hx:xs=[]:=List.eq_nil_of_length_eq_zero (by simpa using hown.1);subst hx;by_cases hm:m=0
  ·subst hm;have hn:news=[]:=List.eq_nil_of_length_eq_zero (by simpa using hl);subst hn
   exact⟨.slice none 0 0,w,B1p t tx ty e i ht hi x [] hs,World.ownsRow_nil w base e i.size,⟨rfl,rfl,rfl,Nat.le_refl _,fun _ _ _=>rfl⟩,by simp⟩
  have hr:=run_append_grow_src (P:=P) w t tx ty e i z ht hi hz none 0 0 [] (by simp[Builtin.firstCells]) x m news hs (by omega) (by omega) (growslice_fits (by omega) hbytes)
  have hgr:=grown 0 (by omega) (Value.ownBlock (.slice none 0 0));exact⟨_,_,hr,hgr.1,hgr.2,by simp[hm]⟩
 by_cases hroom:n+m<=cap
 ·have hfit:n*i.size+news.length<=cur.size:=by rw[hl,hcs,<-Nat.add_mul];exact Nat.mul_le_mul_right _ hroom
  have hr:=B0m (P:=P) t tx ty e i ht hi g n cap cur hg x m news hs hroom hfit
  refine⟨_,_,hr,⟨hlen,.inr ⟨g,cap,_,rfl,hbg,setRow_heap w g cur _ e _ hg,hroom,hcm,?_,?_⟩⟩,⟨rfl,rfl,rfl,by simp,fun k _ hk=>setRow_other w g k _ (fun e=>hk (by simp[Value.ownBlock,e]))⟩,by simp⟩
  ·simp only[List.size_toArray,List.length_append,List.length_take,List.length_drop,Array.length_toList];omega
  rw[htake,<-hlen];exact List.take_left
 have holds:∀j u,xs[j]? =some u->w.drew.cell? ((⟨g,0,none⟩:Addr).add j)=some u:=hown.cells (g:=g) rfl
 have hr:=run_append_grow_src (P:=P) w t tx ty e i z ht hi hz (some ⟨g,0,none⟩) n cap xs (run_firstCells_some w.drew i.size n ⟨g,0,none⟩ n cap xs hown.1 holds) x m news hs (by omega) (by omega) (growslice_fits (by omega) hbytes)
 have hgr:=grown cap (by omega) (Value.ownBlock (.slice (some ⟨g,0,none⟩) n cap));exact⟨_,_,hr,hgr.1,hgr.2,by simp⟩
theorem A7p{P:Program}{w:World}{ops:Array Oper}{rest:List Oper}{o:Oper}{a:Act}{Q:Exit->Act->World->Prop}(hgd:Region.wanted o (yielded ops a.tmps)=true)(s x:Operand)(t tx:TypeId)
  (ho:o.op= .call {callee:= .builtin .append,args:= #[s,x],argTypes:= #[t,tx]})
  (base:Nat) (e:TypeId) (i:TypeInfo) (z:Value) (size bytes:Nat) (ht:P.underlying t=some (.slice e)) (hi:P.info? e=some i) (hz:i.zero=some z)
  (hsize:i.size=size) (hby:i.bytes=bytes) (hzs:z.cells.size=size) (v:Value) (n:Nat) (xs:List Value) (hv:a.eval s=v) (hown:w.ownsRow base e size v n xs)
  (y:Value) (m:Nat) (news:List Value) (hy:a.eval x=y) (hs:Src P size tx y m news w) (h63:n+m<=maxLen) (hbytes:(n+m)*bytes<=140737488355328) (hbase:base<=w.heap.size)
  (h:∀v' w',w'.ownsRow base e size v' (n+m) (xs++news)->w.grownBy w' v.ownBlock->(v'= .slice none 0 0↔v= .slice none 0 0/\m=0)->wpList P ops Q rest (a.put o.dst v') w'):wpList P ops Q (o::rest) a w:=by
 obtain⟨v',w',hr,h2,h3,h4⟩:=A7c (P:=P) (w:=w) base t tx o.type e i z size bytes ht hi hz hsize hby hzs v n xs hown y m news hs h63 hbytes hbase;refine wpList_step fun K hK=> ?_
 rw[if_pos hgd];unfold Oper.wp execOp;simp only[ho,resolve,invoke,builtin,Sem.run_bind,Sem.run_pure,Result.andThen_ok,List.map_toArray,List.map_cons,List.map_nil,hv,hy,hr]
 exact hK _ _ (h v' w' h2 h3 h4)
def A5f(x:UInt8):Value:= .int .u8 (x.toNat:Int)
def D3a(k:IntKind)(w:World)(a:Option Addr)(len cap:Nat)(zs:List Int):Prop:=
 (a=none/\len=0/\cap=0/\zs=[])\/
 ∃x,a=some x/\len<=cap/\cap<=maxLen/\zs.length=cap/\(∀i,i<zs.length->w.cell? (x.add i)=some (.int k (zs.getD i 0)))/\∀n∈zs,(Lit.int k n).wf=true
theorem C7q{n:Int}(h:(Lit.int .u8 n).wf=true):n=((UInt8.ofNat n.toNat).toNat:Int):=by
 have h0:=bounds_u8 h;rw[UInt8.toNat_ofNat_of_lt' (by show n.toNat<256;omega)];omega
theorem Bs.ofRow{w:World}{a:Option Addr}{len cap:Nat}{zs:List Int}(h:D3a .u8 w a len cap zs):∃bs,Bs w a len bs/\len<=maxLen:=by
 rcases h with⟨rfl,rfl,rfl,rfl⟩|⟨x,rfl,hl,hm,hz,hc,hwf⟩
 ·exact⟨[],⟨rfl,fun h=>by omega⟩,by decide⟩
 refine⟨(zs.take len).map fun n=>UInt8.ofNat n.toNat,⟨by simp;omega,fun hn=> ?_⟩,by omega⟩;obtain⟨b,off,spot⟩:=x;have h0:=hc 0 (by omega)
 have hspot:spot=none:=by simpa[Addr.add]using World.cell?_spot h0
 subst hspot;refine⟨b,off,rfl,World.block_lt_of_cell? w _ h0,fun i hi=> ?_⟩;have hi':i<len:=by simpa using(by simp at hi;omega:i<len)
 have hadd:(⟨b,off,none⟩:Addr).add i=⟨b,off+i,none⟩:=by unfold Addr.add;split<;>simp_all
 have hci:=hc i (by omega);rw[hadd]at hci;rw[hci];have hzi:zs.getD i 0=zs[i]'(by omega):=by simp[List.getD,List.getElem?_eq_getElem (by omega:i<zs.length)]
 rw[hzi];congr 1;simp only[List.getElem_map,List.getElem_take];exact congrArg (Value.int .u8) (C7q (hwf _ (List.getElem_mem _)))
theorem B1e{B:Nat}{w0 w w':World}{e:TypeId}{size:Nat}{v:Value}{n:Nat}{xs:List Value}(hb:Below B w0 w)(hB:B<=w.heap.size)(hown:w.ownsRow B e size v n xs)(hg:w.grownBy w' v.ownBlock):Below B w0 w':=
 hb.grown hg hB (fun k hk=>(hown.lt k hk).1)
end
section
open Go.RowKit
def E{n:Nat}(v:BitVec n):Int:=(v.toNat:Int)
theorem hzz{p:Prop}(h:p):Hid p:=h
theorem exz{α:Sort _}(a:α):∃x,x=a:=⟨a,rfl⟩
theorem btz{w w1 w2:World}(h:Hid (Below w.heap.size w w1))(k:Below w1.heap.size w1 w2):Hid (Below w.heap.size w w2):=h.out.trans (k.mono h.out.size)
theorem brz{B:Nat}{w:World}:Below B w w:=Below.refl _ _
theorem nlz{n:Nat}:n<=n:=Nat.le_refl _
theorem gsz{α:Type _}{l:List α}{i:Nat}{a:α}(h:l[i]? =some a):∃h:i<l.length,l[i]=a:=List.getElem?_eq_some_iff.1 h
end
section
open Go.ChangeShapes Go.WideShapes Go.ChangeAt Go.RowKit
def Sl{α:Type}(enc:α->Value)(w:World)(a:Option Addr)(n:Nat)(xs:List α):Prop:=
 xs.length=n/\(0<n->∃b off,a=some ⟨b,off,none⟩/\b<w.heap.size/\∀i (h:i<xs.length),w.cell? ⟨b,off+i,none⟩=some (enc xs[i]))
section
variable {α:Type} {enc:α->Value}
theorem Sl.below{w w':World}{a:Option Addr}{n:Nat}{xs:List α}(h:Sl enc w a n xs)(hb:Below w.heap.size w w'):Sl enc w' a n xs:=by
 refine⟨h.1,fun hn=> ?_⟩;obtain⟨b,off,ha,hlt,hc⟩:=h.2 hn;exact⟨b,off,ha,Nat.lt_of_lt_of_le hlt hb.size,fun i hi=>by rw[hb.cell (by simpa using hlt)];exact hc i hi⟩
theorem Sl.nil(w:World)(a:Option Addr):Sl enc w a 0 []:=⟨rfl,fun h=>by omega⟩
theorem Sl.ofOwn{w:World}{base:Nat}{e:TypeId}{v:Value}{n:Nat}{xs:List α}(h:w.ownsRow base e 1 v n (xs.map enc)):∃a cap,v= .slice a n cap/\Sl enc w a n xs/\n<=cap:=by
 have hl:xs.length=n:=by have:=h.1;simpa using this
 rcases h.2 with⟨rfl,rfl⟩|⟨g,cap,cur,rfl,hb,hg,hnc,_,_,ht⟩
 ·exact⟨none,0,rfl,⟨hl,fun h=>by omega⟩,Nat.le_refl _⟩
 refine⟨_,cap,rfl,⟨hl,fun _=>⟨g,0,rfl,(Array.getElem?_eq_some_iff.1 hg).1,fun i hi=> ?_⟩⟩,hnc⟩;have:=h.cells (g:=g) rfl i (enc xs[i]) (by rw[List.getElem?_map,List.getElem?_eq_getElem hi];rfl)
 have hadd:(⟨g,0,none⟩:Addr).add i=⟨g,0+i,none⟩:=by unfold Addr.add;split<;>simp_all
 rw[hadd]at this;exact this
theorem Sl.drop{w:World}{a:Option Addr}{n j:Nat}{xs:List α}(h:Sl enc w a n xs)(hj:j<n):∃b off,a=some ⟨b,off,none⟩/\Sl enc w (some ⟨b,off+j,none⟩) (n-j) (xs.drop j):=by
 obtain⟨b,off,ha,hlt,hc⟩:=h.2 (by omega);refine⟨b,off,ha,⟨by simp[h.1],fun _=>⟨b,off+j,rfl,hlt,fun i hi=> ?_⟩⟩⟩;have:=hc (j+i) (by simp at hi;omega);rw[Nat.add_assoc,this];simp
end
theorem Bs.sl{w:World}{a:Option Addr}{n:Nat}{bs:List UInt8}(h:Bs w a n bs):Sl A5f w a n bs:=h
theorem B2c{e:Int}(h0:0<=e)(h1:e<256):Value.int .u8 e=A5f (UInt8.ofNat e.toNat):=by
 unfold A5f;rw[UInt8.toNat_ofNat_of_lt' (by show e.toNat<256;omega)];congr 1;omega
theorem C4w{w:World}{ops:Array Oper}{o:Oper}{a:Act}{K:Act->World->Prop}{Q:Exit->Act->World->Prop}{E:Prop}(hgd:Region.wanted o (yielded ops a.tmps)=true)(s x:Operand)(t tx:TypeId)
  (ho:o.op= .call {callee:= .builtin .append,args:= #[s,x],argTypes:= #[t,tx]})
  (base:Nat) (e:TypeId) (i:TypeInfo) (z:Value) (size bytes:Nat) (ht:Tryz.prog.underlying t=some (.slice e)) (hi:Tryz.prog.info? e=some i) (hz:i.zero=some z)
  (hsize:i.size=size) (hby:i.bytes=bytes) (hzs:z.cells.size=size) (v:Value) (n:Nat) (xs:List Value) (hv:a.eval s=v) (hown:w.ownsRow base e size v n xs)
  (y:Value) (m:Nat) (news:List Value) (hy:a.eval x=y) (hs:Src Tryz.prog size tx y m news w) (h63:n+m<=maxLen) (hbytes:(n+m)*bytes<=140737488355328) (hbase:base<=w.heap.size)
  (h:∀v' w',w'.ownsRow base e size v' (n+m) (xs++news)->w.grownBy w' v.ownBlock->K (a.put o.dst v') w'):if Region.wanted o (yielded ops a.tmps)=true then Oper.wp Tryz.prog o a w K Q else E:=by
 obtain⟨v',w',hr,h2,h3,_⟩:=A7c (P:=Tryz.prog) (w:=w) base t tx o.type e i z size bytes ht hi hz hsize hby hzs v n xs hown y m news hs h63 hbytes hbase;rw[if_pos hgd];unfold Oper.wp execOp
 simp only[ho,resolve,invoke,builtin,Sem.run_bind,Sem.run_pure,Result.andThen_ok,List.map_toArray,List.map_cons,List.map_nil,hv,hy,hr];exact h v' w' h2 h3
def C9i(t e:TypeId)(z:Value)(bytes:Nat):Prop:=Tryz.prog.underlying t=some (.slice e)/\(Tryz.prog.info? e).map (fun i=>(i.zero,i.size,i.bytes))=some (some z,1,bytes)/\z.cells.size=1
theorem Src.lit{P:Program}{w:World}{g m c:Nat}{C:Array Value}{e tx e':TypeId}{fr:Nat×Nat}(hg:w.heap[g]? =some (.cells C e fr))(hm:C.size=m)(hone:C.toList.all (·.oneCell')=true)(hk:P.underlying tx=some (.slice e')):
  Src P 1 tx (.slice (some ⟨g,0,none⟩) m c) m C.toList w:=by
 refine Src.ofSlice w hk ⟨g,0,none⟩ m c _ (by simp[hm]) (fun j u hu=> ?_) (fun u hu=>List.all_eq_true.1 hone u hu);have hadd:(⟨g,0,none⟩:Addr).add j=⟨g,j,none⟩:=by unfold Addr.add;split<;>simp_all
 rw[hadd,cell_of_row w g j _ e fr hg];simpa using hu
theorem C3f{t e:TypeId}{z:Value}{bytes:Nat}(hO:C9i t e z bytes){w:World}{ops:Array Oper}{rest:List Oper}{o:Oper}{a:Act}{Q:Exit->Act->World->Prop}(hgd:Region.wanted o (yielded ops a.tmps)=true)(s x:Operand)(tx:TypeId)
  (ho:o.op= .call {callee:= .builtin .append,args:= #[s,x],argTypes:= #[t,tx]})
  (base:Nat) (v:Value) (n:Nat) (xs:List Value) (hv:a.eval s=v) (hown:w.ownsRow base e 1 v n xs)
  (y:Value) (m:Nat) (news:List Value) (hy:a.eval x=y) (hs:Src Tryz.prog 1 tx y m news w) (hlen:(n+m)*bytes<=140737488355328) (hm:n+m<=maxLen) (hbase:base<=w.heap.size)
  (h:∀v' w',w'.ownsRow base e 1 v' (n+m) (xs++news)->w.grownBy w' v.ownBlock->Below base w w'->wpList Tryz.prog ops Q rest (a.put o.dst v') w'):wpList Tryz.prog ops Q (o::rest) a w:=by
 obtain⟨ht,hinf,hz⟩:=hO;obtain⟨i0,hi,hz0,hz1,hz2⟩:=info_parts hinf
 exact A7p hgd s x t tx ho base e i0 z 1 bytes ht hi hz0 hz1 hz2 hz v n xs hv hown y m news hy hs hm hlen hbase (fun v' w' h1 h2 _=>h v' w' h1 h2 (B1e brz hbase hown h2))
theorem A7i{t e:TypeId}{z:Value}{bytes:Nat}(hO:C9i t e z bytes){w:World}{ops:Array Oper}{rest:List Oper}{o:Oper}{a:Act}{Q:Exit->Act->World->Prop}(hgd:Region.wanted o (yielded ops a.tmps)=true)(s x:Operand)
  (ho:o.op= .call {callee:= .builtin .append,args:= #[s,x],argTypes:= #[t,t]})
  (base:Nat) (v:Value) (n:Nat) (xs:List Value) (hv:a.eval s=v) (hown:w.ownsRow base e 1 v n xs)
  (C:Array Value) (m c:Nat) (hy:a.eval x= .slice (some ⟨w.heap.size,0,none⟩) m c) (hC:C.size=m) (hone:C.toList.all (·.oneCell')=true) (hlen:(n+m)*bytes<=140737488355328) (hm:n+m<=maxLen) (hbase:base<=w.heap.size)
  (h:∀v' w',w'.ownsRow base e 1 v' (n+m) (xs++C.toList)->(w.alloc (.cells C e)).grownBy w' v.ownBlock->Below base w w'->wpList Tryz.prog ops Q rest (a.put o.dst v') w'):wpList Tryz.prog ops Q (o::rest) a (w.alloc (.cells C e)):=
 C3f hO hgd s x t ho base v n xs hv (hown.alloc _) _ m _ hy (Src.lit (heap_alloc_last w _) hC hone hO.1) hlen hm (by simp;omega)
  (fun v' w' h1 h2 h3=>h v' w' h1 h2 ((brz.alloc hbase _).trans h3))
def D4z{α:Type}(enc:α->Value)(e:TypeId)(B:Nat)(w:World)(xs:List α)(en:Ending)(w':World):Prop:=
 ∃v n,en= .returned v/\w'.ownsRow B e 1 v n (xs.map enc)/\Below B w w'
theorem A0x{w w':World}{base:Nat}{e:TypeId}{size:Nat}{v:Value}{n:Nat}{xs:List Value}(h:w.ownsRow base e size v n xs)(hb:Below w.heap.size w w'):w'.ownsRow base e size v n xs:=
 h.kept (row:=none) ⟨hb.os,hb.tape,hb.output,hb.size,fun k hk _=>hb.block k hk⟩ (by by_cases h:v.ownBlock=none;exact .inl h;exact .inr h)
theorem C8b{t e:TypeId}{z:Value}{bytes:Nat}(hO:C9i t e z bytes){w:World}{ops:Array Oper}{o:Oper}{a:Act}{K:Act->World->Prop}{Q:Exit->Act->World->Prop}{E:Prop}(hgd:Region.wanted o (yielded ops a.tmps)=true)(s x:Operand)(tx:TypeId)
  (ho:o.op= .call {callee:= .builtin .append,args:= #[s,x],argTypes:= #[t,tx]})
  (base:Nat) (v:Value) (n:Nat) (xs:List Value) (hv:a.eval s=v) (hown:w.ownsRow base e 1 v n xs)
  (y:Value) (m:Nat) (news:List Value) (hy:a.eval x=y) (hs:Src Tryz.prog 1 tx y m news w) (hlen:(n+m)*bytes<=140737488355328) (hm:n+m<=maxLen) (hbase:base<=w.heap.size)
  (h:∀v' w',w'.ownsRow base e 1 v' (n+m) (xs++news)->w.grownBy w' v.ownBlock->Below base w w'->K (a.put o.dst v') w'):if Region.wanted o (yielded ops a.tmps)=true then Oper.wp Tryz.prog o a w K Q else E:=by
 obtain⟨ht,hinf,hz⟩:=hO;obtain⟨i0,hi,hz0,hz1,hz2⟩:=info_parts hinf
 exact C4w hgd s x t tx ho base e i0 z 1 bytes ht hi hz0 hz1 hz2 hz v n xs hv hown y m news hy hs hm hlen hbase (fun v' w' h1 h2=>h v' w' h1 h2 (B1e brz hbase hown h2))
theorem A9g{t e:TypeId}{z:Value}{bytes:Nat}(hO:C9i t e z bytes){w:World}{ops:Array Oper}{o:Oper}{a:Act}{K:Act->World->Prop}{Q:Exit->Act->World->Prop}{E:Prop}(hgd:Region.wanted o (yielded ops a.tmps)=true)(s x:Operand)
  (ho:o.op= .call {callee:= .builtin .append,args:= #[s,x],argTypes:= #[t,t]})
  (base:Nat) (v:Value) (n:Nat) (xs:List Value) (hv:a.eval s=v) (hown:w.ownsRow base e 1 v n xs)
  (C:Array Value) (m c:Nat) (hy:a.eval x= .slice (some ⟨w.heap.size,0,none⟩) m c) (hC:C.size=m) (hone:C.toList.all (·.oneCell')=true) (hlen:(n+m)*bytes<=140737488355328) (hm:n+m<=maxLen) (hbase:base<=w.heap.size)
  (h:∀v' w',w'.ownsRow base e 1 v' (n+m) (xs++C.toList)->(w.alloc (.cells C e)).grownBy w' v.ownBlock->Below base w w'->K (a.put o.dst v') w'):
  if Region.wanted o (yielded ops a.tmps)=true then Oper.wp Tryz.prog o a (w.alloc (.cells C e)) K Q else E:=
 C8b hO hgd s x t ho base v n xs hv (hown.alloc _) _ m _ hy (Src.lit (heap_alloc_last w _) hC hone hO.1) hlen hm (by simp;omega)
  (fun v' w' h1 h2 h3=>h v' w' h1 h2 ((brz.alloc hbase _).trans h3))
theorem B4a{t e:TypeId}{z:Value}{bytes:Nat}(hO:C9i t e z bytes){α:Type}{enc:α->Value}(base:Nat){w:World}(tx ty:TypeId){a:Option Addr}{n cap:Nat}{xs:List α}(hsl:Sl enc w a n xs)
  (y:Value) (m:Nat) (news:List Value) (hs:Src Tryz.prog 1 tx y m news w) (hfull:cap<n+m) (hnc:n<=cap) (hlen:(n+m)*bytes<=140737488355328) (hm:n+m<=maxLen) (hbase:base<=w.heap.size):
  ∃v' w',(Builtin.append_ #[t,tx] ty #[.slice a n cap,y]).run Tryz.prog w= .ok v' w'/\w'.ownsRow base e 1 v' (n+m) (xs.map enc++news)/\Below base w w':=by
 obtain⟨ht,hinf,hz⟩:=hO;obtain⟨i,hi,hz0,hz1,hz2⟩:=info_parts hinf;have hl:=hs.newsLen
 have hfc:(Builtin.firstCells i.size n (.slice a n cap)).run Tryz.prog w.drew= .ok (xs.map enc).toArray w.drew:=by
  rw[hz1];by_cases hn:0<n
  ·obtain⟨b,off,rfl,_,hc⟩:=hsl.2 hn;refine run_firstCells_some w.drew 1 n _ n cap _ (by simp[hsl.1]) (fun j u hu=> ?_);rw[List.getElem?_map]at hu
   have hj:j<xs.length:=by
    rcases Nat.lt_or_ge j xs.length with h|h
    ·exact h
    rw[List.getElem?_eq_none h]at hu;simp at hu
   rw[List.getElem?_eq_getElem hj]at hu;simp only[Option.map_some,Option.some.injEq]at hu;subst hu;have hadd:(⟨b,off,none⟩:Addr).add j=⟨b,off+j,none⟩:=by unfold Addr.add;split<;>simp_all
   rw[hadd];exact hc j hj
  have h0:n=0:=by omega
  subst h0;have hx:xs=[]:=List.eq_nil_of_length_eq_zero hsl.1;subst hx
  cases a with
  |none=>simp[Builtin.firstCells]
  |some ad=>exact run_firstCells_some w.drew 1 0 ad 0 cap [] rfl (fun j u hu=>by simp at hu)
 have hsmall:n+m<=9223372036854775807:=by simp only[maxLen]at hm;omega
 subst hz2;have hr:=run_append_grow_src (P:=Tryz.prog) w t tx ty e i z ht hi hz0 a n cap (xs.map enc) hfc y m news (by rw[hz1];exact hs) hfull (by omega) (growslice_fits (by omega) hlen)
 refine⟨_,_,hr,?_,?_⟩
 ·have hlen2:(xs.map enc++news).length=(n+m)*1:=by simp[hsl.1,hl]
  have hge:=grownCap_ge w (n+m) cap e;have hcm:grownCap w (n+m) cap e<=maxLen:=grownCap_le_maxLen w (n+m) cap e hm
  refine⟨hlen2,.inr ⟨w.heap.size,_,_,rfl,hbase,heap_alloc_new w.drew _,hge,hcm,?_,?_⟩⟩
  ·simp only[Array.size_append,List.size_toArray,size_zeroCells,hz,hlen2];omega
  simp only[Array.toList_append];rw[<-hlen2];exact List.take_left
 exact⟨rfl,rfl,rfl,by simp,fun k hk=>Below.heap_alloc w.drew _ k (by show k<w.heap.size;omega)⟩
theorem B4s{t e:TypeId}{z:Value}{bytes:Nat}(hO:C9i t e z bytes){α:Type}{enc:α->Value}{w:World}{ops:Array Oper}{rest:List Oper}{o:Oper}{a:Act}{Q:Exit->Act->World->Prop}(hgd:Region.wanted o (yielded ops a.tmps)=true)(s x:Operand)(tx:TypeId)
  (ho:o.op= .call {callee:= .builtin .append,args:= #[s,x],argTypes:= #[t,tx]})
  (base:Nat) (ad:Option Addr) (n cap:Nat) (xs:List α) (hv:a.eval s= .slice ad n cap) (hsl:Sl enc w ad n xs)
  (y:Value) (m:Nat) (news:List Value) (hy:a.eval x=y) (hs:Src Tryz.prog 1 tx y m news w) (hfull:cap<n+m) (hnc:n<=cap) (hlen:(n+m)*bytes<=140737488355328) (hm:n+m<=maxLen) (hbase:base<=w.heap.size)
  (h:∀v' w',w'.ownsRow base e 1 v' (n+m) (xs.map enc++news)->Below base w w'->wpList Tryz.prog ops Q rest (a.put o.dst v') w'):wpList Tryz.prog ops Q (o::rest) a w:=by
 obtain⟨v',w',hr,h2,h3⟩:=B4a hO base tx o.type hsl y m news hs hfull hnc hlen hm hbase;refine wpList_step fun K hK=> ?_
 rw[if_pos hgd];unfold Oper.wp execOp;simp only[ho,resolve,invoke,builtin,Sem.run_bind,Sem.run_pure,Result.andThen_ok,List.map_toArray,List.map_cons,List.map_nil,hv,hy,hr];exact hK _ _ (h v' w' h2 h3)
theorem A6v{t e:TypeId}{z:Value}{bytes:Nat}(hO:C9i t e z bytes){α:Type}{enc:α->Value}{w:World}{ops:Array Oper}{rest:List Oper}{o:Oper}{a:Act}{Q:Exit->Act->World->Prop}(hgd:Region.wanted o (yielded ops a.tmps)=true)(s x:Operand)
  (ho:o.op= .call {callee:= .builtin .append,args:= #[s,x],argTypes:= #[t,t]})
  (base:Nat) (ad:Option Addr) (n cap:Nat) (xs:List α) (hv:a.eval s= .slice ad n cap) (hsl:Sl enc w ad n xs)
  (C:Array Value) (m c:Nat) (hy:a.eval x= .slice (some ⟨w.heap.size,0,none⟩) m c) (hC:C.size=m) (hone:C.toList.all (·.oneCell')=true) (hfull:cap<n+m) (hnc:n<=cap) (hlen:(n+m)*bytes<=140737488355328) (hm:n+m<=maxLen) (hbase:base<=w.heap.size)
  (h:∀v' w',w'.ownsRow base e 1 v' (n+m) (xs.map enc++C.toList)->Below base w w'->wpList Tryz.prog ops Q rest (a.put o.dst v') w'):wpList Tryz.prog ops Q (o::rest) a (w.alloc (.cells C e)):=
 B4s hO hgd s x t ho base ad n cap xs hv (hsl.below (brz.alloc nlz _)) _ m _ hy (Src.lit (heap_alloc_last w _) hC hone hO.1) hfull hnc hlen hm (by simp;omega)
  (fun v' w' h1 h3=>h v' w' h1 ((brz.alloc hbase _).trans h3))
theorem A1y{w:World}{B B':Nat}{e:TypeId}{size:Nat}{v:Value}{n:Nat}{xs:List Value}(h:w.ownsRow B e size v n xs)(hB:B'<=B):w.ownsRow B' e size v n xs:=by
 obtain⟨h1,h2⟩:=h;refine⟨h1,?_⟩
 rcases h2 with h2|⟨g,cap,cur,hv,hb,hg,h3⟩
 ·exact .inl h2
 exact .inr ⟨g,cap,cur,hv,Nat.le_trans hB hb,hg,h3⟩
theorem A1z{P:Program}{fn:Func}{p u:Tmp}{ty:TypeId}(h:fn.results= #[.cell p ty,.tmp u])(tmps:Array Value)(w:World)(g:Nat)(t:TypeId)(cs:Array Value)(fr:Nat×Nat)(d:TypeDesc)
  (hp:tmps.getD p undef= .pointer (some ⟨g,0,none⟩)) (hg:w.heap[g]? =some (.cells cs t fr))
  (hu:P.underlying ty=some d) (hd:(match d with| .struct _| .array _ _=>true|_=>false)=true) (hi:(P.info? ty).map (·.size)=some cs.size):
  (results fn tmps).run P w= .ok (.tuple #[.agg cs,tmps.getD u undef]) w:=by
 rw[results_cell_tmp h,hp];simp[asAddr,run_loadVar_row w g t ty cs fr d hg hu hd hi,Result.andThen]
def Ss{α:Type}(z:Nat)(enc:α->List Value)(w:World)(a:Option Addr)(n:Nat)(xs:List α):Prop:=
 xs.length=n/\(0<n->∃b off,a=some ⟨b,off,none⟩/\b<w.heap.size/\∀i (_:i<xs.length) j,j<z->w.cell? ⟨b,off+i*z+j,none⟩=(enc xs[i])[j]?)
theorem D2c(b o k:Nat):(⟨b,o,none⟩:Addr).add k=⟨b,o+k,none⟩:=by unfold Addr.add;split<;>simp_all
theorem A0c{w w':World}(h:Below w.heap.size w w'){a:Addr}{v:Value}(hc:w.cell? a=some v):w'.cell? a=some v:=by
 have hlt:a.block<w.heap.size:=by
  unfold World.cell? at hc
  cases hb:w.heap[a.block]? with
  |none=>rw[hb]at hc;simp at hc
  |some o=>exact(Array.getElem?_eq_some_iff.1 hb).1
 rw[h.cell hlt];exact hc
section
variable {α:Type} {z:Nat} {enc:α->List Value}
theorem Ss.below{w w':World}{a:Option Addr}{n:Nat}{xs:List α}(h:Ss z enc w a n xs)(hb:Below w.heap.size w w'):Ss z enc w' a n xs:=by
 refine⟨h.1,fun hn=> ?_⟩;obtain⟨b,off,ha,hlt,hc⟩:=h.2 hn;exact⟨b,off,ha,Nat.lt_of_lt_of_le hlt hb.size,fun i hi j hj=>by rw[hb.cell (by simpa using hlt)];exact hc i hi j hj⟩
theorem Ss.nil(w:World)(a:Option Addr):Ss z enc w a 0 []:=⟨rfl,fun h=>by omega⟩
theorem A4y(hz:∀x,(enc x).length=z)(xs:List α):(xs.flatMap enc).length=xs.length*z:=by
 induction xs with
 |nil=>simp
 |cons x xs ih=>rw[List.flatMap_cons,List.length_append,hz,ih,List.length_cons,Nat.add_mul,Nat.one_mul,Nat.add_comm]
theorem B2b(hz:∀x,(enc x).length=z)(xs:List α)(i:Nat)(hi:i<xs.length)(j:Nat)(hj:j<z):(xs.flatMap enc)[i*z+j]? =(enc xs[i])[j]? :=by
 induction xs generalizing i with
 |nil=>simp at hi
 |cons x xs ih=>
  rw[List.flatMap_cons]
  cases i with
  |zero=>rw[Nat.zero_mul,Nat.zero_add,List.getElem?_append_left (by rw[hz];exact hj)];simp
  |succ i=>
  rw[List.getElem?_append_right (by rw[hz,Nat.add_mul];omega),hz,show(i+1)*z+j-z=i*z+j by rw[Nat.add_mul];omega,ih i (by simpa using hi)];simp
theorem Ss.ofOwn(hz:∀x,(enc x).length=z)(z0:0<z){w:World}{base:Nat}{e:TypeId}{v:Value}{n:Nat}{xs:List α}(h:w.ownsRow base e z v n (xs.flatMap enc)):∃a cap,v= .slice a n cap/\Ss z enc w a n xs/\n<=cap:=by
 have hl:xs.length=n:=by
  have h1:=h.1;rw[A4y hz]at h1;exact Nat.eq_of_mul_eq_mul_right z0 h1
 rcases h.2 with⟨rfl,rfl⟩|⟨g,cap,cur,rfl,hb,hg,hnc,_,_,ht⟩
 ·exact⟨none,0,rfl,⟨hl,fun h=>by omega⟩,Nat.le_refl _⟩
 refine⟨_,cap,rfl,⟨hl,fun _=>⟨g,0,rfl,(Array.getElem?_eq_some_iff.1 hg).1,fun i hi j hj=> ?_⟩⟩,hnc⟩
 have hlt:i*z+j<n*z:=by
  have:(i+1)*z<=n*z:=Nat.mul_le_mul_right _ (by omega);rw[Nat.add_mul]at this;omega
 rw[Nat.zero_add,h.cellAt (i*z+j) hlt,B2b hz xs i hi j hj]
end
def StE(t e:TypeId)(z0:Value)(z bytes:Nat):Prop:=Tryz.prog.underlying t=some (.slice e)/\(Tryz.prog.info? e).map (fun i=>(i.zero,i.size,i.bytes))=some (some z0,z,bytes)/\z0.cells.size=z
theorem C2q{t e:TypeId}{z0:Value}{z bytes:Nat}(hO:StE t e z0 z bytes){w:World}{ops:Array Oper}{rest:List Oper}{o:Oper}{a:Act}{Q:Exit->Act->World->Prop}(hgd:Region.wanted o (yielded ops a.tmps)=true)(s x:Operand)(tx:TypeId)
  (ho:o.op= .call {callee:= .builtin .append,args:= #[s,x],argTypes:= #[t,tx]})
  (base:Nat) (v:Value) (n:Nat) (xs:List Value) (hv:a.eval s=v) (hown:w.ownsRow base e z v n xs)
  (y:Value) (m:Nat) (news:List Value) (hy:a.eval x=y) (hs:Src Tryz.prog z tx y m news w) (hlen:(n+m)*bytes<=140737488355328) (hm:n+m<=maxLen) (hbase:base<=w.heap.size)
  (h:∀v' w',w'.ownsRow base e z v' (n+m) (xs++news)->w.grownBy w' v.ownBlock->Below base w w'->wpList Tryz.prog ops Q rest (a.put o.dst v') w'):wpList Tryz.prog ops Q (o::rest) a w:=by
 obtain⟨ht,hinf,hz⟩:=hO;obtain⟨i0,hi,hz0,hz1,hz2⟩:=info_parts hinf
 exact A7p hgd s x t tx ho base e i0 z0 z bytes ht hi hz0 hz1 hz2 hz v n xs hv hown y m news hy hs hm hlen hbase (fun v' w' h1 h2 _=>h v' w' h1 h2 (B1e brz hbase hown h2))
theorem Src.litS{P:Program}{w:World}{z m c:Nat}{C:Array Value}{e tx e':TypeId}(hm:C.size=m*z)(hone:C.toList.all (·.oneCell')=true)(hk:P.underlying tx=some (.slice e')):
  Src P z tx (.slice (some ⟨w.heap.size,0,none⟩) m c) m C.toList (w.alloc (.cells C e)):=by
 refine Src.ofSlice _ hk ⟨w.heap.size,0,none⟩ m c _ (by simpa using hm) (fun j u hu=> ?_) (fun u hu=>List.all_eq_true.1 hone u hu)
 rw[D2c,Nat.zero_add,cell_of_row _ w.heap.size j _ _ _ (heap_alloc_last w _)];simpa using hu
theorem A0q{t e:TypeId}{z0:Value}{z bytes:Nat}(hO:StE t e z0 z bytes){w:World}{ops:Array Oper}{rest:List Oper}{o:Oper}{a:Act}{Q:Exit->Act->World->Prop}(hgd:Region.wanted o (yielded ops a.tmps)=true)(s x:Operand)
  (ho:o.op= .call {callee:= .builtin .append,args:= #[s,x],argTypes:= #[t,t]})
  (base:Nat) (v:Value) (n:Nat) (xs:List Value) (hv:a.eval s=v) (hown:w.ownsRow base e z v n xs)
  (C:Array Value) (m c sz:Nat) (hy:a.eval x= .slice (some ⟨sz,0,none⟩) m c) (hsz:w.heap.size=sz) (hC:C.size=m*z) (hone:C.toList.all (·.oneCell')=true) (hlen:(n+m)*bytes<=140737488355328) (hm:n+m<=maxLen) (hbase:base<=w.heap.size)
  (h:∀v' w',w'.ownsRow base e z v' (n+m) (xs++C.toList)->(w.alloc (.cells C e)).grownBy w' v.ownBlock->Below base w w'->wpList Tryz.prog ops Q rest (a.put o.dst v') w'):wpList Tryz.prog ops Q (o::rest) a (w.alloc (.cells C e)):=by
 subst hsz
 exact C2q hO hgd s x t ho base v n xs hv (hown.alloc _) _ m _ hy (Src.litS hC hone hO.1) hlen hm (by simp;omega)
  (fun v' w' h1 h2 h3=>h v' w' h1 h2 ((brz.alloc hbase _).trans h3))
theorem A3b{t e:TypeId}{z:Value}{bytes:Nat}(hO:C9i t e z bytes){w:World}{ops:Array Oper}{rest:List Oper}{o:Oper}{a:Act}{Q:Exit->Act->World->Prop}(hgd:Region.wanted o (yielded ops a.tmps)=true)(s x:Operand)
  (ho:o.op= .call {callee:= .builtin .append,args:= #[s,x],argTypes:= #[t,t]})
  (base:Nat) (v:Value) (n:Nat) (xs:List Value) (hv:a.eval s=v) (hown:w.ownsRow base e 1 v n xs)
  (C:Array Value) (m c sz:Nat) (hy:a.eval x= .slice (some ⟨sz,0,none⟩) m c) (hsz:w.heap.size=sz) (hC:C.size=m) (hone:C.toList.all (·.oneCell')=true) (hlen:(n+m)*bytes<=140737488355328) (hm:n+m<=maxLen) (hbase:base<=w.heap.size)
  (h:∀v' w',w'.ownsRow base e 1 v' (n+m) (xs++C.toList)->(w.alloc (.cells C e)).grownBy w' v.ownBlock->Below base w w'->wpList Tryz.prog ops Q rest (a.put o.dst v') w'):wpList Tryz.prog ops Q (o::rest) a (w.alloc (.cells C e)):=by
 subst hsz;exact A7i hO hgd s x ho base v n xs hv hown C m c hy hC hone hlen hm hbase h
end
section
def A7x(v n:Nat):List UInt8:=(List.range n).map fun i=>UInt8.ofNat (v/256^(n-1-i)%256)
theorem A1n(v n:Nat):(A7x v n).length=n:=by simp[A7x]
theorem B9t(v n k:Nat)(h:k<n):(A7x v n).take (k+1)=(A7x v n).take k++[UInt8.ofNat (v/256^(n-1-k)%256)]:=by
 rw[List.take_succ_eq_append_getElem (by rw[A1n];exact h)];simp[A7x]
theorem B8w(x:Nat):A5f (UInt8.ofNat (x%256))= .int .u8 ((x:Int)%256):=by
 unfold A5f;rw[UInt8.toNat_ofNat_of_lt' (by show x%256<256;omega)];rw[Int.natCast_emod];rfl
def C2m(bs:List UInt8):Nat:=bs.foldl (fun v c=>v*256+c.toNat) 0
theorem D0e(bs:List UInt8)(k:Nat)(h:k<bs.length):C2m (bs.take (k+1))=C2m (bs.take k)*256+bs[k].toNat:=C8d _ _ bs k h
theorem B3m(bs:List UInt8)(c:UInt8):C2m (bs++[c])=C2m bs*256+c.toNat:=by simp[C2m]
theorem C0s(bs:List UInt8):C2m bs<256^bs.length:=by
 generalize hn:bs.length=n
 induction n generalizing bs with
 |zero=>have:bs=[]:=List.length_eq_zero_iff.1 hn;subst this;simp[C2m]
 |succ n ih=>
  have h1:bs≠[]:=by intro h;rw[h]at hn;simp at hn
  obtain⟨as',c,rfl⟩:∃as' c,bs=as'++[c]:=⟨bs.dropLast,bs.getLast h1,(List.dropLast_concat_getLast h1).symm⟩;have h2:=ih as' (by simpa using hn);rw[B3m,Nat.pow_succ];have:=c.toNat_lt
  omega
theorem B8d(bs:List UInt8)(k:Nat)(h:k<=7):C2m (bs.take k)<72057594037927936:=by
 have h1:=C0s (bs.take k);have h2:256^(bs.take k).length<=256^7:=Nat.pow_le_pow_right (by decide) (by simp;omega);omega
theorem D0u{x y:Nat}(hx:x%256=0)(hy:y<256)(h:x+y<18446744073709551616):bits .or .u64 (x:Int) (y:Int)=(x:Int)+y:=by
 rw[u64_or_nat x y (by omega) (by omega),nat_join 8 x y hx hy]
 push_cast;rfl
def B0c(bs:List UInt8)(at_ n:Int):Int×Int:=
 if n<1\/8<n then(0,1)
 else if at_<0\/(bs.length:Int)<at_\/(bs.length:Int) -at_<n then(0,6)
 else(C2m ((bs.drop at_.toNat).take n.toNat),0)
theorem C4f(v e:Nat):((v:Int)/2^(8*e))=((v/256^e:Nat):Int):=by
 rw[Int.natCast_ediv,Int.natCast_pow,Int.pow_mul];rfl
theorem C6e(v n:Nat)(h:0<n):(A7x v n).take (0+1)=[UInt8.ofNat (v/256^(n-1)%256)]:=by
 rw[B9t v n 0 h];rfl
end
section
open Go.RowKit
def A4n(P:Program)(ops:Array Oper)(Q:Exit->Act->World->Prop)(S:World->Prop)(i:Nat)(b:Bool)(K:Act->World->Prop)(a:Act)(w:World):Prop:=
 match ops[i]? with
 |none=>False
 |some o=>
  if Region.wanted o (yielded ops a.tmps)=true then
   (match b with
    |true=>∃v,(∀w',S w'->(execOp a.eval o).run P w'= .ok (.value v) w')/\S w/\K (a.put o.dst v) w
    |false=>o.wp P a w (fun a' w'=>S w'/\K a' w') Q)
  else S w/\K (a.put o.dst undef) w
def C1u(P:Program)(ops:Array Oper)(Q:Exit->Act->World->Prop)(S:World->Prop):List (Nat×Bool)->Act->World->Prop
 |[],a,w=>Q .normal a w
 |(i,b)::l,a,w=>A4n P ops Q S i b (C1u P ops Q S l) a w
def B1i(ops:Array Oper):Array Bool->List (Nat×Bool)->Bool
 |listed,[]=>(Region.ready .any ops listed).isEmpty
 |listed,(i,b)::l=>(if b then Region.free .any ops listed i&&(Region.ready .any ops listed).contains i else Region.ready .any ops listed==[i])&&B1i ops (listed.setIfInBounds i true) l
theorem D0x{P:Program}{ops:Array Oper}{Q:Exit->Act->World->Prop}{S:World->Prop}(hs:Region.noSelect ops=true)(hQ:∀c a d v w,Q (.panic c) (a.put d v) w->Q (.panic c) a w):
  ∀(l:List (Nat×Bool)) (listed:Array Bool) (a:Act) (w:World),B1i ops listed l=true->C1u P ops Q S l a w->wpAnyH P .any ops Q S l.length listed a w:=by
 intro l
 induction l with
 |nil=>
  intro listed a w hc h;exact⟨by simpa[B1i]using hc,h⟩
 |cons p l ih=>
  obtain⟨i,b⟩:=p;intro listed a w hc h;simp only[B1i,Bool.and_eq_true]at hc;obtain⟨hc1,hc2⟩:=hc;change A4n P ops Q S i b (C1u P ops Q S l) a w at h;unfold A4n at h
  cases ho:ops[i]? with
  |none=>rw[ho]at h;exact h.elim
  |some o=>
  rw[ho]at h;simp only at h
  cases b with
  |true=>
   simp only[if_true,Bool.and_eq_true]at hc1;obtain⟨hf,hr⟩:=hc1;by_cases hw:Region.wanted o (yielded ops a.tmps)=true
   ·rw[if_pos hw]at h;obtain⟨v,h1,h2,h3⟩:=h;exact wpAnyH_take ho hs hf hr (fun c a w=>hQ c a _ _ w) (.inl ⟨hw,h1⟩) h2 (ih _ _ _ hc2 h3)
   rw[if_neg hw]at h;exact wpAnyH_take ho hs hf hr (fun c a w=>hQ c a _ _ w) (.inr ⟨by simpa using hw,rfl⟩) h.1 (ih _ _ _ hc2 h.2)
  |false=>
  simp only[Bool.false_eq_true,if_false]at hc1;have hr:Region.ready .any ops listed=[i]:=by simpa using hc1
  refine wpAnyH_all hr (by simp) (fun j hj=> ?_);obtain rfl:j=i:=by simpa using hj
  unfold wpOp;rw[ho];simp only;by_cases hw:Region.wanted o (yielded ops a.tmps)=true
  ·rw[if_pos hw]at h;simp only[hw,if_true];exact .inl (Oper.wp_mono (fun a' w' h'=>⟨h'.1,ih _ _ _ hc2 h'.2⟩) h)
  rw[if_neg hw]at h;simp only[hw];exact⟨h.1,ih _ _ _ hc2 h.2⟩
theorem A6m{P:Program}{id:Nat}{ops:Array Oper}{Q:Exit->Act->World->Prop}{a:Act}{w:World}(S:World->Prop)(l:List (Nat×Bool))(hm:P.follows .mixedOrders=true)
  (hc:(Region.noSelect ops&&(l.length==ops.size)&&B1i ops (Array.replicate ops.size false) l)=true) (hQ:∀c a d v w,Q (.panic c) (a.put d v) w->Q (.panic c) a w)
  (h:C1u P ops Q S l a w.drew):(Code.region id ops true).wp P Q a w:=by
 simp only[Bool.and_eq_true,beq_iff_eq]at hc;obtain⟨⟨hs,hl⟩,hk⟩:=hc;have:=D0x (P:=P) (Q:=Q) (S:=S) hs hQ l _ a _ hk h;rw[hl]at this;exact wp_region_held hm this
theorem A2m{P:Program}{ops:Array Oper}{Q:Exit->Act->World->Prop}{S:World->Prop}{i:Nat}{b:Bool}{l:List (Nat×Bool)}{a:Act}{w:World}
  (h:∀K:Act->World->Prop,(∀a w,C1u P ops Q S l a w->K a w)->A4n P ops Q S i b K a w):C1u P ops Q S ((i,b)::l) a w:=h _ (fun _ _ h=>h)
theorem B6u{P:Program}{ops:Array Oper}{Q:Exit->Act->World->Prop}{S:World->Prop}{a:Act}{w:World}(h:Q .normal a w):C1u P ops Q S [] a w:=h
theorem D1x{P:Program}{ops:Array Oper}{Q:Exit->Act->World->Prop}{S:World->Prop}{i:Nat}{o:Oper}{K:Act->World->Prop}{a:Act}{w:World}(ho:ops[i]? =some o)(hw:Region.wanted o (yielded ops a.tmps)=true)(v:Value)
  (hv:∀w',S w'->(execOp a.eval o).run P w'= .ok (.value v) w') (hS:S w) (h:K (a.put o.dst v) w):A4n P ops Q S i true K a w:=by
 unfold A4n;rw[ho];simp only[];rw[if_pos hw];exact⟨v,hv,hS,h⟩
theorem C7f{P:Program}{ops:Array Oper}{Q:Exit->Act->World->Prop}{S:World->Prop}{i:Nat}{o:Oper}{K:Act->World->Prop}{a:Act}{w:World}(ho:ops[i]? =some o)(hw:Region.wanted o (yielded ops a.tmps)=true)
  (h:o.wp P a w (fun a' w'=>S w'/\K a' w') Q):A4n P ops Q S i false K a w:=by
 unfold A4n;rw[ho];simp only[];rw[if_pos hw];exact h
theorem D3v{P:Program}{ops:Array Oper}{Q:Exit->Act->World->Prop}{S:World->Prop}{i:Nat}{b:Bool}{o:Oper}{K:Act->World->Prop}{a:Act}{w:World}(ho:ops[i]? =some o)(hw:Region.wanted o (yielded ops a.tmps)=false)
  (hS:S w) (h:K (a.put o.dst undef) w):A4n P ops Q S i b K a w:=by
 unfold A4n;rw[ho];simp only[];rw[if_neg (by rw[hw];decide)];exact⟨hS,h⟩
end
section
open Go.ChangeShapes Go.WideShapes Go.ChangeAt Go.RowKit
theorem E1m:C9i 43 5 (.int .u8 0) 1:=⟨Tryz.underlying43,by kernel_rfl,rfl⟩
def A9r(n:Int):Prop:= -9223372036854775808<=n/\n<=9223372036854775807
theorem A2k(w:World)(n:Int):Calls Tryz.prog 174 #[.int .i64 n] w fun e w'=>e= .returned (.bool (decide (1<=n/\n<=8)))/\w=w':=by
 by_cases h1:1<=n
 ·by_cases h2:n<=8
  ·rw[decide_eq_true ⟨h1,h2⟩];go_enter Tryz.func174,Tryz.ntmps174
   go_wp2
   go_ret;exact⟨rfl,rfl⟩
  rw[decide_eq_false (by omega)];go_enter Tryz.func174,Tryz.ntmps174
  go_wp2
  go_ret;exact⟨rfl,rfl⟩
 rw[decide_eq_false (by omega)];go_enter Tryz.func174,Tryz.ntmps174
 go_wp2
 go_ret;exact⟨rfl,rfl⟩
theorem A8e(w:World)(a:Option Addr)(len cap:Nat)(bs:List UInt8)(i n:Int)(hs:Sl A5f w a len bs)(hl:len<=1048576)(hcap:len<=cap)(hi:A9r i)(hn:A9r n):
  Calls Tryz.prog 147 #[.slice a len cap,.int .i64 i,.int .i64 n] w fun e w'=>e= .returned (.tuple #[.int .u64 (B0c bs i n).1,.int .i64 (B0c bs i n).2])/\w=w':=by
 have hbl:=hs.1;have HS:=hzz hs;obtain⟨i1,i2⟩:=hi;obtain⟨n1,n2⟩:=hn;clear hs;by_cases c1:n<1\/8<n
 ·have hR:B0c bs i n=(0,1):=by unfold B0c;rw[if_pos c1]
  rw[hR];have hd:decide (1<=n/\n<=8)=false:=decide_eq_false (by omega);clear hR;go_enter Tryz.func147,Tryz.ntmps147
  go_wp2_with fail
  refine(A2k _ n).mono ?_;rw[hd];rintro e w' ⟨rfl,rfl⟩
  go_wp2
  go_ret2;exact⟨rfl,rfl⟩
 have hd:decide (1<=n/\n<=8)=true:=decide_eq_true (by omega);by_cases c2:i<0\/(len:Int)<i\/(len:Int) -i<n
 ·have hR:B0c bs i n=(0,6):=by unfold B0c;rw[if_neg c1,hbl,if_pos c2]
  rw[hR];clear hR;by_cases d1:i<0
  ·have e1:=decide_eq_true d1;go_enter Tryz.func147,Tryz.ntmps147
   go_wp2_with fail
   refine(A2k _ n).mono ?_;rw[hd];rintro e w' ⟨rfl,rfl⟩
   go_wp2
   go_ret2;exact⟨rfl,rfl⟩
  have e1:=decide_eq_false d1;by_cases d2:(len:Int)<i
  ·have e2:=decide_eq_true d2;go_enter Tryz.func147,Tryz.ntmps147
   go_wp2_with fail
   refine(A2k _ n).mono ?_;rw[hd];rintro e w' ⟨rfl,rfl⟩
   go_wp2
   go_ret2;exact⟨rfl,rfl⟩
  have e2:=decide_eq_false d2;have e3:=decide_eq_true (show(len:Int) -i<n by omega);go_enter Tryz.func147,Tryz.ntmps147
  go_wp2_with fail
  refine(A2k _ n).mono ?_;rw[hd];rintro e w' ⟨rfl,rfl⟩
  go_wp2
  go_ret2;exact⟨rfl,rfl⟩
 have hR:B0c bs i n=(((C2m ((bs.drop i.toNat).take n.toNat):Nat):Int),(0:Int)):=by unfold B0c;rw[if_neg c1,hbl,if_neg c2]
 rw[hR];clear hR;obtain⟨j,rfl⟩:∃j:Nat,i=j:=⟨i.toNat,by omega⟩;obtain⟨m,rfl⟩:∃m:Nat,n=m:=⟨n.toNat,by omega⟩;have j1:j+m<=len:=by omega
 have m1:1<=m:=by omega
 have m2:m<=8:=by omega
 clear i1 i2 n1 n2 c1 c2;simp only[Int.toNat_natCast];obtain⟨b,off,rfl,hbw,hc⟩:=HS.out.2 (by omega);have HC:=hzz hc;obtain⟨cs,hcs⟩:∃cs,cs=(bs.drop j).take m:=⟨_,rfl⟩;rw[<-hcs]
 have HCS:=hzz hcs;have hcl:cs.length=m:=by rw[hcs];simp;omega
 have HCL:=hzz hcl;clear hcs hc hcl;have e1:=decide_eq_false (show ¬(j:Int)<0 by omega);have e2:=decide_eq_false (show ¬(len:Int)<(j:Int) by omega)
 have e3:=decide_eq_false (show ¬(len:Int) -(j:Int)<(m:Int) by omega);have g1:(0:Int)<=(j:Int):=by omega
 have g2:(j:Int)<=(len:Int):=by omega
 have g3:(0:Int)<=(m:Int):=by omega
 have g4:(m:Int)<=(cap:Int) -(j:Int):=by omega
 have g5:(len:Int)<=(cap:Int):=by omega
 go_enter Tryz.func147,Tryz.ntmps147
 go_wp2_with fail
 refine(A2k _ m).mono ?_;rw[hd];rintro e w' ⟨rfl,rfl⟩
 go_wp2_with fail
 go_loopw [8,38] (fun v i wr=>∃k x:Nat,k<=m/\i= .int .i64 k/\v= .int .u64 x/\Hid (x=C2m (cs.take k))/\wr=w) (fun _ i _=>m-(intOf i).toNat)
 case atStart=>exact⟨0,0,Nat.zero_le _,rfl,rfl,rfl,rfl⟩
 obtain⟨k,x,hk,rfl,rfl,HX,rfl⟩:=hrel;by_cases hlt:k<m
 ·have hck:wr.cell? ⟨b,off+j+k,none⟩=some (.int .u8 ((cs[k]'(by rw[HCL.out];exact hlt)).toNat:Int)):=by
   have h1:=HC.out (j+k) (by omega);rw[Nat.add_assoc,h1];simp only[HCS.out,List.getElem_take,List.getElem_drop];rfl
  obtain⟨c,hcc⟩:∃c,c=(cs[k]'(by rw[HCL.out];exact hlt)).toNat:=⟨_,rfl⟩;rw[<-hcc]at hck;have hcl:c<256:=by rw[hcc];exact(cs[k]'(by rw[HCL.out];exact hlt)).toNat_lt
  have HCC:=hzz hcc;clear hcc;have hx7:x<72057594037927936:=by rw[HX.out];exact B8d _ _ (by omega)
  have hor:=D0u (x:=x*256) (y:=c) (by omega) hcl (by omega);rw[show((x*256:Nat):Int)=(x:Int)*256 by omega]at hor
  go_wp2
  go_roundw
  case rel=>exact⟨k+1,x*256+c,by omega,by go_num,by go_num,by show _=_;rw[D0e cs k (by rw[HCL.out];exact hlt),<-HX.out,<-HCC.out],trivial⟩
  simp[intOf];omega
 obtain rfl:k=m:=by omega
 go_wp2
 go_ret2;have h1:=HX.out;rw[List.take_of_length_le (by rw[HCL.out];omega)]at h1;rw[h1];exact⟨rfl,rfl⟩
theorem B3t(w:World)(a:Option Addr)(len cap:Nat)(bs:List UInt8)(v n:Nat)(hs:Sl A5f w a len bs)(hl:len<=1048576)(hcap:len<=cap)(hv:v<18446744073709551616)(n1:1<=n)(n2:n<=8):
  Calls Tryz.prog 157 #[.slice a len cap,.int .u64 v,.int .i64 n] w (D4z A5f 5 w.heap.size w (bs++A7x v n)):=by
 have HS:=hzz hs;clear hs;have hd:decide (1<=(n:Int)/\(n:Int)<=8)=true:=decide_eq_true (by omega);have g5:(len:Int)<=(cap:Int):=by omega
 go_enter Tryz.func157,Tryz.ntmps157
 go_wp2_with fail
 refine(A2k _ n).mono ?_;rw[hd];rintro e w' ⟨rfl,rfl⟩
 go_wp2_with fail
 go_loopw [0,19] (fun s i wr=>∃k:Nat,k<=n/\i= .int .i64 k/\(k=0/\s= .slice a len len\/0<k/\Hid (wr.ownsRow w.heap.size 5 1 s (len+k) ((bs++(A7x v n).take k).map A5f)))/\Hid (Below w.heap.size w wr)) (fun _ i _=>n-(intOf i).toNat)
 case atStart=>exact⟨0,Nat.zero_le _,rfl,.inl ⟨rfl,rfl⟩,brz⟩
 obtain⟨k,hk,rfl,hor,HW⟩:=hrel;by_cases hlt:k<n
 ·rcases hor with⟨rfl,rfl⟩|⟨hk0,HO⟩
  ·go_wp2_with (at_builtin;refine A6v (enc:=A5f) E1m rfl _ _ rfl w.heap.size a len len bs rfl (HS.out.below HW.out) _ 1 _ rfl rfl rfl (by omega) nlz (by omega) (by unfold maxLen;omega) HW.out.size ?_;intro v1 w1 hown1 hb1;rw[C4f]at hown1;have HO1:=hzz hown1;have HB1:=hzz (HW.out.trans hb1);clear hown1 hb1)
   go_roundw
   case rel=>exact⟨1,by omega,by go_num,.inr ⟨by omega,by rw[C6e v n (by omega),List.map_append];simp only[List.map_cons,List.map_nil,B8w];exact HO1⟩,HB1⟩
   simp[intOf];omega
  go_wp2_with (at_builtin;refine A7i E1m rfl _ _ rfl w.heap.size _ _ _ rfl HO.out _ 1 _ rfl rfl rfl (by omega) (by unfold maxLen;omega) HW.out.size ?_;intro v1 w1 hown1 hg1 hb1;rw[C4f]at hown1;have HO1:=hzz hown1;have HB1:=hzz (HW.out.trans hb1);clear hown1 hb1 hg1)
  go_roundw
  case rel=>exact⟨k+1,by omega,by go_num,.inr ⟨by omega,by rw[B9t v n k hlt,<-List.append_assoc,List.map_append (l₁:=bs++_)];simp only[List.map_cons,List.map_nil,B8w];exact HO1⟩,HB1⟩
  simp[intOf];omega
 obtain rfl:k=n:=by omega
 rcases hor with⟨rfl,rfl⟩|⟨hk0,HO⟩
 ·omega
 go_wp2
 go_ret;exact⟨_,_,rfl,by have h:=HO.out;rwa [List.take_of_length_le (by rw[A1n];omega)]at h,HW.out⟩
theorem D7c(w:World)(a:Option Addr)(len cap:Nat)(v n:Int)(hcap:len<=cap)(hn:n<1\/8<n):
  Calls Tryz.prog 157 #[.slice a len cap,.int .u64 v,.int .i64 n] w fun e w'=>e= .returned (.slice a len len)/\w=w':=by
 have hd:decide (1<=n/\n<=8)=false:=decide_eq_false (by omega);have g5:(len:Int)<=(cap:Int):=by omega
 go_enter Tryz.func157,Tryz.ntmps157
 go_wp2_with fail
 refine(A2k _ n).mono ?_;rw[hd];rintro e w' ⟨rfl,rfl⟩
 go_wp2
 go_ret;exact⟨rfl,rfl⟩
end
section
theorem B8p(v n:Nat):A7x v (n+1)=A7x (v/256) n++[UInt8.ofNat (v%256)]:=by
 unfold A7x;rw[List.range_succ,List.map_append];congr 1
 ·apply List.map_congr_left;intro i hi;have hi:=List.mem_range.1 hi;rw[show n+1-1-i=(n-1-i)+1 by omega,Nat.pow_succ,Nat.mul_comm,<-Nat.div_div_eq_div_mul]
 simp
theorem A8z(v n:Nat):C2m (A7x v n)=v%256^n:=by
 induction n generalizing v with
 |zero=>simp[A7x,C2m,Nat.mod_one]
 |succ n ih=>
  rw[B8p,B3m,ih,UInt8.toNat_ofNat_of_lt' (by show v%256<256;omega),Nat.pow_succ,Nat.mul_comm (256^n) 256,Nat.mod_mul];omega
end
section
open Go.ChangeShapes Go.WideShapes Go.ChangeAt Go.RowKit
def C2g(s:Nat×Nat×Nat):List Value:=[.int .u8 (s.1:Nat),.int .u8 (s.2.1:Nat),.int .i64 (s.2.2:Nat)]
theorem B5f(s:Nat×Nat×Nat):(C2g s).length=3:=rfl
def B0y:List (Nat×Nat×Nat):=[(0,10,1),(16,16,3),(17,17,4),(18,18,5),(20,20,6),(21,22,2),(25,25,2),(46,46,1),(50,51,1),(54,55,2),(58,58,2),(79,79,1),(83,84,1),(87,87,1),(89,89,1),(95,97,1),(100,101,1),(104,105,1),(108,109,1),(112,113,1),(116,117,1),(120,131,1),(132,132,8),(133,133,1),(136,136,1),(145,145,1),(148,148,1),(153,167,7),(172,173,1),(176,177,1),(178,182,6),(184,184,6),(187,187,6),(188,188,9),(189,189,6),(190,191,1),(192,193,6),(198,199,7)]
theorem B9h:∀s∈B0y,(s:Nat×Nat×Nat).1<=s.2.1/\s.2.1<=255/\s.2.2<=9:=by decide
def C1k(f:Nat->Nat)(s:Nat×Nat×Nat):Nat->Nat:=fun i=>if s.1<=i/\i<=s.2.1 then s.2.2 else f i
def B6r(k:Nat):Nat->Nat:=(B0y.take k).foldl C1k (fun _=>0)
def A0g(op:Nat):Nat:=B6r 38 op
theorem C5p(k:Nat)(h:k<B0y.length):B6r (k+1)=C1k (B6r k) B0y[k]:=by
 unfold B6r;rw[List.take_succ_eq_append_getElem h,List.foldl_append];rfl
theorem D2z(f:Nat->Nat)(s:Nat×Nat×Nat)(h:s.2.2<=9)(hf:∀i,f i<=9)(i:Nat):C1k f s i<=9:=by
 unfold C1k;split
 ·exact h
 exact hf i
theorem D5u(l:List (Nat×Nat×Nat))(hl:∀s∈l,(s:Nat×Nat×Nat).2.2<=9)(f:Nat->Nat)(hf:∀i,f i<=9)(i:Nat):l.foldl C1k f i<=9:=by
 induction l generalizing f with
 |nil=>exact hf i
 |cons s l ih=>exact ih (fun x hx=>hl x (List.mem_cons_of_mem _ hx)) _ (fun j=>D2z f s (hl s List.mem_cons_self) hf j)
theorem A4z(op:Nat):A0g op<=9:=by
 unfold A0g B6r;exact D5u _ (fun s hs=>(B9h s (List.mem_of_mem_take hs)).2.2) _ (fun _=>Nat.zero_le _) op
def A0w(f:Nat):Nat:=[0,1,2,2,3,2,3,3,3,2].getD f 0
def A8s(f:Nat->Nat):Array Value:=((List.range 256).map fun i=>Value.int .u8 (f i:Nat)).toArray
theorem A2x(f:Nat->Nat):(A8s f).size=256:=by simp[A8s]
theorem B0s(f:Nat->Nat)(j:Nat)(h:j<256):(A8s f)[j]? =some (.int .u8 (f j:Nat)):=by simp[A8s,h]
def D8k(f:Nat->Nat)(j x:Nat):Nat->Nat:=fun i=>if i=j then x else f i
theorem D3t(f:Nat->Nat)(j x:Nat):(A8s f).setIfInBounds j (.int .u8 (x:Nat))=A8s (D8k f j x):=by
 apply Array.ext_getElem?;intro i;rw[Array.getElem?_setIfInBounds];by_cases hi:i<256
 ·rw[B0s _ _ hi,B0s _ _ hi];unfold D8k;by_cases hk:j=i
  ·subst hk;simp[A2x,hi]
  simp only[hk,if_false];rw[if_neg (Ne.symm hk)]
 have h1:(A8s f)[i]? =none:=by simp[A2x];omega
 have h2:(A8s (D8k f j x))[i]? =none:=by simp[A2x];omega
 rw[h1,h2];split
 ·simp[A2x];omega
 rfl
theorem B6s(f:Nat->Nat):(A8s f).all (·.oneCell')=true:=by
 simp[A8s,Array.all_eq_true];intro i hi;rfl
def B8c(f:Nat->Nat)(a j x:Nat):Nat->Nat:=fun i=>if a<=i/\i<j then x else f i
theorem C1p(f:Nat->Nat)(a x:Nat):B8c f a a x=f:=by
 funext i;unfold B8c;rw[if_neg (by omega)]
theorem C5s(f:Nat->Nat)(a j x:Nat)(h:a<=j):D8k (B8c f a j x) j x=B8c f a (j+1) x:=by
 funext i;unfold D8k B8c;by_cases h1:i=j
 ·rw[if_pos h1,if_pos (by omega)]
 rw[if_neg h1];by_cases h2:a<=i/\i<j
 ·rw[if_pos h2,if_pos (by omega)]
 rw[if_neg h2,if_neg (by omega)]
theorem C9c(f:Nat->Nat)(a b x:Nat):B8c f a (b+1) x=C1k f (a,b,x):=by
 funext i;unfold B8c C1k;by_cases h:a<=i/\i<=b
 ·rw[if_pos (by omega),if_pos h]
 rw[if_neg (by omega),if_neg h]
theorem Ss.lit{α:Type}{z:Nat}{enc:α->List Value}(hz:∀x,(enc x).length=z){w:World}{g n:Nat}{xs:List α}{C:Array Value}{e:TypeId}{fr:Nat×Nat}(hg:w.heap[g]? =some (.cells C e fr))(hC:C=(xs.flatMap enc).toArray)(hn:xs.length=n):Ss z enc w (some ⟨g,0,none⟩) n xs:=by
 subst hC;refine⟨hn,fun _=>⟨g,0,rfl,(Array.getElem?_eq_some_iff.1 hg).1,fun i hi j hj=> ?_⟩⟩;rw[cell_of_row w g (0+i*z+j) _ e fr hg,Nat.zero_add];simp only[List.getElem?_toArray]
 exact B2b hz xs i hi j hj
def D2q(w:World)(e:Ending)(w':World):Prop:=e= .returned (.slice (some ⟨w.heap.size,0,none⟩) 38 38)/\Ss 3 C2g w' (some ⟨w.heap.size,0,none⟩) 38 B0y/\Below w.heap.size w w'/\w'.heap.size=w.heap.size+1
theorem D0y(w:World):Calls Tryz.prog 146 #[] w (D2q w):=by
 go_enter Tryz.func146,Tryz.ntmps146
 go_wp2_with fail
 go_ret;exact⟨rfl,Ss.lit B5f (heap_alloc_last w _) rfl rfl,brz.alloc nlz _,by simp⟩
theorem B4d{w:World}{g:Nat}{cs:Array Value}{t:TypeId}{fr:Nat×Nat}(h:w.heap[g]? =some (.cells cs t fr))(o:Nat)(v:Value):(w.setCell ⟨g,o,none⟩ v).heap[g]? =some (.cells (cs.setIfInBounds o v) t fr):=by
 unfold World.setCell;simp[Array.getElem?_modify,h]
theorem B1a{w:World}{g h:Nat}(hne:h≠g)(o:Nat)(v:Value):(w.setCell ⟨g,o,none⟩ v).heap[h]? =w.heap[h]? :=by
 unfold World.setCell;simp[Array.getElem?_modify,Ne.symm hne]
theorem B7u{w:World}{g:Nat}(o:Nat)(v:Value):(w.setCell ⟨g,o,none⟩ v).heap.size=w.heap.size:=by
 unfold World.setCell;simp
def zs8:Array Value:=Array.replicate 256 (.int .u8 0)
theorem D6p(w:World):(zeroValue 164).run Tryz.prog w= .ok (.agg zs8) w:=by kernel_rfl
theorem B0p:(Tryz.prog.info? 164).map (·.size)=some 256:=by kernel_rfl
theorem C8p:A8s (fun _=>0)=zs8:=by
 unfold A8s zs8;apply Array.ext';simp[List.map_const']
structure FW(w wr:World)(f:Nat->Nat):Prop where
 z:wr.heap[w.heap.size]? =some (.cells zs8 164)
 t:wr.heap[w.heap.size+1]? =some (.cells (A8s f) 164)
 sp:Ss 3 C2g wr (some ⟨w.heap.size+2,0,none⟩) 38 B0y
 b:Below w.heap.size w wr
theorem FW.below{w wr w':World}{f:Nat->Nat}(h:FW w wr f)(hb:Below wr.heap.size wr w'):FW w w' f:=
 ⟨by rw[hb.block _ (Array.getElem?_eq_some_iff.1 h.z).1];exact h.z,by rw[hb.block _ (Array.getElem?_eq_some_iff.1 h.t).1];exact h.t,h.sp.below hb,h.b.trans (hb.mono h.b.size)⟩
theorem FW.set{w wr:World}{f:Nat->Nat}(h:FW w wr f)(j x:Nat):FW w (wr.setCell ⟨w.heap.size+1,j,none⟩ (.int .u8 (x:Nat))) (D8k f j x):=by
 refine⟨by rw[B1a (by omega)];exact h.z,by rw[<-D3t];exact B4d h.t j _,⟨h.sp.1,fun hn=> ?_⟩,h.b.setCell (by show w.heap.size<=w.heap.size+1;omega) _⟩
 obtain⟨b,off,ha,hlt,hc⟩:=h.sp.2 hn;refine⟨b,off,ha,by rw[B7u];exact hlt,fun i hi k hk=> ?_⟩;rw[<-hc i hi k hk];simp only[Option.some.injEq,Addr.mk.injEq,and_true]at ha;unfold World.cell?
 rw[B1a (by show b≠_;omega)]
theorem FW.cell{w wr:World}{f:Nat->Nat}(h:FW w wr f)(j:Nat)(hj:j<256):wr.cell? ⟨w.heap.size+1,j,none⟩=some (.int .u8 (f j:Nat))/\wr.frozen? ⟨w.heap.size+1,j,none⟩=false:=by
 refine⟨by rw[cell_of_row wr _ j _ _ _ h.t];exact B0s f j hj,?_⟩;unfold World.frozen?;rw[h.t];simp
structure D8f(w:World)(g:Nat)(x y z:Nat):Prop where
 c0:w.cell? ⟨g,0,none⟩=some (.int .u8 (x:Nat))
 c1:w.cell? ⟨g,1,none⟩=some (.int .u8 (y:Nat))
 c2:w.cell? ⟨g,2,none⟩=some (.int .i64 (z:Nat))
theorem D8f.new(w:World)(x y z:Nat)(t:TypeId):D8f (w.alloc (.cells #[.int .u8 (x:Nat),.int .u8 (y:Nat),.int .i64 (z:Nat)] t)) w.heap.size x y z:=
 ⟨by rw[cell_of_row _ _ 0 _ _ _ (heap_alloc_last w _)];rfl,by rw[cell_of_row _ _ 1 _ _ _ (heap_alloc_last w _)];rfl,by rw[cell_of_row _ _ 2 _ _ _ (heap_alloc_last w _)];rfl⟩
theorem D8f.set{w:World}{g h:Nat}{x y z:Nat}(k:D8f w g x y z)(hne:g≠h)(o:Nat)(v:Value):D8f (w.setCell ⟨h,o,none⟩ v) g x y z:=by
 have key:∀i,(w.setCell ⟨h,o,none⟩ v).cell? ⟨g,i,none⟩=w.cell? ⟨g,i,none⟩:=fun i=>by unfold World.cell?;rw[B1a hne]
 exact⟨by rw[key];exact k.c0,by rw[key];exact k.c1,by rw[key];exact k.c2⟩
def D2b(w:World)(e:Ending)(w':World):Prop:=e= .returned (.agg (A8s A0g))/\Below w.heap.size w w'
theorem B3q(w:World):Calls Tryz.prog 98 #[] w (D2b w):=by
 have hz:=D6p;go_enter Tryz.func98,Tryz.ntmps98
 go_wp2_with fail
 clear hz;refine(D0y _).mono ?_;rintro e w1 ⟨rfl,hsp,hb1,hz1⟩;have hsz:((w.alloc (.cells zs8 164)).alloc (.cells zs8 164)).heap.size=w.heap.size+2:=by simp
 rw[hsz]at hsp
 have HF:=hzz (show FW w w1 (B6r 0)from⟨by
   rw[hb1.block _ (by simp;omega),Below.heap_alloc _ _ _ (by simp)];exact heap_alloc_last w _,by
   rw[hb1.block _ (by simp)];have:=heap_alloc_last (w.alloc (.cells zs8 164)) (.cells zs8 164);rw[show(w.alloc (.cells zs8 164)).heap.size=w.heap.size+1 by simp]at this
   rw[show B6r 0=(fun _=>0)from rfl,C8p];exact this,hsp,((brz.alloc nlz _).alloc (by simp) _).trans (hb1.mono (by simp;omega))⟩)
 clear hsp hb1 hz1 hsz
 go_wp2_with fail
 go_loopg [7] 38 (fun gn i wr=>∃k:Nat,k<=38/\gn=38-k/\i= .int .i64 k/\Hid (FW w wr (B6r k)))
 case atStart=>exact⟨0,by omega,rfl,by go_num,HF⟩
 obtain⟨k,hk,rfl,rfl,HF⟩:=hrel;by_cases hlt:k<38
 ·obtain⟨b,off,ha,_,hc⟩:=HF.out.sp.2 (by decide);simp only[Option.some.injEq,Addr.mk.injEq,and_true]at ha;obtain⟨rfl,rfl⟩:=ha;have hkl:k<B0y.length:=hlt;have q0:=hc k hkl 0 (by decide)
  have q1:=hc k hkl 1 (by decide);have q2:=hc k hkl 2 (by decide);have hok:=B9h B0y[k] (List.getElem_mem hkl);have HN:=hzz (C5p k hkl);clear hc;generalize hs:B0y[k]=s at*
  obtain⟨x,y,z⟩:=s;simp only at hok;have r0:wr.cell? ⟨w.heap.size+1+1,k*3,none⟩=some (.int .u8 (x:Nat)):=by rw[Nat.zero_add,Nat.add_zero]at q0;exact q0
  have r1:wr.cell? ⟨w.heap.size+1+1,k*3+1,none⟩=some (.int .u8 (y:Nat)):=by rw[Nat.zero_add]at q1;exact q1
  have r2:wr.cell? ⟨w.heap.size+1+1,k*3+2,none⟩=some (.int .i64 (z:Nat)):=by rw[Nat.zero_add]at q2;exact q2
  clear q0 q1 q2;clear hs;have k1:(k:Int)<38:=by omega
  go_upto_region 5 with fail
  have HS:=hzz (D8f.new wr x y z 208);have HFa:=hzz (HF.out.below (brz.alloc nlz (.cells #[.int .u8 (x:Nat),.int .u8 (y:Nat),.int .i64 (z:Nat)] 208)))
  have hg:w.heap.size+1<wr.heap.size:=by have:=(Array.getElem?_eq_some_iff.1 HF.out.t).1;omega
  clear r0 r1 r2;generalize hW:wr.alloc (.cells #[.int .u8 (x:Nat),.int .u8 (y:Nat),.int .i64 (z:Nat)] 208)=W at*;clear hW;obtain⟨p0,p1,p2⟩:=HS.out
  go_wp2_with fail
  clear p0 p1 p2;generalize wr.heap.size=g at*
  go_loopg [4] (y+1-x) (fun gn i wx=>∃j:Nat,x<=j/\j<=y+1/\gn=y+1-j/\i= .int .i64 j/\Hid (FW w wx (B8c (B6r k) x j z))/\Hid (D8f wx g x y z))
  case atStart=>exact⟨x,by omega,by omega,rfl,by go_num,hzz (by rw[C1p];exact HFa.out),HS⟩
  obtain⟨j,hj1,hj2,rfl,rfl,HW,HX⟩:=hrel;obtain⟨p0,p1,p2⟩:=HX.out;by_cases hjt:j<y+1
  ·have e1:decide ((j:Int)<=y)=true:=by simp;omega
   obtain⟨c0,f0⟩:=HW.out.cell j (by omega);have j1:(j:Int)<256:=by omega
   have z1:(z:Int)<256:=by omega
   go_wp2_with fail
   go_roundg (y+1-(j+1))
   case measure=>omega
   exact⟨j+1,by omega,by omega,rfl,by go_num,hzz (by rw[<-C5s _ _ _ _ hj1];exact HW.out.set j z),hzz (HX.out.set (by omega) j _)⟩
  have e1:decide ((j:Int)<=y)=false:=by simp;omega
  obtain rfl:j=y+1:=by omega
  go_wp2_with fail
  go_roundg (38-(k+1))
  case measure=>omega
  exact⟨k+1,by omega,rfl,by go_num,hzz (by rw[HN.out,<-C9c];exact HW.out)⟩
 obtain rfl:k=38:=by omega
 have H:=hzz HF.out.t;have H0:=hzz HF.out.z
 go_wp2_with (first
  |(refine wpList_load_row rfl _ _ rfl _ rfl _ _ _ _ H.out Tryz.underlying164 rfl (by rw[A2x];exact B0p) ?_)
  |(refine wpList_store_row rfl _ _ _ rfl _ _ rfl rfl _ _ H0.out (by rw[A2x];exact B0p) (by simp[A2x,zs8]) (B6s _) ?_))
 refine bodyPost_ret (v:= .agg (A8s A0g)) (results_cell_row rfl _ _ w.heap.size _ _ _ _ rfl (setRow_heap _ _ _ _ _ _ H0.out) Tryz.underlying164 rfl (by rw[A2x];exact B0p)) rfl ⟨rfl,below_setRow HF.out.b nlz _⟩
end
section
def C0q(v:Nat):List UInt8:=
 if 1<=v/\v<128 then [UInt8.ofNat v]
 else if v<2048 then [UInt8.ofNat (192+v/64),UInt8.ofNat (128+v%64)]
 else [UInt8.ofNat (224+v/4096),UInt8.ofNat (128+v/64%64),UInt8.ofNat (128+v%64)]
def E1h(x:UInt16):Value:= .int .u16 (x.toNat:Int)
theorem D0z{v:Nat}(h:1<=v)(h':v<128):(C0q v).map A5f=[.int .u8 (v:Int)]:=by
 unfold C0q;rw[if_pos ⟨h,h'⟩];simp only[List.map_cons,List.map_nil];rw[B2c (by omega) (by omega)];rfl
theorem D0t{v:Nat}(h:¬(1<=v/\v<128))(h':v<2048):(C0q v).map A5f=[.int .u8 (192+(v:Int)/64),.int .u8 (128+(v:Int)%64)]:=by
 unfold C0q;rw[if_neg h,if_pos h'];simp only[List.map_cons,List.map_nil];rw[B2c (by omega) (by omega),B2c (by omega) (by omega)];rfl
theorem C2c{v:Nat}(h':¬v<2048)(h:v<65536):(C0q v).map A5f=[.int .u8 (224+(v:Int)/4096),.int .u8 (128+(v:Int)/64%64),.int .u8 (128+(v:Int)%64)]:=by
 unfold C0q;rw[if_neg (by omega),if_neg h'];simp only[List.map_cons,List.map_nil];rw[B2c (by omega) (by omega),B2c (by omega) (by omega),B2c (by omega) (by omega)];rfl
def A6y(bs:List UInt8)(i:Nat):Nat×Bool:=
 match bs[i]? with
 |some c=>if c.toNat/64=2 then(c.toNat%64,true)else(0,false)
 |none=>(0,false)
theorem B3c(bs:List UInt8)(i:Nat):(A6y bs i).1<64:=by
 unfold A6y;split
 ·split
  ·exact Nat.mod_lt _ (by decide)
  decide
 decide
def A3n(c:Nat)(x:Nat)(one:Bool)(y:Nat)(both:Bool):Nat×Nat:=
 if c≠0/\c<128 then(c,1)
 else if c/32=6/\one=true then(if c%32*64+x=0\/128<=c%32*64+x then(c%32*64+x,2)else(0,0))
 else if c/16=14/\one=true/\both=true then(if 2048<=c%16*4096+x*64+y then(c%16*4096+x*64+y,3)else(0,0))
 else(0,0)
def B1u(bs:List UInt8):Nat×Nat:=A3n ((bs[0]?).getD 0).toNat (A6y bs 1).1 (A6y bs 1).2 (A6y bs 2).1 (A6y bs 2).2
theorem B4q{x y:Nat}(i:Nat)(hx:x%2^i=0)(hy:y<2^i)(h:x+y<65536):bits .or .u16 (x:Int) (y:Int)=(x:Int)+y:=by
 rw[u16_or_nat x y (by omega) (by omega),nat_join i x y hx hy]
 push_cast;rfl
def A8p:Nat->List UInt8->Option (List UInt16)
 |_,[]=>some []
 |0,_=>none
 |f+1,c::t=>if(B1u (c::t)).2=0 then none else(A8p f ((c::t).drop (B1u (c::t)).2)).map (UInt16.ofNat (B1u (c::t)).1::·)
def A4m(bs:List UInt8):Option (List UInt16):=A8p bs.length bs
theorem B6m{bs:List UInt8}{i:Nat}(h:(A6y bs i).2=true):i<bs.length:=by
 unfold A6y at h;split at h
 ·rename_i c hc
  exact(gsz hc).1
 simp at h
theorem D1w{bs:List UInt8}(h:bs≠[]):(B1u bs).2<=bs.length/\(B1u bs).1<65536:=by
 have hl:0<bs.length:=List.length_pos_iff.2 h;have hx:=B3c bs 1;have hy:=B3c bs 2;have hc:=(bs[0]?.getD 0).toNat_lt;unfold B1u A3n;split
 ·exact⟨hl,by simp only;omega⟩
 split
 ·rename_i h1
  have:=B6m h1.2;split
  ·exact⟨this,by simp only;omega⟩
  exact⟨by simp,by simp⟩
 split
 ·rename_i h1
  have:=B6m h1.2.2;split
  ·exact⟨this,by simp only;omega⟩
  exact⟨by simp,by simp⟩
 exact⟨by simp,by simp⟩
theorem B9j{f:Nat}{bs:List UInt8}(hf:bs.length<=f+1)(h:bs≠[]):A8p (f+1) bs=if(B1u bs).2=0 then none else(A8p f (bs.drop (B1u bs).2)).map (UInt16.ofNat (B1u bs).1::·):=by
 cases bs with
 |nil=>exact absurd rfl h
 |cons c t=>rw[A8p]
end
section
open Go.ChangeShapes Go.WideShapes Go.ChangeAt Go.RowKit
def U64(n:Int):Prop:=0<=n/\n<18446744073709551616
def A2q(v n:Int):Int:=if n<1\/8<n then 0 else(v+2^(8*n.toNat-1))%2^(8*n.toNat) -2^(8*n.toNat-1)
theorem B3w(v n:Int)(h:n<1\/8<n):A2q v n=0:=by unfold A2q;rw[if_pos h]
theorem D5h(v:Int):A2q v 8=wrap64 v:=by unfold wrap64;rfl
theorem D5w(w:World)(v n:Int)(hv:U64 v)(hn:A9r n):Calls Tryz.prog 114 #[.int .u64 v,.int .i64 n] w fun e w'=>e= .returned (.int .i64 (A2q v n))/\w=w':=by
 obtain⟨v1,v2⟩:=hv;by_cases c1:n<1
 ·rw[B3w v n (.inl c1)];have e1:=decide_eq_true c1;go_enter Tryz.func114,Tryz.ntmps114
  go_wp2
  go_ret;exact⟨rfl,rfl⟩
 by_cases c2:8<n
 ·rw[B3w v n (.inr c2)];have e1:=decide_eq_false c1;have e2:=decide_eq_true c2;go_enter Tryz.func114,Tryz.ntmps114
  go_wp2
  go_ret;exact⟨rfl,rfl⟩
 have hc:n=8\/n=1\/n=2\/n=3\/n=4\/n=5\/n=6\/n=7:=by omega
 clear c1 c2 hn
 rcases hc with rfl|hc
 ·rw[D5h];go_enter Tryz.func114,Tryz.ntmps114
  go_wp2
  go_ret;exact⟨rfl,rfl⟩
 have hmod:∀p:Int,v.tmod p=v%p:=fun p=>Int.tmod_eq_emod_of_nonneg v1
 rcases hc with rfl|rfl|rfl|rfl|rfl|rfl|rfl
 ·rw[show A2q v 1=(v+128)%256-128 from rfl];have hm:=hmod 256;clear hmod;by_cases hh:v%256<128
  ·go_enter Tryz.func114,Tryz.ntmps114
   go_wp2
   go_ret;exact⟨A2n (by omega),rfl⟩
  go_enter Tryz.func114,Tryz.ntmps114
  go_wp2
  go_ret;exact⟨A2n (by omega),rfl⟩
 ·rw[show A2q v 2=(v+32768)%65536-32768 from rfl];have hm:=hmod 65536;clear hmod;by_cases hh:v%65536<32768
  ·go_enter Tryz.func114,Tryz.ntmps114
   go_wp2
   go_ret;exact⟨A2n (by omega),rfl⟩
  go_enter Tryz.func114,Tryz.ntmps114
  go_wp2
  go_ret;exact⟨A2n (by omega),rfl⟩
 ·rw[show A2q v 3=(v+8388608)%16777216-8388608 from rfl];have hm:=hmod 16777216;clear hmod;by_cases hh:v%16777216<8388608
  ·go_enter Tryz.func114,Tryz.ntmps114
   go_wp2
   go_ret;exact⟨A2n (by omega),rfl⟩
  go_enter Tryz.func114,Tryz.ntmps114
  go_wp2
  go_ret;exact⟨A2n (by omega),rfl⟩
 ·rw[show A2q v 4=(v+2147483648)%4294967296-2147483648 from rfl];have hm:=hmod 4294967296;clear hmod;by_cases hh:v%4294967296<2147483648
  ·go_enter Tryz.func114,Tryz.ntmps114
   go_wp2
   go_ret;exact⟨A2n (by omega),rfl⟩
  go_enter Tryz.func114,Tryz.ntmps114
  go_wp2
  go_ret;exact⟨A2n (by omega),rfl⟩
 ·rw[show A2q v 5=(v+549755813888)%1099511627776-549755813888 from rfl];have hm:=hmod 1099511627776;clear hmod;by_cases hh:v%1099511627776<549755813888
  ·go_enter Tryz.func114,Tryz.ntmps114
   go_wp2
   go_ret;exact⟨A2n (by omega),rfl⟩
  go_enter Tryz.func114,Tryz.ntmps114
  go_wp2
  go_ret;exact⟨A2n (by omega),rfl⟩
 ·rw[show A2q v 6=(v+140737488355328)%281474976710656-140737488355328 from rfl];have hm:=hmod 281474976710656;clear hmod;by_cases hh:v%281474976710656<140737488355328
  ·go_enter Tryz.func114,Tryz.ntmps114
   go_wp2
   go_ret;exact⟨A2n (by omega),rfl⟩
  go_enter Tryz.func114,Tryz.ntmps114
  go_wp2
  go_ret;exact⟨A2n (by omega),rfl⟩
 rw[show A2q v 7=(v+36028797018963968)%72057594037927936-36028797018963968 from rfl];have hm:=hmod 72057594037927936;clear hmod;by_cases hh:v%72057594037927936<36028797018963968
 ·go_enter Tryz.func114,Tryz.ntmps114
  go_wp2
  go_ret;exact⟨A2n (by omega),rfl⟩
 go_enter Tryz.func114,Tryz.ntmps114
 go_wp2
 go_ret;exact⟨A2n (by omega),rfl⟩
theorem B3h(w:World)(v n:Int)(hv:U64 v)(hn:A9r n):Calls Tryz.prog 148 #[.int .u64 v,.int .i64 n] w fun e w'=>e= .returned (.int .i64 (A2q v n))/\w=w':=by
 obtain⟨v1,v2⟩:=hv;by_cases c1:n<1\/8<n
 ·rw[B3w v n c1];have hd:decide (1<=n/\n<=8)=false:=decide_eq_false (by omega);clear c1;go_enter Tryz.func148,Tryz.ntmps148
  go_wp2_with fail
  refine(A2k _ n).mono ?_;rw[hd];rintro e w' ⟨rfl,rfl⟩
  go_wp2
  go_ret;exact⟨rfl,rfl⟩
 have hc:n=1\/n=2\/n=3\/n=4\/n=5\/n=6\/n=7\/n=8:=by omega
 clear c1 hn
 rcases hc with rfl|rfl|rfl|rfl|rfl|rfl|rfl|rfl
 ·rw[show A2q v 1=(v+128)%256-128 from rfl];go_enter Tryz.func148,Tryz.ntmps148
  go_wp2_with fail
  refine(A2k _ 1).mono ?_;rw[show decide ((1:Int)<=1/\(1:Int)<=8)=true from rfl];rintro e w' ⟨rfl,rfl⟩
  go_wp2
  go_ret;exact⟨A2n (by simp only[IntKind.wrap_u64,wrap64]<;>omega),rfl⟩
 ·rw[show A2q v 2=(v+32768)%65536-32768 from rfl];go_enter Tryz.func148,Tryz.ntmps148
  go_wp2_with fail
  refine(A2k _ 2).mono ?_;rw[show decide ((1:Int)<=2/\(2:Int)<=8)=true from rfl];rintro e w' ⟨rfl,rfl⟩
  go_wp2
  go_ret;exact⟨A2n (by simp only[IntKind.wrap_u64,wrap64]<;>omega),rfl⟩
 ·rw[show A2q v 3=(v+8388608)%16777216-8388608 from rfl];go_enter Tryz.func148,Tryz.ntmps148
  go_wp2_with fail
  refine(A2k _ 3).mono ?_;rw[show decide ((1:Int)<=3/\(3:Int)<=8)=true from rfl];rintro e w' ⟨rfl,rfl⟩
  go_wp2
  go_ret;exact⟨A2n (by simp only[IntKind.wrap_u64,wrap64]<;>omega),rfl⟩
 ·rw[show A2q v 4=(v+2147483648)%4294967296-2147483648 from rfl];go_enter Tryz.func148,Tryz.ntmps148
  go_wp2_with fail
  refine(A2k _ 4).mono ?_;rw[show decide ((1:Int)<=4/\(4:Int)<=8)=true from rfl];rintro e w' ⟨rfl,rfl⟩
  go_wp2
  go_ret;exact⟨A2n (by simp only[IntKind.wrap_u64,wrap64]<;>omega),rfl⟩
 ·rw[show A2q v 5=(v+549755813888)%1099511627776-549755813888 from rfl];go_enter Tryz.func148,Tryz.ntmps148
  go_wp2_with fail
  refine(A2k _ 5).mono ?_;rw[show decide ((1:Int)<=5/\(5:Int)<=8)=true from rfl];rintro e w' ⟨rfl,rfl⟩
  go_wp2
  go_ret;exact⟨A2n (by simp only[IntKind.wrap_u64,wrap64]<;>omega),rfl⟩
 ·rw[show A2q v 6=(v+140737488355328)%281474976710656-140737488355328 from rfl];go_enter Tryz.func148,Tryz.ntmps148
  go_wp2_with fail
  refine(A2k _ 6).mono ?_;rw[show decide ((1:Int)<=6/\(6:Int)<=8)=true from rfl];rintro e w' ⟨rfl,rfl⟩
  go_wp2
  go_ret;exact⟨A2n (by simp only[IntKind.wrap_u64,wrap64]<;>omega),rfl⟩
 ·rw[show A2q v 7=(v+36028797018963968)%72057594037927936-36028797018963968 from rfl];go_enter Tryz.func148,Tryz.ntmps148
  go_wp2_with fail
  refine(A2k _ 7).mono ?_;rw[show decide ((1:Int)<=7/\(7:Int)<=8)=true from rfl];rintro e w' ⟨rfl,rfl⟩
  go_wp2
  go_ret;exact⟨A2n (by simp only[IntKind.wrap_u64,wrap64]<;>omega),rfl⟩
 rw[show A2q v 8=(v+9223372036854775808)%18446744073709551616-9223372036854775808 from rfl];go_enter Tryz.func148,Tryz.ntmps148
 go_wp2_with fail
 refine(A2k _ 8).mono ?_;rw[show decide ((1:Int)<=8/\(8:Int)<=8)=true from rfl];rintro e w' ⟨rfl,rfl⟩
 go_wp2
 go_ret;exact⟨A2n (by simp only[IntKind.wrap_u64,wrap64]<;>omega),rfl⟩
end
section
open Go.RowKit
theorem A6r{P:Program}{md:Region.Mode}{ops:Array Oper}{Q:Exit->Act->World->Prop}{S S':World->Prop}(hS:∀x,S' x->S x):
  ∀(fuel:Nat) (listed:Array Bool) (a:Act) (w:World),wpAnyH P md ops Q S' fuel listed a w->wpAnyH P md ops Q S fuel listed a w
 |0,_,_,_,h=>h
 |fuel+1,_,_,_,h=>⟨h.1,fun i hi=>wpOp_mono (fun a' w' h'=>⟨hS _ h'.1,A6r hS fuel _ a' w' h'.2⟩) (h.2 i hi)⟩
end
section
open Go.ChangeShapes Go.WideShapes Go.ChangeAt Go.RowKit
structure KV where
 tag:Int
 a:Int
 b:Int
 n:Int
 s:List UInt8
def KV.cells(c:KV):List Value:=[.int .i64 c.tag,.int .i64 c.a,.int .i64 c.b,.int .i64 c.n,.string ⟨c.s.toArray⟩]
theorem KV.cells_length(c:KV):c.cells.length=5:=rfl
def kz:KV:=⟨0,0,0,0,[]⟩
def kAt(l:List KV)(i:Int):KV:=l.getD i.toNat kz
def isT(l:List KV)(i t:Int):Bool:=decide (1<=i/\i<l.length/\(kAt l i).tag=t)
def A1c(l:List KV)(i:Int):List UInt8:=if isT l i 1 then(kAt l i).s else []
def A0s(l:List KV)(i:Int):List UInt8×Bool:=if isT l i 7 then(A1c l (kAt l i).a,isT l (kAt l i).a 1)else([],false)
def A1i(l:List KV)(i t:Int):List UInt8×List UInt8×List UInt8×Bool:=
 if(t=9\/t=10)/\isT l i t=true/\isT l (kAt l i).b 12=true/\(A0s l (kAt l i).a).2=true/\isT l (kAt l (kAt l i).b).a 1=true/\isT l (kAt l (kAt l i).b).b 1=true then
  ((A0s l (kAt l i).a).1,A1c l (kAt l (kAt l i).b).a,A1c l (kAt l (kAt l i).b).b,true)
 else([],[],[],false)
def A4r(c:KV):Bool:=
 (decide (c.tag=1)||c.s.isEmpty)&&(decide (c.tag=5)||decide (c.n=0)||decide (c.tag=3/\-2147483648<=c.n/\c.n<=2147483647))&&
 (decide (c.tag=9\/c.tag=10\/c.tag=12)||decide (c.b=0))&&(decide (c.tag=9\/c.tag=10\/c.tag=12\/c.tag=7\/c.tag=8)||decide (c.a=0))
def A2d(l:List KV)(i:Nat):Bool:=
 let c:=kAt l i
 if c.tag=0 then i==0||decide ((kAt l ((i:Int) -1)).tag=5)
 else if c.tag=1 then(A4m c.s).isSome&&decide (c.s.length<=65535)
 else if c.tag=3 then true
 else if c.tag=5 then decide (i+1<l.length)&&decide ((kAt l ((i:Int)+1)).tag=0)
 else if c.tag=12 then isT l c.a 1&&isT l c.b 1
 else if c.tag=7\/c.tag=8 then isT l c.a 1
 else if c.tag=9\/c.tag=10 then isT l c.a 7&&isT l c.b 12
 else false
def A8y(l:List KV)(i:Nat):Bool:=A4r (kAt l i)&&A2d l i
def A6f(l:List KV):Bool:=decide (1<=l.length)&&decide (l.length<=1024)&&decide ((kAt l 0).tag=0)&&(List.range l.length).all (A8y l)
def Ks(w:World)(a:Option Addr)(n:Nat)(L:List KV):Prop:=Ss 5 KV.cells w a n L
structure KAt(w:World)(b o:Nat)(c:KV):Prop where
 c0:w.cell? ⟨b,o,none⟩=some (.int .i64 c.tag)
 c1:w.cell? ⟨b,o+1,none⟩=some (.int .i64 c.a)
 c2:w.cell? ⟨b,o+2,none⟩=some (.int .i64 c.b)
 c3:w.cell? ⟨b,o+3,none⟩=some (.int .i64 c.n)
 c4:w.cell? ⟨b,o+4,none⟩=some (.string ⟨c.s.toArray⟩)
theorem Ks.below{w w':World}{a:Option Addr}{n:Nat}{L:List KV}(h:Ks w a n L)(hb:Below w.heap.size w w'):Ks w' a n L:=Ss.below h hb
theorem Ks.at{w:World}{a:Option Addr}{n:Nat}{L:List KV}(h:Ks w a n L)(i:Nat)(hi:i<n):∃b off,a=some ⟨b,off,none⟩/\b<w.heap.size/\KAt w b (off+i*5) (kAt L i):=by
 obtain⟨b,off,ha,hlt,hc⟩:=h.2 (by omega);have hl:i<L.length:=by rw[h.1];exact hi
 have hk:kAt L i=L[i]:=by unfold kAt;simp[List.getD,hl]
 refine⟨b,off,ha,hlt,?_⟩;rw[hk];exact⟨hc i hl 0 (by omega),hc i hl 1 (by omega),hc i hl 2 (by omega),hc i hl 3 (by omega),hc i hl 4 (by omega)⟩
theorem D7f{L:List KV}{i t:Int}(h:i<1):isT L i t=false:=by unfold isT;rw[decide_eq_false];omega
theorem D3s{L:List KV}{i t:Int}(h:(L.length:Int)<=i):isT L i t=false:=by unfold isT;rw[decide_eq_false];omega
theorem D9r{L:List KV}{i t:Int}(h0:1<=i)(h1:i<L.length):isT L i t=decide ((kAt L i).tag=t):=by
 unfold isT;by_cases h:(kAt L i).tag=t
 ·rw[decide_eq_true h,decide_eq_true ⟨h0,h1,h⟩]
 rw[decide_eq_false h,decide_eq_false fun x=>h x.2.2]
theorem B0z{L:List KV}{i t:Int}(h:isT L i t=true):1<=i/\i<L.length/\(kAt L i).tag=t:=of_decide_eq_true h
theorem A8t(w:World)(a:Option Addr)(n cap:Nat)(L:List KV)(i t:Int)(hs:Ks w a n L)(hn:n<=65536):
  Calls Tryz.prog 93 #[.slice a n cap,.int .i64 i,.int .i64 t] w fun e w'=>e= .returned (.bool (isT L i t))/\w=w':=by
 by_cases h1:i<1
 ·rw[D7f h1];have h0:decide (0<i)=false:=by simp;omega
  clear hs;go_enter Tryz.func93,Tryz.ntmps93
  go_wp2_with fail
  go_ret;exact⟨rfl,rfl⟩
 by_cases h2:(n:Int)<=i
 ·rw[D3s (by rw[hs.1];exact h2)];have h0:decide (0<i)=true:=by simp;omega
  have h3:decide (i<(n:Int))=false:=by simp;omega
  clear hs;go_enter Tryz.func93,Tryz.ntmps93
  go_wp2_with fail
  go_ret;exact⟨rfl,rfl⟩
 obtain⟨k,rfl⟩:∃k:Nat,i=k:=⟨i.toNat,by omega⟩;rw[D9r (by omega) (by rw[hs.1];omega)];obtain⟨b,off,rfl,_,hk⟩:=hs.at k (by omega);have g0:=hk.c0;have k0:0<k:=by omega
 have k1:k<n:=by omega
 obtain⟨t0,ht0⟩:∃t0,t0=(kAt L k).tag:=⟨_,rfl⟩;rw[<-ht0]at g0⊢;clear hk hs h1 h2 ht0;by_cases ht:t0=t
 ·subst ht;have e1:(t0==t0)=true:=by simp
  go_enter Tryz.func93,Tryz.ntmps93
  go_wp2_with fail
  go_ret;exact⟨by simp,rfl⟩
 have e1:(t0==t)=false:=by simp[ht]
 rw[decide_eq_false ht];clear ht;go_enter Tryz.func93,Tryz.ntmps93
 go_wp2_with fail
 go_ret;exact⟨rfl,rfl⟩
end
section
open Go.ChangeShapes Go.WideShapes Go.ChangeAt Go.RowKit Go.Joins Go.Deep
section
variable {H:Type} {enc:TypeId×Value->H} {w:World} {r:Reach} {b0:Nat} {v:Value} {d:DataW H} {p:List MemPlace}
theorem D8s{fuel:Nat}{v:Value}{x:DataW H×List MemPlace}(hf:DataW.trod enc Tryz.prog w 0 (fun _=>true) true fuel 43 [v]=some x):∃a n cap z,v= .slice a n cap/\D3a .u8 w a n cap z:=by
 rcases open_ints Tryz.underlying43 Tryz.underlying5 (by kernel_rfl) hf with⟨hcs,_⟩|⟨x,l,c,zs,hcs,_,hl,hm,hz,_,hcell,hwz⟩
 ·simp at hcs;exact⟨none,0,0,[],hcs,.inl ⟨rfl,rfl,rfl,rfl⟩⟩
 simp at hcs;exact⟨_,_,_,zs,hcs,.inr ⟨_,rfl,hl,hm,by simpa using hz,hcell,hwz⟩⟩
theorem open_bytes(hv:Value.okWide Tryz.prog w r b0 43 v)(h:DataW.Trod enc Tryz.prog w 0 (fun _=>true) true 43 v d p):∃a n cap z,v= .slice a n cap/\D3a .u8 w a n cap z:=by
 obtain⟨a,n,cap,rfl⟩:=okWide_slice Tryz.underlying43 hv;obtain⟨fuel,hf⟩:=h;exact D8s (by simpa[Value.cells]using hf)
end
end
end Go.Proofs.YtclpkipaehpkdaaGreatDoor
