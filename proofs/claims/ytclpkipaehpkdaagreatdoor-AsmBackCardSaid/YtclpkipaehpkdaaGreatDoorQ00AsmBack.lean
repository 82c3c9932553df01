/- asm -/
import Derived.Test.YtclpkipaehpkdaaGreatDoorRows
import Derived.WalkKit
import Derived.ProofKit
import Derived.OpenShut
import Derived.ShutString
import Derived.ChangeOld
import Derived.Below
import Derived.Lib.Hide
import Derived.Deep.WholeRow
import Derived.Laws.CopyOwn
import Derived.Deep.AppendSrc
import Derived.Lib.SlBytesConst
import Derived.Deep.QuietTactic
import Derived.BigQuiet
import Derived.Deep.RegionLaw
import Derived.Deep.DrawnRows
import Derived.Lib.ConvBytes
import Derived.OrdersHeld
import Derived.Deep.LoopGhost
import Derived.Deep.DeepCutAuto
set_option linter.unusedVariables false
set_option linter.unusedSimpArgs false
set_option maxRecDepth 100000
set_option maxHeartbeats 64000000
open Go.Proofs.Tryz
namespace Go.Proofs.YtclpkipaehpkdaaGreatDoor
section
open Go.ChangeShapes Go.WideShapes Go.ChangeAt Go.RowKit
theorem D6g{α β:Type}(f:β->α->β)(b:β)(xs:List α)(k:Nat)(h:k<xs.length):(xs.take (k+1)).foldl f b=f ((xs.take k).foldl f b) xs[k]:=by
 rw[List.take_succ_eq_append_getElem h,List.foldl_append];rfl
theorem wN{k:IntKind}{a b:Int}(h:a=b):Ending.returned (.int k a)= .returned (.int k b):=by rw[h]
theorem jY{P:Program}{ops:Array Oper}{rest:List Oper}{o:Oper}{a:Act}{w:World}{Q:Exit->Act->World->Prop}(XF:o.guard=none)(ty:TypeId)(x y:Operand)(ho:o.op= .store ty x y)
  (cells:Array Value) (hx:a.eval x= .pointer (some ⟨w.heap.size,0,none⟩)) (hy:a.eval y= .agg cells) (t:TypeId) (old:Array Value) (hi:(P.info? ty).map (·.size)=some cells.size)
  (hold:old.size=cells.size) (h1:cells.all (·.oneCell')=true) (h:wpList P ops Q rest (a.put o.dst undef) (w.alloc (.cells cells t))):wpList P ops Q (o::rest) a (w.alloc (.cells old t)):=
 wpList_store_row XF ty x y ho w.heap.size cells hx hy t old (heap_alloc_last w _) hi hold h1 (by rw[World.setRow_alloc_new];exact h)
theorem dT{P:Program}{w:World}(t tx ty e:TypeId)(i:TypeInfo)(ht:P.underlying t=some (.slice e))(hi:P.info? e=some i)
  (g sLen sCap:Nat) (cur:Array Value) (hg:w.heap[g]? =some (.cells cur e (0,0))) (x:Value) (m:Nat) (news:List Value) (hs:Src P i.size tx x m news w)
  (TL:sLen+m<=sCap) (XU:sLen*i.size+news.length<=cur.size):
  (Builtin.append_ #[t,tx] ty #[.slice (some ⟨g,0,none⟩) sLen sCap,x]).run P w=
   .ok (.slice (some ⟨g,0,none⟩) (sLen+m) sCap) (w.setRow g (cur.toList.take (sLen*i.size)++news++cur.toList.drop (sLen*i.size+news.length)).toArray):=by
 have P6:=run_storeCells_at P g (sLen*i.size) e news 0 cur w hg (by simpa using XU) hs.one;simp only[Nat.add_zero]at P6
 rcases hs.kind with⟨e',hk⟩|hk<;>simp[Builtin.append_,run_underlying ht,run_underlying hk,sizeOf,typeInfo,hi,hs.len,TL,hs.cells,Addr.add_lit,P6]
theorem dS{P:Program}{w:World}(t tx ty e:TypeId)(i:TypeInfo)(ht:P.underlying t=some (.slice e))(hi:P.info? e=some i)(x:Value)(news:List Value)(hs:Src P i.size tx x 0 news w):
  (Builtin.append_ #[t,tx] ty #[.slice none 0 0,x]).run P w= .ok (.slice none 0 0) w:=by
 have hc:=hs.cells
 rcases hs.kind with⟨e',hk⟩|hk<;>simp[Builtin.append_,run_underlying ht,run_underlying hk,sizeOf,typeInfo,hi,hs.len,hc]
theorem j8{P:Program}{w:World}(base:Nat)(t tx ty e:TypeId)(i:TypeInfo)(z:Value)(size bytes:Nat)(ht:P.underlying t=some (.slice e))(hi:P.info? e=some i)(hz:i.zero=some z)
  (TM:i.size=size) (Kq:i.bytes=bytes) (Kf:z.cells.size=size) (v:Value) (n:Nat) (xs:List Value) (Zk:w.ownsRow base e size v n xs)
  (x:Value) (m:Nat) (news:List Value) (hs:Src P size tx x m news w) (Mq:n+m<=maxLen) (Wq:(n+m)*bytes<=140737488355328) (Zw:base<=w.heap.size):
  ∃v' w',(Builtin.append_ #[t,tx] ty #[v,x]).run P w= .ok v' w'/\w'.ownsRow base e size v' (n+m) (xs++news)/\w.grownBy w' v.ownBlock/\(v'= .slice none 0 0↔v= .slice none 0 0/\m=0):=by
 subst TM;subst Kq;have Nr:n+m<=9223372036854775807:=by simp only[maxLen]at Mq;omega
 have hl:=hs.newsLen;have ZR:(xs++news).length=(n+m)*i.size:=by rw[List.length_append,Zk.1,hl,Nat.add_mul]
 have grown:∀(old:Nat),old<n+m->∀(row:Option Nat),
   (w.drew.alloc (.cells ((xs++news).toArray++Builtin.zeroCells z.cells (grownCap w (n+m) old e-(n+m))) e)).ownsRow base e i.size
    (.slice (some ⟨w.heap.size,0,none⟩) (n+m) (grownCap w (n+m) old e)) (n+m) (xs++news)/\
   w.grownBy (w.drew.alloc (.cells ((xs++news).toArray++Builtin.zeroCells z.cells (grownCap w (n+m) old e-(n+m))) e)) row:=by
  intro old ho row;have FS:=grownCap_ge w (n+m) old e;have Kt:grownCap w (n+m) old e<=maxLen:=grownCap_le_maxLen w (n+m) old e Mq;refine⟨⟨ZR,.inr ⟨w.heap.size,_,_,rfl,Zw,heap_alloc_new w.drew _,FS,Kt,?_,?_⟩⟩,⟨rfl,rfl,rfl,by simp,fun k hk _=>Below.heap_alloc w.drew _ k hk⟩⟩
  ·simp only[Array.size_append,List.size_toArray,size_zeroCells,Kf,ZR,<-Nat.add_mul];congr 1;omega
  ·simp only[Array.toList_append];rw[<-ZR];exact List.take_left
 rcases Zk.2 with⟨rfl,rfl⟩|⟨g,cap,cur,rfl,WS,hg,Px,Kt,WN,htake⟩
 ·have hx:xs=[]:=List.eq_nil_of_length_eq_zero (by simpa using Zk.1);subst hx;by_cases hm:m=0
  ·subst hm;have hn:news=[]:=List.eq_nil_of_length_eq_zero (by simpa using hl);subst hn;exact⟨.slice none 0 0,w,dS t tx ty e i ht hi x [] hs,World.ownsRow_nil w base e i.size,⟨rfl,rfl,rfl,Nat.le_refl _,fun _ _ _=>rfl⟩,by simp⟩
  have hr:=run_append_grow_src (P:=P) w t tx ty e i z ht hi hz none 0 0 [] (by simp[Builtin.firstCells]) x m news hs (by omega) (by omega) (growslice_fits (by omega) Wq);have MT:=grown 0 (by omega) (Value.ownBlock (.slice none 0 0));exact⟨_,_,hr,MT.1,MT.2,by simp[hm]⟩
 by_cases TL:n+m<=cap
 ·have XU:n*i.size+news.length<=cur.size:=by rw[hl,WN,<-Nat.add_mul];exact Nat.mul_le_mul_right _ TL
  have hr:=dT (P:=P) t tx ty e i ht hi g n cap cur hg x m news hs TL XU;refine⟨_,_,hr,⟨ZR,.inr ⟨g,cap,_,rfl,WS,setRow_heap w g cur _ e _ hg,TL,Kt,?_,?_⟩⟩,⟨rfl,rfl,rfl,by simp,fun k _ hk=>setRow_other w g k _ (fun e=>hk (by simp[Value.ownBlock,e]))⟩,by simp⟩
  ·simp only[List.size_toArray,List.length_append,List.length_take,List.length_drop,Array.length_toList];omega
  rw[htake,<-ZR];exact List.take_left
 have holds:∀j u,xs[j]? =some u->w.drew.cell? ((⟨g,0,none⟩:Addr).add j)=some u:=Zk.cells (g:=g) rfl;have hr:=run_append_grow_src (P:=P) w t tx ty e i z ht hi hz (some ⟨g,0,none⟩) n cap xs (run_firstCells_some w.drew i.size n ⟨g,0,none⟩ n cap xs Zk.1 holds) x m news hs (by omega) (by omega) (growslice_fits (by omega) Wq);have MT:=grown cap (by omega) (Value.ownBlock (.slice (some ⟨g,0,none⟩) n cap));exact⟨_,_,hr,MT.1,MT.2,by simp⟩
theorem jZ{P:Program}{w:World}{ops:Array Oper}{rest:List Oper}{o:Oper}{a:Act}{Q:Exit->Act->World->Prop}(XF:Region.wanted o (yielded ops a.tmps)=true)(s x:Operand)(t tx:TypeId)
  (ho:o.op= .call {callee:= .builtin .append,args:= #[s,x],argTypes:= #[t,tx]})
  (base:Nat) (e:TypeId) (i:TypeInfo) (z:Value) (size bytes:Nat) (ht:P.underlying t=some (.slice e)) (hi:P.info? e=some i) (hz:i.zero=some z)
  (TM:i.size=size) (Kq:i.bytes=bytes) (Kf:z.cells.size=size) (v:Value) (n:Nat) (xs:List Value) (hv:a.eval s=v) (Zk:w.ownsRow base e size v n xs)
  (y:Value) (m:Nat) (news:List Value) (hy:a.eval x=y) (hs:Src P size tx y m news w) (Mq:n+m<=maxLen) (Wq:(n+m)*bytes<=140737488355328) (Zw:base<=w.heap.size)
  (h:∀v' w',w'.ownsRow base e size v' (n+m) (xs++news)->w.grownBy w' v.ownBlock->(v'= .slice none 0 0↔v= .slice none 0 0/\m=0)->wpList P ops Q rest (a.put o.dst v') w'):wpList P ops Q (o::rest) a w:=by
 obtain⟨v',w',hr,h2,h3,h4⟩:=j8 (P:=P) (w:=w) base t tx o.type e i z size bytes ht hi hz TM Kq Kf v n xs Zk y m news hs Mq Wq Zw;refine wpList_step fun K hK=> ?_
 rw[if_pos XF];unfold Oper.wp execOp;simp only[ho,resolve,invoke,builtin,Sem.run_bind,Sem.run_pure,Result.andThen_ok,List.map_toArray,List.map_cons,List.map_nil,hv,hy,hr];exact hK _ _ (h v' w' h2 h3 h4)
def yp(x:UInt8):Value:= .int .u8 (x.toNat:Int)
theorem pk{B:Nat}{w0 w w':World}{e:TypeId}{size:Nat}{v:Value}{n:Nat}{xs:List Value}(hb:Below B w0 w)(hB:B<=w.heap.size)(Zk:w.ownsRow B e size v n xs)(hg:w.grownBy w' v.ownBlock):Below B w0 w':=
 hb.grown hg hB (fun k hk=>(Zk.lt k hk).1)
end
section
open Go.RowKit
def E{n:Nat}(v:BitVec n):Int:=(v.toNat:Int)
theorem Z'{p:Prop}(h:p):Hid p:=h
theorem Z9(p:Prop)(h:p):Hid p:=h
theorem Z8{α:Sort _}(a:α):∃x,x=a:=⟨a,rfl⟩
theorem Z7{w w1 w2:World}(h:Hid (Below w.heap.size w w1))(k:Below w1.heap.size w1 w2):Hid (Below w.heap.size w w2):=h.out.trans (k.mono h.out.size)
theorem Z6{B:Nat}{w:World}:Below B w w:=Below.refl _ _
theorem Z5{n:Nat}:n<=n:=Nat.le_refl _
theorem Z4{α:Type _}{l:List α}{i:Nat}{a:α}(h:l[i]? =some a):∃h:i<l.length,l[i]=a:=List.getElem?_eq_some_iff.1 h
end
section
open Go.ChangeShapes Go.WideShapes Go.ChangeAt Go.RowKit
def Sl{α:Type}(enc:α->Value)(w:World)(a:Option Addr)(n:Nat)(xs:List α):Prop:=
 xs.length=n/\(0<n->∃b off,a=some ⟨b,off,none⟩/\b<w.heap.size/\∀i (h:i<xs.length),w.cell? ⟨b,off+i,none⟩=some (enc xs[i]))
section
variable {α:Type} {enc:α->Value}
theorem Sl.below{w w':World}{a:Option Addr}{n:Nat}{xs:List α}(h:Sl enc w a n xs)(hb:Below w.heap.size w w'):Sl enc w' a n xs:=by
 refine⟨h.1,fun hn=> ?_⟩;obtain⟨b,off,ha,ZX,hc⟩:=h.2 hn;exact⟨b,off,ha,Nat.lt_of_lt_of_le ZX hb.size,fun i hi=>by rw[hb.cell (by simpa using ZX)];exact hc i hi⟩
theorem Sl.nil(w:World)(a:Option Addr):Sl enc w a 0 []:=⟨rfl,fun h=>by omega⟩
theorem Sl.ofOwn{w:World}{base:Nat}{e:TypeId}{v:Value}{n:Nat}{xs:List α}(h:w.ownsRow base e 1 v n (xs.map enc)):∃a cap,v= .slice a n cap/\Sl enc w a n xs/\n<=cap:=by
 have hl:xs.length=n:=by have:=h.1;simpa using this
 rcases h.2 with⟨rfl,rfl⟩|⟨g,cap,cur,rfl,hb,hg,Px,_,_,ht⟩
 ·exact⟨none,0,rfl,⟨hl,fun h=>by omega⟩,Nat.le_refl _⟩
 refine⟨_,cap,rfl,⟨hl,fun _=>⟨g,0,rfl,(Array.getElem?_eq_some_iff.1 hg).1,fun i hi=> ?_⟩⟩,Px⟩;have:=h.cells (g:=g) rfl i (enc xs[i]) (by rw[List.getElem?_map,List.getElem?_eq_getElem hi];rfl);have S1:(⟨g,0,none⟩:Addr).add i=⟨g,0+i,none⟩:=by unfold Addr.add;split<;>simp_all
 rw[S1]at this;exact this
theorem Sl.drop{w:World}{a:Option Addr}{n j:Nat}{xs:List α}(h:Sl enc w a n xs)(hj:j<n):∃b off,a=some ⟨b,off,none⟩/\Sl enc w (some ⟨b,off+j,none⟩) (n-j) (xs.drop j):=by
 obtain⟨b,off,ha,ZX,hc⟩:=h.2 (by omega);refine⟨b,off,ha,⟨by simp[h.1],fun _=>⟨b,off+j,rfl,ZX,fun i hi=> ?_⟩⟩⟩;have:=hc (j+i) (by simp at hi;omega);rw[Nat.add_assoc,this];simp
theorem Sl.take{w:World}{a:Option Addr}{n j:Nat}{xs:List α}(h:Sl enc w a n xs)(hj:j<=n):Sl enc w a j (xs.take j):=by
 refine⟨by simp[h.1];omega,fun hn=> ?_⟩;obtain⟨b,off,ha,ZX,hc⟩:=h.2 (by omega);refine⟨b,off,ha,ZX,fun i hi=> ?_⟩;rw[hc i (by simp at hi;omega)];simp
theorem Sl.src{P:Program}(h1:∀x:α,(enc x).oneCell'=true){w:World}{a:Option Addr}{n:Nat}{xs:List α}(h:Sl enc w a n xs){tx e':TypeId}(hk:P.underlying tx=some (.slice e'))(cap:Nat):Src P 1 tx (.slice a n cap) n (xs.map enc) w:=by
 obtain⟨hl,hc⟩:=h
 have XE:∀u∈xs.map enc,u.oneCell'=true:=by
  intro u hu;obtain⟨_,_,rfl⟩:=List.mem_map.1 hu;exact h1 _
 by_cases hn:0<n
 ·obtain⟨b,off,rfl,_,Rb⟩:=hc hn;refine Src.ofSlice w hk ⟨b,off,none⟩ n cap _ (by simp[hl]) (fun j u hu=> ?_) XE;rw[List.getElem?_map]at hu
  have hj:j<xs.length:=by
   rcases Nat.lt_or_ge j xs.length with h|h
   ·exact h
   rw[List.getElem?_eq_none h]at hu;simp at hu
  rw[List.getElem?_eq_getElem hj]at hu;simp only[Option.map_some,Option.some.injEq]at hu;subst hu;have S1:(⟨b,off,none⟩:Addr).add j=⟨b,off+j,none⟩:=by unfold Addr.add;split<;>simp_all
  rw[S1];exact Rb j hj
 have h0:n=0:=by omega
 subst h0;have hb:xs=[]:=List.eq_nil_of_length_eq_zero hl;subst hb
 cases a with
 |none=>exact Src.ofNil w hk cap
 |some ad=>exact Src.ofSlice w hk ad 0 cap [] rfl (fun j u hu=>by simp at hu) (fun u hu=>by cases hu)
end
theorem re{e:Int}(h0:0<=e)(h1:e<256):Value.int .u8 e=yp (UInt8.ofNat e.toNat):=by
 unfold yp;rw[UInt8.toNat_ofNat_of_lt' (by show e.toNat<256;omega)];congr 1;omega
theorem gW{w:World}{ops:Array Oper}{o:Oper}{a:Act}{K:Act->World->Prop}{Q:Exit->Act->World->Prop}{E:Prop}(XF:Region.wanted o (yielded ops a.tmps)=true)(s x:Operand)(t tx:TypeId)
  (ho:o.op= .call {callee:= .builtin .append,args:= #[s,x],argTypes:= #[t,tx]})
  (base:Nat) (e:TypeId) (i:TypeInfo) (z:Value) (size bytes:Nat) (ht:prog.underlying t=some (.slice e)) (hi:prog.info? e=some i) (hz:i.zero=some z)
  (TM:i.size=size) (Kq:i.bytes=bytes) (Kf:z.cells.size=size) (v:Value) (n:Nat) (xs:List Value) (hv:a.eval s=v) (Zk:w.ownsRow base e size v n xs)
  (y:Value) (m:Nat) (news:List Value) (hy:a.eval x=y) (hs:Src prog size tx y m news w) (Mq:n+m<=maxLen) (Wq:(n+m)*bytes<=140737488355328) (Zw:base<=w.heap.size)
  (h:∀v' w',w'.ownsRow base e size v' (n+m) (xs++news)->w.grownBy w' v.ownBlock->K (a.put o.dst v') w'):if Region.wanted o (yielded ops a.tmps)=true then Oper.wp prog o a w K Q else E:=by
 obtain⟨v',w',hr,h2,h3,_⟩:=j8 (P:=prog) (w:=w) base t tx o.type e i z size bytes ht hi hz TM Kq Kf v n xs Zk y m news hs Mq Wq Zw;rw[if_pos XF];unfold Oper.wp execOp;simp only[ho,resolve,invoke,builtin,Sem.run_bind,Sem.run_pure,Result.andThen_ok,List.map_toArray,List.map_cons,List.map_nil,hv,hy,hr];exact h v' w' h2 h3
def tM(t e:TypeId)(z:Value)(bytes:Nat):Prop:=prog.underlying t=some (.slice e)/\(prog.info? e).map (fun i=>(i.zero,i.size,i.bytes))=some (some z,1,bytes)/\z.cells.size=1
theorem Src.lit{P:Program}{w:World}{g m c:Nat}{C:Array Value}{e tx e':TypeId}{fr:Nat×Nat}(hg:w.heap[g]? =some (.cells C e fr))(hm:C.size=m)(XE:C.toList.all (·.oneCell')=true)(hk:P.underlying tx=some (.slice e')):
  Src P 1 tx (.slice (some ⟨g,0,none⟩) m c) m C.toList w:=by
 refine Src.ofSlice w hk ⟨g,0,none⟩ m c _ (by simp[hm]) (fun j u hu=> ?_) (fun u hu=>List.all_eq_true.1 XE u hu);have S1:(⟨g,0,none⟩:Addr).add j=⟨g,j,none⟩:=by unfold Addr.add;split<;>simp_all
 rw[S1,cell_of_row w g j _ e fr hg];simpa using hu
theorem bP{t e:TypeId}{z:Value}{bytes:Nat}(hO:tM t e z bytes){w:World}{ops:Array Oper}{rest:List Oper}{o:Oper}{a:Act}{Q:Exit->Act->World->Prop}(XF:Region.wanted o (yielded ops a.tmps)=true)(s x:Operand)(tx:TypeId)
  (ho:o.op= .call {callee:= .builtin .append,args:= #[s,x],argTypes:= #[t,tx]})
  (base:Nat) (v:Value) (n:Nat) (xs:List Value) (hv:a.eval s=v) (Zk:w.ownsRow base e 1 v n xs)
  (y:Value) (m:Nat) (news:List Value) (hy:a.eval x=y) (hs:Src prog 1 tx y m news w) (ZR:(n+m)*bytes<=140737488355328) (hm:n+m<=maxLen) (Zw:base<=w.heap.size)
  (h:∀v' w',w'.ownsRow base e 1 v' (n+m) (xs++news)->w.grownBy w' v.ownBlock->Below base w w'->wpList prog ops Q rest (a.put o.dst v') w'):wpList prog ops Q (o::rest) a w:=by
 obtain⟨ht,Uj,hz⟩:=hO;obtain⟨i0,hi,RQ,Wi,U9⟩:=info_parts Uj;exact jZ XF s x t tx ho base e i0 z 1 bytes ht hi RQ Wi U9 hz v n xs hv Zk y m news hy hs hm ZR Zw (fun v' w' h1 h2 _=>h v' w' h1 h2 (pk Z6 Zw Zk h2))
theorem pQ{t e:TypeId}{z:Value}{bytes:Nat}(hO:tM t e z bytes){w:World}{ops:Array Oper}{rest:List Oper}{o:Oper}{a:Act}{Q:Exit->Act->World->Prop}(XF:Region.wanted o (yielded ops a.tmps)=true)(s x:Operand)
  (ho:o.op= .call {callee:= .builtin .append,args:= #[s,x],argTypes:= #[t,t]})
  (base:Nat) (v:Value) (n:Nat) (xs:List Value) (hv:a.eval s=v) (Zk:w.ownsRow base e 1 v n xs)
  (C:Array Value) (m c:Nat) (hy:a.eval x= .slice (some ⟨w.heap.size,0,none⟩) m c) (hC:C.size=m) (XE:C.toList.all (·.oneCell')=true) (ZR:(n+m)*bytes<=140737488355328) (hm:n+m<=maxLen) (Zw:base<=w.heap.size)
  (h:∀v' w',w'.ownsRow base e 1 v' (n+m) (xs++C.toList)->(w.alloc (.cells C e)).grownBy w' v.ownBlock->Below base w w'->wpList prog ops Q rest (a.put o.dst v') w'):wpList prog ops Q (o::rest) a (w.alloc (.cells C e)):=
 bP hO XF s x t ho base v n xs hv (Zk.alloc _) _ m _ hy (Src.lit (heap_alloc_last w _) hC XE hO.1) ZR hm (by simp;omega)
  (fun v' w' h1 h2 h3=>h v' w' h1 h2 ((Z6.alloc Zw _).trans h3))
def eG{α:Type}(enc:α->Value)(e:TypeId)(B:Nat)(w:World)(xs:List α)(en:Ending)(w':World):Prop:=
 ∃v n,en= .returned v/\w'.ownsRow B e 1 v n (xs.map enc)/\Below B w w'
theorem wE{w w':World}{base:Nat}{e:TypeId}{size:Nat}{v:Value}{n:Nat}{xs:List Value}(h:w.ownsRow base e size v n xs)(hb:Below w.heap.size w w'):w'.ownsRow base e size v n xs:=
 h.kept (row:=none) ⟨hb.os,hb.tape,hb.output,hb.size,fun k hk _=>hb.block k hk⟩ (by by_cases h:v.ownBlock=none;exact .inl h;exact .inr h)
theorem iH{t e:TypeId}{z:Value}{bytes:Nat}(hO:tM t e z bytes){w:World}{ops:Array Oper}{o:Oper}{a:Act}{K:Act->World->Prop}{Q:Exit->Act->World->Prop}{E:Prop}(XF:Region.wanted o (yielded ops a.tmps)=true)(s x:Operand)(tx:TypeId)
  (ho:o.op= .call {callee:= .builtin .append,args:= #[s,x],argTypes:= #[t,tx]})
  (base:Nat) (v:Value) (n:Nat) (xs:List Value) (hv:a.eval s=v) (Zk:w.ownsRow base e 1 v n xs)
  (y:Value) (m:Nat) (news:List Value) (hy:a.eval x=y) (hs:Src prog 1 tx y m news w) (ZR:(n+m)*bytes<=140737488355328) (hm:n+m<=maxLen) (Zw:base<=w.heap.size)
  (h:∀v' w',w'.ownsRow base e 1 v' (n+m) (xs++news)->w.grownBy w' v.ownBlock->Below base w w'->K (a.put o.dst v') w'):if Region.wanted o (yielded ops a.tmps)=true then Oper.wp prog o a w K Q else E:=by
 obtain⟨ht,Uj,hz⟩:=hO;obtain⟨i0,hi,RQ,Wi,U9⟩:=info_parts Uj;exact gW XF s x t tx ho base e i0 z 1 bytes ht hi RQ Wi U9 hz v n xs hv Zk y m news hy hs hm ZR Zw (fun v' w' h1 h2=>h v' w' h1 h2 (pk Z6 Zw Zk h2))
theorem nj{t e:TypeId}{z:Value}{bytes:Nat}(hO:tM t e z bytes){w:World}{ops:Array Oper}{o:Oper}{a:Act}{K:Act->World->Prop}{Q:Exit->Act->World->Prop}{E:Prop}(XF:Region.wanted o (yielded ops a.tmps)=true)(s x:Operand)
  (ho:o.op= .call {callee:= .builtin .append,args:= #[s,x],argTypes:= #[t,t]})
  (base:Nat) (v:Value) (n:Nat) (xs:List Value) (hv:a.eval s=v) (Zk:w.ownsRow base e 1 v n xs)
  (C:Array Value) (m c:Nat) (hy:a.eval x= .slice (some ⟨w.heap.size,0,none⟩) m c) (hC:C.size=m) (XE:C.toList.all (·.oneCell')=true) (ZR:(n+m)*bytes<=140737488355328) (hm:n+m<=maxLen) (Zw:base<=w.heap.size)
  (h:∀v' w',w'.ownsRow base e 1 v' (n+m) (xs++C.toList)->(w.alloc (.cells C e)).grownBy w' v.ownBlock->Below base w w'->K (a.put o.dst v') w'):
  if Region.wanted o (yielded ops a.tmps)=true then Oper.wp prog o a (w.alloc (.cells C e)) K Q else E:=
 iH hO XF s x t ho base v n xs hv (Zk.alloc _) _ m _ hy (Src.lit (heap_alloc_last w _) hC XE hO.1) ZR hm (by simp;omega)
  (fun v' w' h1 h2 h3=>h v' w' h1 h2 ((Z6.alloc Zw _).trans h3))
theorem E5s{B:Nat}{a w:World}(h:Below B a w)(n:Nat):Below B a (w.drewN n):=⟨h.os,h.tape,h.output,h.size,h.block⟩
theorem gG{w:World}{a:Option Addr}{n:Nat}{bs:List UInt8}(h:Sl yp w a n bs)(cap:Nat):(convert 43 9 (.slice a n cap)).run prog w= .ok (.string ⟨bs.toArray⟩) w:=by
 by_cases hn:0<n
 ·obtain⟨b,off,rfl,ZX,hc⟩:=h.2 hn
  have h1:=run_convert_bytes_arg (P:=prog) w 43 5 underlying43 underlying5 b off n cap (bs.map fun x=>(x.toNat:Int)) (by simp[h.1])
   (fun i hi=>by
    have hl:i<bs.length:=by rw[h.1];exact hi
    rw[hc i hl];simp[List.getD,hl,yp]) 9 underlying9
  rw[h1];congr 2;unfold strOfNums;congr 2;rw[List.map_map];exact(List.map_congr_left (fun x _=>by simp)).trans (List.map_id bs)
 have h0:n=0:=by omega
 subst h0;have hb:bs=[]:=List.eq_nil_of_length_eq_zero h.1;subst hb;rw[run_convert_bytes_string w 43 9 5 a 0 cap underlying43 underlying5 underlying9]
 cases a with
 |none=>simp[Conv.bytesToString];rfl
 |some ad=>rw[run_bytesToString w ad 0 cap [] (by simp[loadCells,loadCellsFrom])];rfl
end
section
def uX(v:Nat):List UInt8:=
 if 1<=v/\v<128 then [UInt8.ofNat v]
 else if v<2048 then [UInt8.ofNat (192+v/64),UInt8.ofNat (128+v%64)]
 else [UInt8.ofNat (224+v/4096),UInt8.ofNat (128+v/64%64),UInt8.ofNat (128+v%64)]
def rY(x:UInt16):Value:= .int .u16 (x.toNat:Int)
theorem D3h{v:Nat}(h:1<=v)(h':v<128):(uX v).map yp=[.int .u8 (v:Int)]:=by
 unfold uX;rw[if_pos ⟨h,h'⟩];simp only[List.map_cons,List.map_nil];rw[re (by omega) (by omega)];rfl
theorem D2p{v:Nat}(h:¬(1<=v/\v<128))(h':v<2048):(uX v).map yp=[.int .u8 (192+(v:Int)/64),.int .u8 (128+(v:Int)%64)]:=by
 unfold uX;rw[if_neg h,if_pos h'];simp only[List.map_cons,List.map_nil];rw[re (by omega) (by omega),re (by omega) (by omega)];rfl
theorem cQ{v:Nat}(h':¬v<2048)(h:v<65536):(uX v).map yp=[.int .u8 (224+(v:Int)/4096),.int .u8 (128+(v:Int)/64%64),.int .u8 (128+(v:Int)%64)]:=by
 unfold uX;rw[if_neg (by omega),if_neg h'];simp only[List.map_cons,List.map_nil];rw[re (by omega) (by omega),re (by omega) (by omega),re (by omega) (by omega)];rfl
def wj(bs:List UInt8)(i:Nat):Nat×Bool:=
 match bs[i]? with
 |some c=>if c.toNat/64=2 then(c.toNat%64,true)else(0,false)
 |none=>(0,false)
theorem nT(bs:List UInt8)(i:Nat):(wj bs i).1<64:=by
 unfold wj;split
 ·split
  ·exact Nat.mod_lt _ (by decide)
  decide
 decide
def xr(c:Nat)(x:Nat)(one:Bool)(y:Nat)(both:Bool):Nat×Nat:=
 if c≠0/\c<128 then(c,1)
 else if c/32=6/\one=true then(if c%32*64+x=0\/128<=c%32*64+x then(c%32*64+x,2)else(0,0))
 else if c/16=14/\one=true/\both=true then(if 2048<=c%16*4096+x*64+y then(c%16*4096+x*64+y,3)else(0,0))
 else(0,0)
def vT(bs:List UInt8):Nat×Nat:=xr ((bs[0]?).getD 0).toNat (wj bs 1).1 (wj bs 1).2 (wj bs 2).1 (wj bs 2).2
theorem mM{x y:Nat}(i:Nat)(hx:x%2^i=0)(hy:y<2^i)(h:x+y<65536):bits .or .u16 (x:Int) (y:Int)=(x:Int)+y:=by
 rw[u16_or_nat x y (by omega) (by omega),nat_join i x y hx hy]
 push_cast;rfl
def ug:Nat->List UInt8->Option (List UInt16)
 |_,[]=>some []
 |0,_=>none
 |f+1,c::t=>if(vT (c::t)).2=0 then none else(ug f ((c::t).drop (vT (c::t)).2)).map (UInt16.ofNat (vT (c::t)).1::·)
def wn(bs:List UInt8):Option (List UInt16):=ug bs.length bs
theorem py{bs:List UInt8}{i:Nat}(h:(wj bs i).2=true):i<bs.length:=by
 unfold wj at h;split at h
 ·rename_i c hc
  exact(Z4 hc).1
 simp at h
theorem D7a{bs:List UInt8}(h:bs≠[]):(vT bs).2<=bs.length/\(vT bs).1<65536:=by
 have hl:0<bs.length:=List.length_pos_iff.2 h;have hx:=nT bs 1;have hy:=nT bs 2;have hc:=(bs[0]?.getD 0).toNat_lt;unfold vT xr;split
 ·exact⟨hl,by simp only;omega⟩
 split
 ·rename_i h1
  have:=py h1.2;split
  ·exact⟨this,by simp only;omega⟩
  exact⟨by simp,by simp⟩
 split
 ·rename_i h1
  have:=py h1.2.2;split
  ·exact⟨this,by simp only;omega⟩
  exact⟨by simp,by simp⟩
 exact⟨by simp,by simp⟩
theorem jP{f:Nat}{bs:List UInt8}(hf:bs.length<=f+1)(h:bs≠[]):ug (f+1) bs=if(vT bs).2=0 then none else(ug f (bs.drop (vT bs).2)).map (UInt16.ofNat (vT bs).1::·):=by
 cases bs with
 |nil=>exact absurd rfl h
 |cons c t=>rw[ug]
def tF(c:Nat)(l:Nat)(x y:Nat):Int×Nat:=
 if 192<=c/\c<224/\1<l then(((c:Int) -192)*64+x-128,2)
 else if 224<=c/\c<240/\2<l then(((c:Int) -224)*4096+((x:Int) -128)*64+y-128,3)
 else(c,1)
def vA(bs:List UInt8):Int×Nat:=tF (bs[0]?.getD 0).toNat bs.length (bs[1]?.getD 0).toNat (bs[2]?.getD 0).toNat
theorem qW{n:Nat}{c:UInt8}(h:n<256):UInt8.ofNat n=c↔n=c.toNat:=by
 constructor
 ·intro e;rw[<-e,UInt8.toNat_ofNat_of_lt' h]
 intro e;rw[e];simp
theorem gH{v:Nat}(hv:v<65536)(c:UInt8):uX v=[c]↔1<=v/\v<128/\v=c.toNat:=by
 unfold uX;split
 ·rename_i h;rw[List.cons.injEq,qW (by omega)];simp;omega
 rename_i h;split<;>simp<;>omega
theorem gP{v:Nat}(hv:v<65536)(c x:UInt8):uX v=[c,x]↔¬(1<=v/\v<128)/\v<2048/\192+v/64=c.toNat/\128+v%64=x.toNat:=by
 unfold uX;split
 ·rename_i h;simp;omega
 rename_i h
 split
 ·rename_i h2;rw[List.cons.injEq,List.cons.injEq,qW (by omega),qW (by omega)];simp;omega
 rename_i h2;simp;omega
theorem gj{v:Nat}(hv:v<65536)(c x y:UInt8):uX v=[c,x,y]↔2048<=v/\224+v/4096=c.toNat/\128+v/64%64=x.toNat/\128+v%64=y.toNat:=by
 unfold uX;split
 ·rename_i h;simp;omega
 rename_i h
 split
 ·rename_i h2;simp;omega
 rename_i h2;rw[List.cons.injEq,List.cons.injEq,List.cons.injEq,qW (by omega),qW (by omega),qW (by omega)];simp;omega
theorem mq(bs:List UInt8)(i:Nat)(c:UInt8)(h:bs[i]? =some c):wj bs i=if c.toNat/64=2 then(c.toNat%64,true)else(0,false):=by
 unfold wj;rw[h]
theorem D9m(bs:List UInt8)(h:bs≠[]):
  (0<=(vA bs).1/\(vA bs).1<=65535/\uX (vA bs).1.toNat=bs.take (vA bs).2->vT bs=((vA bs).1.toNat,(vA bs).2))/\
  (¬(0<=(vA bs).1/\(vA bs).1<=65535/\uX (vA bs).1.toNat=bs.take (vA bs).2)->(vT bs).2=0):=by
 rcases bs with _|⟨c,t⟩
 ·exact absurd rfl h
 have hc:=c.toNat_lt;by_cases c2:192<=c.toNat/\c.toNat<224/\1<(c::t).length
 ·rcases t with _|⟨x,t⟩
  ·simp at c2
  have hx:=x.toNat_lt
  have e1:vA (c::x::t)=(((c.toNat:Int) -192)*64+x.toNat-128,2):=by
   show tF c.toNat (c::x::t).length x.toNat _=_;unfold tF;rw[if_pos c2]
  have e2:vT (c::x::t)=if x.toNat/64=2 then(if c.toNat%32*64+x.toNat%64=0\/128<=c.toNat%32*64+x.toNat%64 then(c.toNat%32*64+x.toNat%64,2)else(0,0))else(0,0):=by
   unfold vT;rw[mq (c::x::t) 1 x rfl];show xr c.toNat _ _ _ _=_;by_cases h1:x.toNat/64=2
   ·rw[if_pos h1,if_pos h1];unfold xr;rw[if_neg (by omega),if_pos ⟨by omega,rfl⟩]
   rw[if_neg h1,if_neg h1];unfold xr;rw[if_neg (by omega),if_neg (by simp),if_neg (by simp)]
  rw[e1,e2];simp only[List.take_succ_cons,List.take_zero];refine⟨fun⟨p1,p2,p3⟩=> ?_,fun hP=> ?_⟩
  ·have q:=(gP (by omega) c x).1 p3;rw[if_pos (by omega),if_pos (by omega)];simp;omega
  by_cases h1:x.toNat/64=2
  ·rw[if_pos h1];by_cases h2:c.toNat%32*64+x.toNat%64=0\/128<=c.toNat%32*64+x.toNat%64
   ·exact(hP ⟨by omega,by omega,(gP (by omega) c x).2 (by omega)⟩).elim
   rw[if_neg h2]
  rw[if_neg h1]
 by_cases c3:224<=c.toNat/\c.toNat<240/\2<(c::t).length
 ·rcases t with _|⟨x,_|⟨y,t⟩⟩
  ·simp at c3
  ·simp at c3
  have hx:=x.toNat_lt;have hy:=y.toNat_lt
  have e1:vA (c::x::y::t)=(((c.toNat:Int) -224)*4096+((x.toNat:Int) -128)*64+y.toNat-128,3):=by
   show tF c.toNat (c::x::y::t).length x.toNat y.toNat=_;unfold tF;rw[if_neg c2,if_pos c3]
  have e2:vT (c::x::y::t)=if x.toNat/64=2/\y.toNat/64=2 then(if 2048<=c.toNat%16*4096+x.toNat%64*64+y.toNat%64 then(c.toNat%16*4096+x.toNat%64*64+y.toNat%64,3)else(0,0))else(0,0):=by
   unfold vT;rw[mq (c::x::y::t) 1 x rfl,mq (c::x::y::t) 2 y rfl];show xr c.toNat _ _ _ _=_;by_cases h1:x.toNat/64=2
   ·by_cases h2:y.toNat/64=2
    ·rw[if_pos h1,if_pos h2,if_pos ⟨h1,h2⟩];unfold xr;rw[if_neg (by omega),if_neg (by omega),if_pos ⟨by omega,rfl,rfl⟩]
    rw[if_neg h2,if_neg (by omega:¬(x.toNat/64=2/\y.toNat/64=2))];unfold xr;rw[if_neg (by omega),if_neg (by omega),if_neg (by simp)]
   rw[if_neg h1,if_neg (by omega:¬(x.toNat/64=2/\y.toNat/64=2))];unfold xr;rw[if_neg (by omega),if_neg (by omega),if_neg (by simp)]
  rw[e1,e2];simp only[List.take_succ_cons,List.take_zero];refine⟨fun⟨p1,p2,p3⟩=> ?_,fun hP=> ?_⟩
  ·have q:=(gj (by omega) c x y).1 p3;rw[if_pos (by omega),if_pos (by omega)];simp;omega
  by_cases h1:x.toNat/64=2/\y.toNat/64=2
  ·rw[if_pos h1];by_cases h2:2048<=c.toNat%16*4096+x.toNat%64*64+y.toNat%64
   ·exact(hP ⟨by omega,by omega,(gj (by omega) c x y).2 (by omega)⟩).elim
   rw[if_neg h2]
  rw[if_neg h1]
 have e1:vA (c::t)=((c.toNat:Int),1):=by
  show tF c.toNat (c::t).length _ _=_;unfold tF;rw[if_neg c2,if_neg c3]
 rw[e1];simp only[List.take_succ_cons,List.take_zero]
 have e2:vT (c::t)=if c.toNat≠0/\c.toNat<128 then(c.toNat,1)else(0,0):=by
  unfold vT;show xr c.toNat _ _ _ _=_;by_cases h1:c.toNat≠0/\c.toNat<128
  ·unfold xr;rw[if_pos h1,if_pos h1]
  rw[if_neg h1];unfold xr;rw[if_neg h1,if_neg,if_neg]
  ·rintro⟨h2,h3,h4⟩;have:=py h4;exact c3 ⟨by omega,by omega,this⟩
  rintro⟨h2,h3⟩;have:=py h3;exact c2 ⟨by omega,by omega,this⟩
 rw[e2];refine⟨fun⟨p1,p2,p3⟩=> ?_,fun hP=> ?_⟩
 ·have q:=(gH (by omega) c).1 p3;rw[if_pos (by omega)];simp
 by_cases h1:c.toNat≠0/\c.toNat<128
 ·exact(hP ⟨by omega,by omega,(gH (by omega) c).2 (by omega)⟩).elim
 rw[if_neg h1]
end
section
open Go.ChangeShapes Go.WideShapes Go.ChangeAt Go.RowKit
theorem dL{t e:TypeId}{z:Value}{bytes:Nat}(hO:tM t e z bytes){α:Type}{enc:α->Value}(base:Nat){w:World}(tx ty:TypeId){a:Option Addr}{n cap:Nat}{xs:List α}(VT:Sl enc w a n xs)
  (y:Value) (m:Nat) (news:List Value) (hs:Src prog 1 tx y m news w) (ZV:cap<n+m) (Px:n<=cap) (ZR:(n+m)*bytes<=140737488355328) (hm:n+m<=maxLen) (Zw:base<=w.heap.size):
  ∃v' w',(Builtin.append_ #[t,tx] ty #[.slice a n cap,y]).run prog w= .ok v' w'/\w'.ownsRow base e 1 v' (n+m) (xs.map enc++news)/\Below base w w':=by
 obtain⟨ht,Uj,hz⟩:=hO;obtain⟨i,hi,RQ,Wi,U9⟩:=info_parts Uj;have hl:=hs.newsLen
 have R3:(Builtin.firstCells i.size n (.slice a n cap)).run prog w.drew= .ok (xs.map enc).toArray w.drew:=by
  rw[Wi];by_cases hn:0<n
  ·obtain⟨b,off,rfl,_,hc⟩:=VT.2 hn;refine run_firstCells_some w.drew 1 n _ n cap _ (by simp[VT.1]) (fun j u hu=> ?_);rw[List.getElem?_map]at hu
   have hj:j<xs.length:=by
    rcases Nat.lt_or_ge j xs.length with h|h
    ·exact h
    rw[List.getElem?_eq_none h]at hu;simp at hu
   rw[List.getElem?_eq_getElem hj]at hu;simp only[Option.map_some,Option.some.injEq]at hu;subst hu;have S1:(⟨b,off,none⟩:Addr).add j=⟨b,off+j,none⟩:=by unfold Addr.add;split<;>simp_all
   rw[S1];exact hc j hj
  have h0:n=0:=by omega
  subst h0;have hx:xs=[]:=List.eq_nil_of_length_eq_zero VT.1;subst hx
  cases a with
  |none=>simp[Builtin.firstCells]
  |some ad=>exact run_firstCells_some w.drew 1 0 ad 0 cap [] rfl (fun j u hu=>by simp at hu)
 have Nr:n+m<=9223372036854775807:=by simp only[maxLen]at hm;omega
 subst U9;have hr:=run_append_grow_src (P:=prog) w t tx ty e i z ht hi RQ a n cap (xs.map enc) R3 y m news (by rw[Wi];exact hs) ZV (by omega) (growslice_fits (by omega) ZR);refine⟨_,_,hr,?_,?_⟩
 ·have Rf:(xs.map enc++news).length=(n+m)*1:=by simp[VT.1,hl]
  have FS:=grownCap_ge w (n+m) cap e;have Kt:grownCap w (n+m) cap e<=maxLen:=grownCap_le_maxLen w (n+m) cap e hm;refine⟨Rf,.inr ⟨w.heap.size,_,_,rfl,Zw,heap_alloc_new w.drew _,FS,Kt,?_,?_⟩⟩
  ·simp only[Array.size_append,List.size_toArray,size_zeroCells,hz,Rf];omega
  simp only[Array.toList_append];rw[<-Rf];exact List.take_left
 exact⟨rfl,rfl,rfl,by simp,fun k hk=>Below.heap_alloc w.drew _ k (by show k<w.heap.size;omega)⟩
theorem dM{t e:TypeId}{z:Value}{bytes:Nat}(hO:tM t e z bytes){α:Type}{enc:α->Value}{w:World}{ops:Array Oper}{rest:List Oper}{o:Oper}{a:Act}{Q:Exit->Act->World->Prop}(XF:Region.wanted o (yielded ops a.tmps)=true)(s x:Operand)(tx:TypeId)
  (ho:o.op= .call {callee:= .builtin .append,args:= #[s,x],argTypes:= #[t,tx]})
  (base:Nat) (ad:Option Addr) (n cap:Nat) (xs:List α) (hv:a.eval s= .slice ad n cap) (VT:Sl enc w ad n xs)
  (y:Value) (m:Nat) (news:List Value) (hy:a.eval x=y) (hs:Src prog 1 tx y m news w) (ZV:cap<n+m) (Px:n<=cap) (ZR:(n+m)*bytes<=140737488355328) (hm:n+m<=maxLen) (Zw:base<=w.heap.size)
  (h:∀v' w',w'.ownsRow base e 1 v' (n+m) (xs.map enc++news)->Below base w w'->wpList prog ops Q rest (a.put o.dst v') w'):wpList prog ops Q (o::rest) a w:=by
 obtain⟨v',w',hr,h2,h3⟩:=dL hO base tx o.type VT y m news hs ZV Px ZR hm Zw;refine wpList_step fun K hK=> ?_
 rw[if_pos XF];unfold Oper.wp execOp;simp only[ho,resolve,invoke,builtin,Sem.run_bind,Sem.run_pure,Result.andThen_ok,List.map_toArray,List.map_cons,List.map_nil,hv,hy,hr];exact hK _ _ (h v' w' h2 h3)
theorem j9{t e:TypeId}{z:Value}{bytes:Nat}(hO:tM t e z bytes){α:Type}{enc:α->Value}{w:World}{ops:Array Oper}{rest:List Oper}{o:Oper}{a:Act}{Q:Exit->Act->World->Prop}(XF:Region.wanted o (yielded ops a.tmps)=true)(s x:Operand)
  (ho:o.op= .call {callee:= .builtin .append,args:= #[s,x],argTypes:= #[t,t]})
  (base:Nat) (ad:Option Addr) (n cap:Nat) (xs:List α) (hv:a.eval s= .slice ad n cap) (VT:Sl enc w ad n xs)
  (C:Array Value) (m c:Nat) (hy:a.eval x= .slice (some ⟨w.heap.size,0,none⟩) m c) (hC:C.size=m) (XE:C.toList.all (·.oneCell')=true) (ZV:cap<n+m) (Px:n<=cap) (ZR:(n+m)*bytes<=140737488355328) (hm:n+m<=maxLen) (Zw:base<=w.heap.size)
  (h:∀v' w',w'.ownsRow base e 1 v' (n+m) (xs.map enc++C.toList)->Below base w w'->wpList prog ops Q rest (a.put o.dst v') w'):wpList prog ops Q (o::rest) a (w.alloc (.cells C e)):=
 dM hO XF s x t ho base ad n cap xs hv (VT.below (Z6.alloc Z5 _)) _ m _ hy (Src.lit (heap_alloc_last w _) hC XE hO.1) ZV Px ZR hm (by simp;omega)
  (fun v' w' h1 h3=>h v' w' h1 ((Z6.alloc Zw _).trans h3))
theorem wg{w:World}{B B':Nat}{e:TypeId}{size:Nat}{v:Value}{n:Nat}{xs:List Value}(h:w.ownsRow B e size v n xs)(hB:B'<=B):w.ownsRow B' e size v n xs:=by
 obtain⟨h1,h2⟩:=h;refine⟨h1,?_⟩
 rcases h2 with h2|⟨g,cap,cur,hv,hb,hg,h3⟩
 ·exact .inl h2
 exact .inr ⟨g,cap,cur,hv,Nat.le_trans hB hb,hg,h3⟩
theorem x8{P:Program}{fn:Func}{p u:Tmp}{ty:TypeId}(h:fn.results= #[.cell p ty,.tmp u])(tmps:Array Value)(w:World)(g:Nat)(t:TypeId)(cs:Array Value)(fr:Nat×Nat)(d:TypeDesc)
  (hp:tmps.getD p undef= .pointer (some ⟨g,0,none⟩)) (hg:w.heap[g]? =some (.cells cs t fr))
  (hu:P.underlying ty=some d) (hd:(match d with| .struct _| .array _ _=>true|_=>false)=true) (hi:(P.info? ty).map (·.size)=some cs.size):
  (results fn tmps).run P w= .ok (.tuple #[.agg cs,tmps.getD u undef]) w:=by
 rw[results_cell_tmp h,hp];simp[asAddr,run_loadVar_row w g t ty cs fr d hg hu hd hi,Result.andThen]
end
section
def yg(v n:Nat):List UInt8:=(List.range n).map fun i=>UInt8.ofNat (v/256^(n-1-i)%256)
theorem vh(v n:Nat):(yg v n).length=n:=by simp[yg]
theorem it(v n k:Nat)(h:k<n):(yg v n).take (k+1)=(yg v n).take k++[UInt8.ofNat (v/256^(n-1-k)%256)]:=by
 rw[List.take_succ_eq_append_getElem (by rw[vh];exact h)];simp[yg]
theorem g9(x:Nat):yp (UInt8.ofNat (x%256))= .int .u8 ((x:Int)%256):=by
 unfold yp;rw[UInt8.toNat_ofNat_of_lt' (by show x%256<256;omega)];rw[Int.natCast_emod];rfl
def vR(bs:List UInt8):Nat:=bs.foldl (fun v c=>v*256+c.toNat) 0
theorem iA(bs:List UInt8)(k:Nat)(h:k<bs.length):vR (bs.take (k+1))=vR (bs.take k)*256+bs[k].toNat:=D6g _ _ bs k h
theorem pj(bs:List UInt8)(c:UInt8):vR (bs++[c])=vR bs*256+c.toNat:=by simp[vR]
theorem nP(bs:List UInt8):vR bs<256^bs.length:=by
 generalize hn:bs.length=n
 induction n generalizing bs with
 |zero=>have:bs=[]:=List.length_eq_zero_iff.1 hn;subst this;simp[vR]
 |succ n ih=>
  have h1:bs≠[]:=by intro h;rw[h]at hn;simp at hn
  obtain⟨as',c,rfl⟩:∃as' c,bs=as'++[c]:=⟨bs.dropLast,bs.getLast h1,(List.dropLast_concat_getLast h1).symm⟩;have h2:=ih as' (by simpa using hn);rw[pj,Nat.pow_succ];have:=c.toNat_lt;omega
theorem jQ(bs:List UInt8)(k:Nat)(h:k<=7):vR (bs.take k)<72057594037927936:=by
 have h1:=nP (bs.take k);have h2:256^(bs.take k).length<=256^7:=Nat.pow_le_pow_right (by decide) (by simp;omega);omega
theorem D4u{x y:Nat}(hx:x%256=0)(hy:y<256)(h:x+y<18446744073709551616):bits .or .u64 (x:Int) (y:Int)=(x:Int)+y:=by
 rw[u64_or_nat x y (by omega) (by omega),nat_join 8 x y hx hy]
 push_cast;rfl
def yi(bs:List UInt8)(at_ n:Int):Int×Int:=
 if n<1\/8<n then(0,1)
 else if at_<0\/(bs.length:Int)<at_\/(bs.length:Int) -at_<n then(0,6)
 else(vR ((bs.drop at_.toNat).take n.toNat),0)
theorem gC(v e:Nat):((v:Int)/2^(8*e))=((v/256^e:Nat):Int):=by
 rw[Int.natCast_ediv,Int.natCast_pow,Int.pow_mul];rfl
theorem ai(v n:Nat)(h:0<n):(yg v n).take (0+1)=[UInt8.ofNat (v/256^(n-1)%256)]:=by
 rw[it v n 0 h];rfl
end
section
open Go.ChangeShapes Go.WideShapes Go.ChangeAt Go.RowKit
theorem j':tM 215 231 (.int .u16 0) 2:=⟨underlying215,by kernel_rfl,rfl⟩
theorem cK(w:World)(u:Nat)(h1:u<65536):
  Calls prog 175 #[.int .u16 u] w (eG yp 5 w.heap.size w (uX u)):=by
 by_cases c1:1<=u/\u<128
 ·have hU:=D3h c1.1 c1.2;have HU:=Z' hU;obtain⟨c1,c2⟩:=c1;clear hU;go_enter func175,ntmps175
  go_wp2
  go_ret;exact⟨_,1,rfl,by rw[HU.out];exact World.ownsRow_lit w #[.int .u8 (u:Int)] 1 Z5 (by decide) rfl,Z6.alloc Z5 _⟩
 by_cases c2:u<2048
 ·have hU:=D2p c1 c2;have HU:=Z' hU;clear hU;by_cases c0:u=0
  ·subst c0;go_enter func175,ntmps175
   go_wp2
   go_ret;exact⟨_,2,rfl,by rw[HU.out];exact World.ownsRow_lit w #[.int .u8 192,.int .u8 128] 2 Z5 (by decide) rfl,Z6.alloc Z5 _⟩
  have c4:¬u<=127:=by omega
  go_enter func175,ntmps175
  go_wp2
  go_ret;exact⟨_,2,rfl,by rw[HU.out];exact World.ownsRow_lit w #[.int .u8 (192+(u:Int)/64),.int .u8 (128+(u:Int)%64)] 2 Z5 (by decide) rfl,Z6.alloc Z5 _⟩
 have hU:=cQ c2 h1;have HU:=Z' hU;have c4:¬u<=127:=by omega
 clear hU;go_enter func175,ntmps175
 go_wp2
 go_ret;exact⟨_,3,rfl,by rw[HU.out];exact World.ownsRow_lit w #[.int .u8 (224+(u:Int)/4096),.int .u8 (128+(u:Int)/64%64),.int .u8 (128+(u:Int)%64)] 3 Z5 (by decide) rfl,Z6.alloc Z5 _⟩
theorem gS(w:World)(a:Option Addr)(n cap:Nat)(bs:List UInt8)(i:Nat)(hs:Sl yp w a n bs)(hn:n<=65536)(hi:i<=65536):
  Calls prog 186 #[.slice a n cap,.int .i64 i] w fun e w'=>e= .returned (.tuple #[.int .u16 ((wj bs i).1:Nat),.bool (wj bs i).2])/\w=w':=by
 have HS:=Z' hs;clear hs;by_cases hin:i<n
 ·obtain⟨b,off,rfl,Zu,hc⟩:=HS.out.2 (by omega);have JF:i<bs.length:=by rw[HS.out.1];exact hin
  have VV:w.cell? ⟨b,off+i,none⟩=some (.int .u8 (bs[i].toNat:Int)):=hc i JF
  have hT:wj bs i=if bs[i].toNat/64=2 then(bs[i].toNat%64,true)else(0,false):=by
   unfold wj;rw[List.getElem?_eq_getElem JF]
  obtain⟨c,Pe⟩:=Z8 (bs[i].toNat);have Yz:c<256:=by have:=bs[i].toNat_lt;omega
  rw[<-Pe]at VV hT;have HT:=Z' hT;clear hT Pe hc Zu;by_cases h2:c/64=2
  ·have HH:=Z' h2;have h3:((c:Int)/64 !=2)=false:=by simp;omega
   clear h2;go_enter func186,ntmps186
   go_wp2
   go_ret2;exact⟨by rw[HT.out,if_pos HH.out];rfl,rfl⟩
  have HH:=Z' h2;have h3:((c:Int)/64 !=2)=true:=by simp;omega
  clear h2;go_enter func186,ntmps186
  go_wp2
  go_ret2;exact⟨by rw[HT.out,if_neg HH.out];rfl,rfl⟩
 have hT:wj bs i=(0,false):=by
  unfold wj;rw[List.getElem?_eq_none (by rw[HS.out.1];omega)]
 have HT:=Z' hT;clear hT;go_enter func186,ntmps186
 go_wp2
 go_ret2;exact⟨by rw[HT.out];rfl,rfl⟩
def eW(w:World)(p:Nat×Nat)(e:Ending)(w':World):Prop:=e= .returned (.tuple #[.int .u16 (p.1:Nat),.int .i64 (p.2:Nat)])/\w=w'
theorem D8m(w:World)(a:Option Addr)(n cap:Nat)(bs:List UInt8)(hs:Sl yp w a n bs)(hn:n<=65536)(hp:0<n):
  Calls prog 183 #[.slice a n cap] w (eW w (vT bs)):=by
 have HS:=Z' hs;clear hs;obtain⟨b,off,rfl,Zu,hc⟩:=HS.out.2 hp;have JF:0<bs.length:=by rw[HS.out.1];exact hp
 have VV:w.cell? ⟨b,off,none⟩=some (.int .u8 (bs[0].toNat:Int)):=hc 0 JF;have hx:=nT bs 1;have hy:=nT bs 2
 have hT:vT bs=xr bs[0].toNat (wj bs 1).1 (wj bs 1).2 (wj bs 2).1 (wj bs 2).2:=by
  unfold vT;rw[List.getElem?_eq_getElem JF];rfl
 have t1:=fun w' hh=>gS w' (some ⟨b,off,none⟩) n cap bs 1 hh hn (by decide)
 have t2:=fun w' hh=>gS w' (some ⟨b,off,none⟩) n cap bs 2 hh hn (by decide)
 obtain⟨c,Pe⟩:=Z8 (bs[0].toNat);have Yz:c<256:=by have:=bs[0].toNat_lt;omega
 rw[<-Pe]at VV hT;obtain⟨x,NW⟩:∃x,x=(wj bs 1).1:=⟨_,rfl⟩;obtain⟨one,Da⟩:∃x,x=(wj bs 1).2:=⟨_,rfl⟩;obtain⟨y,Lk⟩:∃x,x=(wj bs 2).1:=⟨_,rfl⟩;obtain⟨both,Cc⟩:∃x,x=(wj bs 2).2:=⟨_,rfl⟩;rw[<-NW]at hx hT t1;rw[<-Da]at hT t1;rw[<-Lk]at hy hT t2;rw[<-Cc]at hT t2;have T1:=Z' t1;have T2:=Z' t2;rw[hT];clear NW Da Lk Cc Pe hc Zu hT t1 t2;have o1:=mM (x:=c%32*64) (y:=x) 6 (by omega) (by omega) (by omega);have o2:=mM (x:=c%16*4096) (y:=x*64) 12 (by omega) (by omega) (by omega);have o3:=mM (x:=c%16*4096+x*64) (y:=y) 6 (by omega) (by omega) (by omega)
 push_cast at o1 o2 o3
 have a1:=u8_and15 (x:=(c:Int)) (by omega) (by omega);go_enter func183,ntmps183
 go_wp2_with fail
 refine(T1.out _ HS.out).mono ?_;rintro e w1 ⟨rfl,rfl⟩
 go_wp2_with fail
 refine(T2.out _ HS.out).mono ?_;rintro e w1 ⟨rfl,rfl⟩;clear T1 T2;by_cases c1:c≠0/\c<128
 ·have HR:=Z' (show xr c x one y both=(c,1) by unfold xr;rw[if_pos c1]);obtain⟨c1,c2⟩:=c1;have c3:((c:Int) !=0)=true:=by simp;omega
  clear c1
  go_wp2
  go_ret2;exact⟨by rw[HR.out];rfl,rfl⟩
 have HN:=Z' c1;by_cases c0:c=0
 ·subst c0;have HR:=Z' (show xr 0 x one y both=(0,0) by unfold xr;simp);clear c1
  go_wp2
  go_ret2;exact⟨by rw[HR.out];rfl,rfl⟩
 have c2:128<=c:=by omega
 have c3:((c:Int) !=0)=true:=by simp;omega
 clear c1 c0;by_cases c6:c/32=6
 ·have h6:((c:Int)/32==6)=true:=by simp;omega
  have Cg:((c:Int)/16==14)=false:=by simp;omega
  have H6:=Z' c6;have Gy:=Z' (show ¬c/16=14 by omega);clear c6
  cases one
  ·have HR:=Z' (show xr c x false y both=(0,0) by unfold xr;rw[if_neg HN.out,if_neg (by simp),if_neg (by simp)])
   go_wp2
   go_ret2;exact⟨by rw[HR.out];rfl,rfl⟩
  by_cases u0:c%32*64+x=0
  ·have HR:=Z' (show xr c x true y both=(c%32*64+x,2) by unfold xr;rw[if_neg HN.out,if_pos ⟨H6.out,rfl⟩,if_pos (.inl u0)]);have u1:(((c:Int)%32*64+x==0))=true:=by simp;omega
   clear u0
   go_wp2
   go_ret2;exact⟨by rw[HR.out];rfl,rfl⟩
  have u1:(((c:Int)%32*64+x==0))=false:=by simp;omega
  have HU:=Z' u0;clear u0;by_cases u2:128<=c%32*64+x
  ·have HR:=Z' (show xr c x true y both=(c%32*64+x,2) by unfold xr;rw[if_neg HN.out,if_pos ⟨H6.out,rfl⟩,if_pos (.inr u2)])
   go_wp2
   go_ret2;exact⟨by rw[HR.out];rfl,rfl⟩
  have HR:=Z' (show xr c x true y both=(0,0) by unfold xr;rw[if_neg HN.out,if_pos ⟨H6.out,rfl⟩,if_neg (by have:=HU.out;omega)])
  go_wp2
  go_ret2;exact⟨by rw[HR.out];rfl,rfl⟩
 have h6:((c:Int)/32==6)=false:=by simp;omega
 have H6:=Z' c6;clear c6;by_cases c14:c/16=14
 ·have Cg:((c:Int)/16==14)=true:=by simp;omega
  have Gy:=Z' c14;clear c14
  cases one
  ·have HR:=Z' (show xr c x false y both=(0,0) by unfold xr;rw[if_neg HN.out,if_neg (by simp),if_neg (by simp)])
   go_wp2
   go_ret2;exact⟨by rw[HR.out];rfl,rfl⟩
  cases both
  ·have HR:=Z' (show xr c x true y false=(0,0) by unfold xr;rw[if_neg HN.out,if_neg (by simp[H6.out]),if_neg (by simp)])
   go_wp2
   go_ret2;exact⟨by rw[HR.out];rfl,rfl⟩
  by_cases u2:2048<=c%16*4096+x*64+y
  ·have HR:=Z' (show xr c x true y true=(c%16*4096+x*64+y,3) by unfold xr;rw[if_neg HN.out,if_neg (by simp[H6.out]),if_pos ⟨Gy.out,rfl,rfl⟩,if_pos u2])
   go_wp2
   go_ret2;exact⟨by rw[HR.out];rfl,rfl⟩
  have HR:=Z' (show xr c x true y true=(0,0) by unfold xr;rw[if_neg HN.out,if_neg (by simp[H6.out]),if_pos ⟨Gy.out,rfl,rfl⟩,if_neg u2])
  go_wp2
  go_ret2;exact⟨by rw[HR.out];rfl,rfl⟩
 have Cg:((c:Int)/16==14)=false:=by simp;omega
 have HR:=Z' (show xr c x one y both=(0,0) by unfold xr;rw[if_neg HN.out,if_neg (by simp[H6.out]),if_neg (by simp[c14])]);clear c14
 go_wp2
 go_ret2;exact⟨by rw[HR.out];rfl,rfl⟩
theorem nv:tM 43 5 (.int .u8 0) 1:=⟨underlying43,by kernel_rfl,rfl⟩
def yw(n:Int):Prop:= -9223372036854775808<=n/\n<=9223372036854775807
theorem uS(w:World)(n:Int):Calls prog 174 #[.int .i64 n] w fun e w'=>e= .returned (.bool (decide (1<=n/\n<=8)))/\w=w':=by
 by_cases h1:1<=n
 ·by_cases h2:n<=8
  ·rw[decide_eq_true ⟨h1,h2⟩];go_enter func174,ntmps174
   go_wp2
   go_ret;exact⟨rfl,rfl⟩
  rw[decide_eq_false (by omega)];go_enter func174,ntmps174
  go_wp2
  go_ret;exact⟨rfl,rfl⟩
 rw[decide_eq_false (by omega)];go_enter func174,ntmps174
 go_wp2
 go_ret;exact⟨rfl,rfl⟩
theorem sV(w:World)(a:Option Addr)(len cap:Nat)(bs:List UInt8)(i n:Int)(hs:Sl yp w a len bs)(hl:len<=1048576)(Zv:len<=cap)(hi:yw i)(hn:yw n):
  Calls prog 147 #[.slice a len cap,.int .i64 i,.int .i64 n] w fun e w'=>e= .returned (.tuple #[.int .u64 (yi bs i n).1,.int .i64 (yi bs i n).2])/\w=w':=by
 have Zu:=hs.1;have HS:=Z' hs;obtain⟨i1,i2⟩:=hi;obtain⟨n1,n2⟩:=hn;clear hs;by_cases c1:n<1\/8<n
 ·have hR:yi bs i n=(0,1):=by unfold yi;rw[if_pos c1]
  rw[hR];have hd:decide (1<=n/\n<=8)=false:=decide_eq_false (by omega);clear hR;go_enter func147,ntmps147
  go_wp2_with fail
  refine(uS _ n).mono ?_;rw[hd];rintro e w' ⟨rfl,rfl⟩
  go_wp2
  go_ret2;exact⟨rfl,rfl⟩
 have hd:decide (1<=n/\n<=8)=true:=decide_eq_true (by omega);by_cases c2:i<0\/(len:Int)<i\/(len:Int) -i<n
 ·have hR:yi bs i n=(0,6):=by unfold yi;rw[if_neg c1,Zu,if_pos c2]
  rw[hR];clear hR;by_cases d1:i<0
  ·have e1:=decide_eq_true d1;go_enter func147,ntmps147
   go_wp2_with fail
   refine(uS _ n).mono ?_;rw[hd];rintro e w' ⟨rfl,rfl⟩
   go_wp2
   go_ret2;exact⟨rfl,rfl⟩
  have e1:=decide_eq_false d1;by_cases d2:(len:Int)<i
  ·have e2:=decide_eq_true d2;go_enter func147,ntmps147
   go_wp2_with fail
   refine(uS _ n).mono ?_;rw[hd];rintro e w' ⟨rfl,rfl⟩
   go_wp2
   go_ret2;exact⟨rfl,rfl⟩
  have e2:=decide_eq_false d2;have e3:=decide_eq_true (show(len:Int) -i<n by omega);go_enter func147,ntmps147
  go_wp2_with fail
  refine(uS _ n).mono ?_;rw[hd];rintro e w' ⟨rfl,rfl⟩
  go_wp2
  go_ret2;exact⟨rfl,rfl⟩
 have hR:yi bs i n=(((vR ((bs.drop i.toNat).take n.toNat):Nat):Int),(0:Int)):=by unfold yi;rw[if_neg c1,Zu,if_neg c2]
 rw[hR];clear hR;obtain⟨j,rfl⟩:∃j:Nat,i=j:=⟨i.toNat,by omega⟩;obtain⟨m,rfl⟩:∃m:Nat,n=m:=⟨n.toNat,by omega⟩;have j1:j+m<=len:=by omega
 have m1:1<=m:=by omega
 have m2:m<=8:=by omega
 clear i1 i2 n1 n2 c1 c2;simp only[Int.toNat_natCast];obtain⟨b,off,rfl,Nm,hc⟩:=HS.out.2 (by omega);have HC:=Z' hc;obtain⟨cs,WN⟩:∃cs,cs=(bs.drop j).take m:=⟨_,rfl⟩;rw[<-WN];have R4:=Z' WN;have XM:cs.length=m:=by rw[WN];simp;omega
 have Y4:=Z' XM;clear WN hc XM;have e1:=decide_eq_false (show ¬(j:Int)<0 by omega);have e2:=decide_eq_false (show ¬(len:Int)<(j:Int) by omega);have e3:=decide_eq_false (show ¬(len:Int) -(j:Int)<(m:Int) by omega);have g1:(0:Int)<=(j:Int):=by omega
 have g2:(j:Int)<=(len:Int):=by omega
 have g3:(0:Int)<=(m:Int):=by omega
 have g4:(m:Int)<=(cap:Int) -(j:Int):=by omega
 have g5:(len:Int)<=(cap:Int):=by omega
 go_enter func147,ntmps147
 go_wp2_with fail
 refine(uS _ m).mono ?_;rw[hd];rintro e w' ⟨rfl,rfl⟩
 go_wp2_with fail
 go_loopw [8,38] (fun v i wr=>∃k x:Nat,k<=m/\i= .int .i64 k/\v= .int .u64 x/\Hid (x=vR (cs.take k))/\wr=w) (fun _ i _=>m-(intOf i).toNat)
 case atStart=>exact⟨0,0,Nat.zero_le _,rfl,rfl,rfl,rfl⟩
 obtain⟨k,x,hk,rfl,rfl,HX,rfl⟩:=hrel;by_cases ZX:k<m
 ·have VV:wr.cell? ⟨b,off+j+k,none⟩=some (.int .u8 ((cs[k]'(by rw[Y4.out];exact ZX)).toNat:Int)):=by
   have h1:=HC.out (j+k) (by omega);rw[Nat.add_assoc,h1];simp only[R4.out,List.getElem_take,List.getElem_drop];rfl
  obtain⟨c,SH⟩:∃c,c=(cs[k]'(by rw[Y4.out];exact ZX)).toNat:=⟨_,rfl⟩;rw[<-SH]at VV;have XM:c<256:=by rw[SH];exact(cs[k]'(by rw[Y4.out];exact ZX)).toNat_lt
  have ZE:=Z' SH;clear SH;have L9:x<72057594037927936:=by rw[HX.out];exact jQ _ _ (by omega)
  have N4:=D4u (x:=x*256) (y:=c) (by omega) XM (by omega);rw[show((x*256:Nat):Int)=(x:Int)*256 by omega]at N4
  go_wp2
  go_roundw
  case rel=>exact⟨k+1,x*256+c,by omega,by go_num,by go_num,by show _=_;rw[iA cs k (by rw[Y4.out];exact ZX),<-HX.out,<-ZE.out],trivial⟩
  simp[intOf];omega
 obtain rfl:k=m:=by omega
 go_wp2
 go_ret2;have h1:=HX.out;rw[List.take_of_length_le (by rw[Y4.out];omega)]at h1;rw[h1];exact⟨rfl,rfl⟩
theorem tp(w:World)(a:Option Addr)(len cap:Nat)(bs:List UInt8)(i n:Int)(hs:Sl yp w a len bs)(hl:len<=1048576)(Zv:len<=cap)(hi:yw i)(hn:yw n):
  Calls prog 112 #[.slice a len cap,.int .i64 i,.int .i64 n] w fun e w'=>e= .returned (.tuple #[.int .u64 (yi bs i n).1,.int .i64 (yi bs i n).2])/\w=w':=by
 have Zu:=hs.1;have HS:=Z' hs;obtain⟨i1,i2⟩:=hi;obtain⟨n1,n2⟩:=hn;clear hs;by_cases c1:n<1\/8<n
 ·have hR:yi bs i n=(0,1):=by unfold yi;rw[if_pos c1]
  rw[hR];clear hR;by_cases d1:n<1
  ·have e1:=decide_eq_true d1;go_enter func112,ntmps112
   go_wp2
   go_ret2;exact⟨rfl,rfl⟩
  have e1:=decide_eq_false d1;have e2:=decide_eq_true (show 8<n by omega);go_enter func112,ntmps112
  go_wp2
  go_ret2;exact⟨rfl,rfl⟩
 have a1:=decide_eq_false (show ¬n<1 by omega);have a2:=decide_eq_false (show ¬8<n by omega);by_cases c2:i<0\/(len:Int)<i\/(len:Int) -i<n
 ·have hR:yi bs i n=(0,6):=by unfold yi;rw[if_neg c1,Zu,if_pos c2]
  rw[hR];clear hR;by_cases d1:i<0
  ·have e1:=decide_eq_true d1;go_enter func112,ntmps112
   go_wp2
   go_ret2;exact⟨rfl,rfl⟩
  have e1:=decide_eq_false d1;by_cases d2:(len:Int)<i
  ·have e2:=decide_eq_true d2;go_enter func112,ntmps112
   go_wp2
   go_ret2;exact⟨rfl,rfl⟩
  have e2:=decide_eq_false d2;have e3:=decide_eq_true (show(len:Int) -i<n by omega);go_enter func112,ntmps112
  go_wp2
  go_ret2;exact⟨rfl,rfl⟩
 have hR:yi bs i n=(((vR ((bs.drop i.toNat).take n.toNat):Nat):Int),(0:Int)):=by unfold yi;rw[if_neg c1,Zu,if_neg c2]
 rw[hR];clear hR;obtain⟨j,rfl⟩:∃j:Nat,i=j:=⟨i.toNat,by omega⟩;obtain⟨m,rfl⟩:∃m:Nat,n=m:=⟨n.toNat,by omega⟩;have j1:j+m<=len:=by omega
 have m1:1<=m:=by omega
 have m2:m<=8:=by omega
 clear i1 i2 n1 n2 c1 c2;simp only[Int.toNat_natCast];obtain⟨b,off,rfl,Nm,hc⟩:=HS.out.2 (by omega);have HC:=Z' hc;obtain⟨cs,WN⟩:∃cs,cs=(bs.drop j).take m:=⟨_,rfl⟩;rw[<-WN];have R4:=Z' WN;have XM:cs.length=m:=by rw[WN];simp;omega
 have Y4:=Z' XM;clear WN hc XM;have e1:=decide_eq_false (show ¬(j:Int)<0 by omega);have e2:=decide_eq_false (show ¬(len:Int)<(j:Int) by omega);have e3:=decide_eq_false (show ¬(len:Int) -(j:Int)<(m:Int) by omega);have g1:(0:Int)<=(j:Int):=by omega
 have g2:(j:Int)<=(len:Int):=by omega
 have g3:(j:Int)<=(j:Int)+(m:Int):=by omega
 have g4:(j:Int)+(m:Int)<=(cap:Int):=by omega
 have g5:(len:Int)<=(cap:Int):=by omega
 go_enter func112,ntmps112
 go_wp2_with fail
 go_loopw [8,40] (fun v i wr=>∃k x:Nat,k<=m/\i= .int .i64 k/\v= .int .u64 x/\Hid (x=vR (cs.take k))/\wr=w) (fun _ i _=>m-(intOf i).toNat)
 case atStart=>exact⟨0,0,Nat.zero_le _,rfl,rfl,rfl,rfl⟩
 obtain⟨k,x,hk,rfl,rfl,HX,rfl⟩:=hrel;by_cases ZX:k<m
 ·have VV:wr.cell? ⟨b,off+j+k,none⟩=some (.int .u8 ((cs[k]'(by rw[Y4.out];exact ZX)).toNat:Int)):=by
   have h1:=HC.out (j+k) (by omega);rw[Nat.add_assoc,h1];simp only[R4.out,List.getElem_take,List.getElem_drop];rfl
  obtain⟨c,SH⟩:∃c,c=(cs[k]'(by rw[Y4.out];exact ZX)).toNat:=⟨_,rfl⟩;rw[<-SH]at VV;have XM:c<256:=by rw[SH];exact(cs[k]'(by rw[Y4.out];exact ZX)).toNat_lt
  have ZE:=Z' SH;clear SH;have L9:x<72057594037927936:=by rw[HX.out];exact jQ _ _ (by omega)
  go_wp2
  go_roundw
  case rel=>exact⟨k+1,x*256+c,by omega,by go_num,by go_num,by show _=_;rw[iA cs k (by rw[Y4.out];exact ZX),<-HX.out,<-ZE.out],trivial⟩
  simp[intOf];omega
 obtain rfl:k=m:=by omega
 go_wp2
 go_ret2;have h1:=HX.out;rw[List.take_of_length_le (by rw[Y4.out];omega)]at h1;rw[h1];exact⟨rfl,rfl⟩
theorem qm(w:World)(a:Option Addr)(len cap:Nat)(bs:List UInt8)(v n:Nat)(hs:Sl yp w a len bs)(hl:len<=1048576)(Zv:len<=cap)(hv:v<18446744073709551616)(n1:1<=n)(n2:n<=8):
  Calls prog 157 #[.slice a len cap,.int .u64 v,.int .i64 n] w (eG yp 5 w.heap.size w (bs++yg v n)):=by
 have HS:=Z' hs;clear hs;have hd:decide (1<=(n:Int)/\(n:Int)<=8)=true:=decide_eq_true (by omega);have g5:(len:Int)<=(cap:Int):=by omega
 go_enter func157,ntmps157
 go_wp2_with fail
 refine(uS _ n).mono ?_;rw[hd];rintro e w' ⟨rfl,rfl⟩
 go_wp2_with fail
 go_loopw [0,19] (fun s i wr=>∃k:Nat,k<=n/\i= .int .i64 k/\(k=0/\s= .slice a len len\/0<k/\Hid (wr.ownsRow w.heap.size 5 1 s (len+k) ((bs++(yg v n).take k).map yp)))/\Hid (Below w.heap.size w wr)) (fun _ i _=>n-(intOf i).toNat)
 case atStart=>exact⟨0,Nat.zero_le _,rfl,.inl ⟨rfl,rfl⟩,Z6⟩
 obtain⟨k,hk,rfl,N4,HW⟩:=hrel;by_cases ZX:k<n
 ·rcases N4 with⟨rfl,rfl⟩|⟨FG,HO⟩
  ·go_wp2_with (at_builtin;refine j9 (enc:=yp) nv rfl _ _ rfl w.heap.size a len len bs rfl (HS.out.below HW.out) _ 1 _ rfl rfl rfl (by omega) Z5 (by omega) (by unfold maxLen;omega) HW.out.size ?_;intro v1 w1 Yr ZQ;rw[gC]at Yr;have Xk:=Z' Yr;have ZM:=Z' (HW.out.trans ZQ);clear Yr ZQ)
   go_roundw
   case rel=>exact⟨1,by omega,by go_num,.inr ⟨by omega,by rw[ai v n (by omega),List.map_append];simp only[List.map_cons,List.map_nil,g9];exact Xk⟩,ZM⟩
   simp[intOf];omega
  go_wp2_with (at_builtin;refine pQ nv rfl _ _ rfl w.heap.size _ _ _ rfl HO.out _ 1 _ rfl rfl rfl (by omega) (by unfold maxLen;omega) HW.out.size ?_;intro v1 w1 Yr Ua ZQ;rw[gC]at Yr;have Xk:=Z' Yr;have ZM:=Z' (HW.out.trans ZQ);clear Yr ZQ Ua)
  go_roundw
  case rel=>exact⟨k+1,by omega,by go_num,.inr ⟨by omega,by rw[it v n k ZX,<-List.append_assoc,List.map_append (l₁:=bs++_)];simp only[List.map_cons,List.map_nil,g9];exact Xk⟩,ZM⟩
  simp[intOf];omega
 obtain rfl:k=n:=by omega
 rcases N4 with⟨rfl,rfl⟩|⟨FG,HO⟩
 ·omega
 go_wp2
 go_ret;exact⟨_,_,rfl,by have h:=HO.out;rwa [List.take_of_length_le (by rw[vh];omega)]at h,HW.out⟩
theorem E3w(w:World)(a:Option Addr)(len cap:Nat)(v n:Int)(Zv:len<=cap)(hn:n<1\/8<n):
  Calls prog 157 #[.slice a len cap,.int .u64 v,.int .i64 n] w fun e w'=>e= .returned (.slice a len len)/\w=w':=by
 have hd:decide (1<=n/\n<=8)=false:=decide_eq_false (by omega);have g5:(len:Int)<=(cap:Int):=by omega
 go_enter func157,ntmps157
 go_wp2_with fail
 refine(uS _ n).mono ?_;rw[hd];rintro e w' ⟨rfl,rfl⟩
 go_wp2
 go_ret;exact⟨rfl,rfl⟩
attribute [local go_sem↓] Go.wp_at_zero Go.wp_at_succ
def eQ(w:World)(r:Option (List UInt16))(e:Ending)(w':World):Prop:=
 match r with
 |none=>e= .returned (.tuple #[.slice none 0 0,.int .i64 8])/\Below w.heap.size w w'
 |some us=>∃v n,e= .returned (.tuple #[v,.int .i64 0])/\w'.ownsRow w.heap.size 231 1 v n (us.map rY)/\Below w.heap.size w w'
def kF(w:World)(n:Nat)(bs:List UInt8)(s t:Value)(wr:World):Prop:=
 ∃(a':Option Addr) (m c f k:Nat) (rest:List UInt8) (us:List UInt16),s= .slice a' m c/\m<=f/\f<=n/\m<=c/\k+m<=n/\Hid (Sl yp w a' m rest)/\Hid (wr.ownsRow w.heap.size 231 1 t k (us.map rY))/\Hid (Below w.heap.size w wr)/\
   Hid (wn bs=(ug f rest).map (us++·))
def kG:Value->Nat| .slice _ m _=>m|_=>0
theorem ap(w:World)(a:Option Addr)(n cap:Nat)(bs:List UInt8)(hs:Sl yp w a n bs)(hn:n<=65536)(Zv:n<=cap):
  Calls prog 169 #[.slice a n cap] w (eQ w (wn bs)):=by
 have HS:=Z' hs;have Wt:=hs.1;have HC:=Z' Zv;clear hs Zv;go_enter func169,ntmps169
 go_wp2
 go_loopw [0,4] (fun s t wr=>kF w n bs s t wr) (fun s _ _=>kG s)
 case atStart=>exact⟨a,n,cap,n,0,bs,[],rfl,Nat.le_refl _,Nat.le_refl _,HC.out,by omega,HS,World.ownsRow_nil _ _ _ _,Z6,by show _=_;unfold wn;rw[Wt];simp⟩
 obtain⟨a',m,c,f,k,rest,us,rfl,Gs,hfn,EM,hkm,HR,HO,HW,HD⟩:=hrel;by_cases ZX:0<m
 ·have ZF:rest≠[]:=by intro h;have:=HR.out.1;rw[h]at this;simp at this;omega
  have ST:=D7a ZF;rw[HR.out.1]at ST
  go_wp2_with fail
  refine(D8m _ _ _ _ rest (HR.out.below HW.out) (by omega) ZX).mono ?_;obtain⟨u,hu⟩:∃u,u=(vT rest).1:=⟨_,rfl⟩;obtain⟨q,hq⟩:∃q,q=(vT rest).2:=⟨_,rfl⟩;rw[<-hu,<-hq]at ST;obtain⟨Gm,Ps⟩:=ST;unfold eW;rw[<-hu,<-hq];have HU:=Z' hu;have HQ:=Z' hq;clear hu hq;rintro e w1 ⟨rfl,rfl⟩;obtain⟨f,rfl⟩:∃f',f=f'+1:=⟨f-1,by omega⟩;have Qp:=jP (f:=f) (bs:=rest) (by rw[HR.out.1];omega) ZF;rw[<-HU.out,<-HQ.out]at Qp;have HT:=Z' Qp;clear Qp ZF;by_cases hq0:q=0
  ·have hN:wn bs=none:=by rw[HD.out,HT.out,if_pos hq0];rfl
   have HN:=Z' hN;clear hN;subst hq0
   go_wp2
   go_ret2;rw[HN.out];exact⟨rfl,HW.out⟩
  have Fq:((q:Int)==0)=false:=by simp;omega
  have hqp:0<q:=by omega
  have NY:=Z' (show wn bs=(ug f (rest.drop q)).map ((us++[UInt16.ofNat u])++·) by
   rw[HD.out,HT.out,if_neg hq0]
   cases ug f (rest.drop q)<;>simp)
  have HE:=Z' (show(Value.int .u16 (u:Int))=rY (UInt16.ofNat u) by unfold rY;rw[UInt16.toNat_ofNat_of_lt' Ps]);have g1:(0:Int)<=(q:Int):=by omega
  have g2:(q:Int)<=(m:Int):=by omega
  have g3:(m:Int)<=(c:Int):=by omega
  obtain⟨b,off,rfl,_⟩:=HR.out.drop (j:=0) ZX;by_cases JJ:c=q
  ·obtain rfl:q=m:=by omega
   subst JJ;clear hq0
   go_wp2_with fail
   go_region_law ((refine nj j' (by rfl) _ _ (by rfl) w.heap.size _ _ _ (by rfl) HO.out.drew _ 1 _ (by rfl) (by rfl) (by rfl) (by omega) (by unfold maxLen;omega) HW.out.size ?_;intro v1 w1 Yr Ua ZQ))
   have Xk:=Z' Yr;have ZM:=Z' (HW.out.trans ((Z6.drew).trans ZQ));clear Yr Ua ZQ
   go_wp2_with fail
   have hrel:kF w n bs (.slice (some ⟨b,off,none⟩) 0 0) v1 w1:=
    ⟨_,0,0,f,k+1,_,us++[UInt16.ofNat u],rfl,by omega,by omega,by omega,by omega,by
     have hl:=HR.out.1;show Sl _ _ _ _ _;rw[List.drop_of_length_le (by omega)];exact Sl.nil _ _,by rw[List.map_append];show World.ownsRow _ _ _ _ _ _ (_++[_]);rw[<-HE.out];exact Xk.out,ZM,NY⟩
   exact⟨⟨_,_,_,_,hrel,rfl,rfl,rfl,rfl⟩,by simp only[kG];omega⟩
  clear hq0
  go_wp2_with fail
  go_region_law ((refine nj j' (by rfl) _ _ (by rfl) w.heap.size _ _ _ (by rfl) HO.out.drew _ 1 _ (by rfl) (by rfl) (by rfl) (by omega) (by unfold maxLen;omega) HW.out.size ?_;intro v1 w1 Yr Ua ZQ))
  have Xk:=Z' Yr;have ZM:=Z' (HW.out.trans ((Z6.drew).trans ZQ));clear Yr Ua ZQ
  go_wp2_with fail
  have Lg:Sl yp w (some ⟨b,off+q,none⟩) (m-q) (rest.drop q):=by
   by_cases hqm:q<m
   ·obtain⟨b',off',he,Lg⟩:=HR.out.drop hqm;simp only[Option.some.injEq,Addr.mk.injEq,and_true]at he;rw[he.1,he.2];exact Lg
   have hl:=HR.out.1;rw[List.drop_of_length_le (by omega),show m-q=0 by omega];exact Sl.nil _ _
  have hrel:kF w n bs (.slice (some ⟨b,off+q,none⟩) (m-q) (c-q)) v1 w1:=
   ⟨_,m-q,c-q,f,k+1,_,us++[UInt16.ofNat u],rfl,by omega,by omega,by omega,by omega,Lg,
    by rw[List.map_append];show World.ownsRow _ _ _ _ _ _ (_++[_]);rw[<-HE.out];exact Xk.out,ZM,NY⟩
  exact⟨⟨_,_,_,_,hrel,rfl,rfl,rfl,rfl⟩,by simp only[kG];omega⟩
 have hN:wn bs=some us:=by
  have:rest=[]:=List.eq_nil_of_length_eq_zero (by rw[HR.out.1];omega);rw[HD.out,this];simp[ug]
 have HN:=Z' hN;clear hN
 go_wp2
 go_ret2;rw[HN.out];exact⟨_,k,rfl,HO.out,HW.out⟩
def nB(r:Option (List UInt16)):Int×Int:=match r with|none=>(0,8)|some us=>(us.length,0)
theorem E3c(w:World)(a:Option Addr)(n cap:Nat)(bs:List UInt8)(hs:Sl yp w a n bs)(hn:n<=65536)(Zv:n<=cap):
  Calls prog 136 #[.slice a n cap] w fun e w'=>e= .returned (.tuple #[.int .i64 (nB (wn bs)).1,.int .i64 (nB (wn bs)).2])/\Below w.heap.size w w':=by
 have HD:=Z' (ap w a n cap bs hs hn Zv);clear hs Zv;go_enter func136,ntmps136
 go_wp2_with fail
 refine HD.out.mono ?_;intro e w1 hr;clear HD
 cases hd:wn bs with
 |none=>
  rw[hd]at hr;obtain⟨rfl,hb⟩:=hr;have H:=Z' hd;clear hd
  go_wp2
  go_ret2;exact⟨by rw[H.out];rfl,hb⟩
 |some us=>
 rw[hd]at hr;obtain⟨v,m,rfl,Zk,hb⟩:=hr;obtain⟨a1,cap1,rfl,VT,_⟩:=Sl.ofOwn Zk;have hl:=VT.1;have H:=Z' hd;have HL:=Z' hl;clear hd Zk VT hl
 go_wp2
 go_ret2;exact⟨by rw[H.out,show m=us.length from HL.out.symm];rfl,hb⟩
def si(p:UInt8->Bool)(bs:List UInt8):Int:=match bs.findIdx? p with|some i=>i|none=> -1
theorem dq{p:UInt8->Bool}{bs:List UInt8}{k:Nat}(h:k<bs.length)(hp:p bs[k]=true)(hn:∀j (h:j<k) (h':j<bs.length),p bs[j]=false):si p bs=k:=by
 unfold si;rw[List.findIdx?_eq_some_iff_getElem.2 ⟨h,hp,fun j hj=>by have:=hn j hj (by omega);simp[this]⟩]
theorem cW{p:UInt8->Bool}{bs:List UInt8}(hn:∀j (h':j<bs.length),p bs[j]=false):si p bs= -1:=by
 unfold si;rw[List.findIdx?_eq_none_iff.2 (fun x hx=>by obtain⟨j,hj,rfl⟩:=List.mem_iff_getElem.1 hx;exact hn j hj)]
theorem dy(w:World)(a:Option Addr)(n cap:Nat)(bs:List UInt8)(f:Nat)(p:UInt8->Bool)(hs:Sl yp w a n bs)(hn:n<=65536)
  (he:∀(args:Array Value) (w:World),(callFunc f args).run prog w= .ok (.enter f args) w) (hf:∀(w:World) (c:UInt8),Calls prog f #[.int .u8 (c.toNat:Int)] w fun e w'=>e= .returned (.bool (p c))/\w=w'):
  Calls prog 168 #[.slice a n cap,.func (.func f) #[] #[]] w fun e w'=>e= .returned (.int .i64 (si p bs))/\w=w':=by
 have HS:=Z' hs;have HF:=Z' hf;clear hs hf;go_enter func168,ntmps168
 go_wp2
 go_loop [8] (fun i=>∃k:Nat,k<=n/\i= .int .i64 k/\Hid (∀j (h:j<k) (h':j<bs.length),p bs[j]=false)) (fun i=>n-(intOf i).toNat)
 case atStart=>exact⟨0,Nat.zero_le _,rfl,fun j h=>by omega⟩
 obtain⟨k,hk,rfl,HN⟩:=hrel;by_cases ZX:k<n
 ·obtain⟨b,off,rfl,Zu,hc⟩:=HS.out.2 (by omega);have SV:k<bs.length:=by rw[HS.out.1];exact ZX
  have VV:w.cell? ⟨b,off+k,none⟩=some (.int .u8 (bs[k].toNat:Int)):=hc k SV;clear hc Zu
  go_wp2_with fail
  refine(HF.out w bs[k]).mono ?_;rintro e w1 ⟨rfl,rfl⟩
  cases hp:p bs[k]
  ·have HP:=Z' hp;clear hp
   go_wp2_with fail
   go_round
   case rel=>exact⟨k+1,by omega,by go_num,fun j hj FR=>by
    by_cases h:j=k
    ·subst h;exact HP.out
    exact HN.out j (by omega) FR⟩
   simp[intOf];omega
  have HP:=Z' hp;clear hp
  go_wp2_with fail
  go_ret;exact⟨wN (dq SV HP.out (fun j hj FR=>HN.out j hj FR)).symm,rfl⟩
 go_wp2
 go_ret;exact⟨wN (cW (fun j hj=>HN.out j (by have:=HS.out.1;omega) hj)).symm,rfl⟩
theorem bE(p:UInt8->Bool)(bs:List UInt8):decide (0<=si p bs)=bs.any p:=by
 unfold si
 cases h:bs.findIdx? p with
 |none=>
  rw[List.findIdx?_eq_none_iff]at h;have:bs.any p=false:=by rw[List.any_eq_false];intro x hx;simp[h x hx]
  rw[this];rfl
 |some i=>
 obtain⟨hi,hp,_⟩:=List.findIdx?_eq_some_iff_getElem.1 h;have:bs.any p=true:=List.any_eq_true.2 ⟨_,List.getElem_mem hi,hp⟩;rw[this];simp
theorem dN(w:World)(a:Option Addr)(n cap:Nat)(bs:List UInt8)(f:Nat)(p:UInt8->Bool)(hs:Sl yp w a n bs)(hn:n<=65536)
  (he:∀(args:Array Value) (w:World),(callFunc f args).run prog w= .ok (.enter f args) w) (hf:∀(w:World) (c:UInt8),Calls prog f #[.int .u8 (c.toNat:Int)] w fun e w'=>e= .returned (.bool (p c))/\w=w'):
  Calls prog 135 #[.slice a n cap,.func (.func f) #[] #[]] w fun e w'=>e= .returned (.bool (bs.any p))/\w=w':=by
 have HI:=Z' (dy w a n cap bs f p hs hn he hf);have HP:=Z' (bE p bs);clear hs he hf;go_enter func135,ntmps135
 go_wp2_with fail
 refine HI.out.mono ?_;rintro e w1 ⟨rfl,rfl⟩;obtain⟨q,hq⟩:=Z8 (si p bs);rw[<-hq]at HP⊢;clear hq HI
 go_wp2
 go_ret;exact⟨by rw[<-HP.out];rfl,rfl⟩
theorem mW(w:World)(bs:List UInt8):∃c w1,(convert 9 43 (.string ⟨bs.toArray⟩)).run prog w= .ok (.slice (some ⟨w.heap.size,0,none⟩) bs.length c) w1/\
  Sl yp w1 (some ⟨w.heap.size,0,none⟩) bs.length bs/\bs.length<=c/\Below w.heap.size w w1/\w1.heap.size=w.heap.size+1:=by
 have hr:=Lib.run_convert_string_bytes (P:=prog) w 9 43 5 ⟨bs.toArray⟩ underlying9 underlying43 underlying5;have hsz:(⟨bs.toArray⟩:ByteArray).size=bs.length:=by simp[ByteArray.size]
 rw[hsz]at hr;refine⟨_,_,hr,⟨rfl,fun _=>⟨w.heap.size,0,rfl,by rw[Lib.bytesWorld_size];omega,fun i hi=> ?_⟩⟩,grownCap_ge _ _ _ _,⟨?_,?_,?_,by rw[Lib.bytesWorld_size];omega,fun k hk=>Lib.bytesWorld_at_old _ _ _ _ hk⟩,Lib.bytesWorld_size _ _ _⟩
 ·rw[Nat.zero_add,Lib.bytesWorld_cell _ _ _ i (by rw[hsz];exact hi)];simp[List.getD,hi,yp]
 ·simp[Lib.bytesWorld,World.freeze,World.alloc,World.drew,-World.alloc_eq,-World.drew_eq]
 ·simp[Lib.bytesWorld,World.freeze,World.alloc,World.drew,-World.alloc_eq,-World.drew_eq]
 simp[Lib.bytesWorld,World.freeze,World.alloc,World.drew,-World.alloc_eq,-World.drew_eq]
def Ss{α:Type}(z:Nat)(enc:α->List Value)(w:World)(a:Option Addr)(n:Nat)(xs:List α):Prop:=
 xs.length=n/\(0<n->∃b off,a=some ⟨b,off,none⟩/\b<w.heap.size/\∀i (_:i<xs.length) j,j<z->w.cell? ⟨b,off+i*z+j,none⟩=(enc xs[i])[j]?)
theorem mx(b o k:Nat):(⟨b,o,none⟩:Addr).add k=⟨b,o+k,none⟩:=by unfold Addr.add;split<;>simp_all
theorem yF{w w':World}(h:Below w.heap.size w w'){a:Addr}{v:Value}(hc:w.cell? a=some v):w'.cell? a=some v:=by
 have ZX:a.block<w.heap.size:=by
  unfold World.cell? at hc
  cases hb:w.heap[a.block]? with
  |none=>rw[hb]at hc;simp at hc
  |some o=>exact(Array.getElem?_eq_some_iff.1 hb).1
 rw[h.cell ZX];exact hc
section
variable {α:Type} {z:Nat} {enc:α->List Value}
theorem Ss.below{w w':World}{a:Option Addr}{n:Nat}{xs:List α}(h:Ss z enc w a n xs)(hb:Below w.heap.size w w'):Ss z enc w' a n xs:=by
 refine⟨h.1,fun hn=> ?_⟩;obtain⟨b,off,ha,ZX,hc⟩:=h.2 hn;exact⟨b,off,ha,Nat.lt_of_lt_of_le ZX hb.size,fun i hi j hj=>by rw[hb.cell (by simpa using ZX)];exact hc i hi j hj⟩
theorem Ss.nil(w:World)(a:Option Addr):Ss z enc w a 0 []:=⟨rfl,fun h=>by omega⟩
theorem td(hz:∀x,(enc x).length=z)(xs:List α):(xs.flatMap enc).length=xs.length*z:=by
 induction xs with
 |nil=>simp
 |cons x xs ih=>rw[List.flatMap_cons,List.length_append,hz,ih,List.length_cons,Nat.add_mul,Nat.one_mul,Nat.add_comm]
theorem qg(hz:∀x,(enc x).length=z)(xs:List α)(i:Nat)(hi:i<xs.length)(j:Nat)(hj:j<z):(xs.flatMap enc)[i*z+j]? =(enc xs[i])[j]? :=by
 induction xs generalizing i with
 |nil=>simp at hi
 |cons x xs ih=>
  rw[List.flatMap_cons]
  cases i with
  |zero=>rw[Nat.zero_mul,Nat.zero_add,List.getElem?_append_left (by rw[hz];exact hj)];simp
  |succ i=>
  rw[List.getElem?_append_right (by rw[hz,Nat.add_mul];omega),hz,show(i+1)*z+j-z=i*z+j by rw[Nat.add_mul];omega,ih i (by simpa using hi)];simp
theorem Ss.ofOwn(hz:∀x,(enc x).length=z)(z0:0<z){w:World}{base:Nat}{e:TypeId}{v:Value}{n:Nat}{xs:List α}(h:w.ownsRow base e z v n (xs.flatMap enc)):∃a cap,v= .slice a n cap/\Ss z enc w a n xs/\n<=cap:=by
 have hl:xs.length=n:=by
  have h1:=h.1;rw[td hz]at h1;exact Nat.eq_of_mul_eq_mul_right z0 h1
 rcases h.2 with⟨rfl,rfl⟩|⟨g,cap,cur,rfl,hb,hg,Px,_,_,ht⟩
 ·exact⟨none,0,rfl,⟨hl,fun h=>by omega⟩,Nat.le_refl _⟩
 refine⟨_,cap,rfl,⟨hl,fun _=>⟨g,0,rfl,(Array.getElem?_eq_some_iff.1 hg).1,fun i hi j hj=> ?_⟩⟩,Px⟩
 have ZX:i*z+j<n*z:=by
  have:(i+1)*z<=n*z:=Nat.mul_le_mul_right _ (by omega);rw[Nat.add_mul]at this;omega
 rw[Nat.zero_add,h.cellAt (i*z+j) ZX,qg hz xs i hi j hj]
end
def StE(t e:TypeId)(z0:Value)(z bytes:Nat):Prop:=prog.underlying t=some (.slice e)/\(prog.info? e).map (fun i=>(i.zero,i.size,i.bytes))=some (some z0,z,bytes)/\z0.cells.size=z
theorem cE{t e:TypeId}{z0:Value}{z bytes:Nat}(hO:StE t e z0 z bytes){w:World}{ops:Array Oper}{rest:List Oper}{o:Oper}{a:Act}{Q:Exit->Act->World->Prop}(XF:Region.wanted o (yielded ops a.tmps)=true)(s x:Operand)(tx:TypeId)
  (ho:o.op= .call {callee:= .builtin .append,args:= #[s,x],argTypes:= #[t,tx]})
  (base:Nat) (v:Value) (n:Nat) (xs:List Value) (hv:a.eval s=v) (Zk:w.ownsRow base e z v n xs)
  (y:Value) (m:Nat) (news:List Value) (hy:a.eval x=y) (hs:Src prog z tx y m news w) (ZR:(n+m)*bytes<=140737488355328) (hm:n+m<=maxLen) (Zw:base<=w.heap.size)
  (h:∀v' w',w'.ownsRow base e z v' (n+m) (xs++news)->w.grownBy w' v.ownBlock->Below base w w'->wpList prog ops Q rest (a.put o.dst v') w'):wpList prog ops Q (o::rest) a w:=by
 obtain⟨ht,Uj,hz⟩:=hO;obtain⟨i0,hi,RQ,Wi,U9⟩:=info_parts Uj;exact jZ XF s x t tx ho base e i0 z0 z bytes ht hi RQ Wi U9 hz v n xs hv Zk y m news hy hs hm ZR Zw (fun v' w' h1 h2 _=>h v' w' h1 h2 (pk Z6 Zw Zk h2))
theorem Src.litS{P:Program}{w:World}{z m c:Nat}{C:Array Value}{e tx e':TypeId}(hm:C.size=m*z)(XE:C.toList.all (·.oneCell')=true)(hk:P.underlying tx=some (.slice e')):
  Src P z tx (.slice (some ⟨w.heap.size,0,none⟩) m c) m C.toList (w.alloc (.cells C e)):=by
 refine Src.ofSlice _ hk ⟨w.heap.size,0,none⟩ m c _ (by simpa using hm) (fun j u hu=> ?_) (fun u hu=>List.all_eq_true.1 XE u hu);rw[mx,Nat.zero_add,cell_of_row _ w.heap.size j _ _ _ (heap_alloc_last w _)];simpa using hu
theorem wU{t e:TypeId}{z0:Value}{z bytes:Nat}(hO:StE t e z0 z bytes){w:World}{ops:Array Oper}{rest:List Oper}{o:Oper}{a:Act}{Q:Exit->Act->World->Prop}(XF:Region.wanted o (yielded ops a.tmps)=true)(s x:Operand)
  (ho:o.op= .call {callee:= .builtin .append,args:= #[s,x],argTypes:= #[t,t]})
  (base:Nat) (v:Value) (n:Nat) (xs:List Value) (hv:a.eval s=v) (Zk:w.ownsRow base e z v n xs)
  (C:Array Value) (m c sz:Nat) (hy:a.eval x= .slice (some ⟨sz,0,none⟩) m c) (hsz:w.heap.size=sz) (hC:C.size=m*z) (XE:C.toList.all (·.oneCell')=true) (ZR:(n+m)*bytes<=140737488355328) (hm:n+m<=maxLen) (Zw:base<=w.heap.size)
  (h:∀v' w',w'.ownsRow base e z v' (n+m) (xs++C.toList)->(w.alloc (.cells C e)).grownBy w' v.ownBlock->Below base w w'->wpList prog ops Q rest (a.put o.dst v') w'):wpList prog ops Q (o::rest) a (w.alloc (.cells C e)):=by
 subst hsz
 exact cE hO XF s x t ho base v n xs hv (Zk.alloc _) _ m _ hy (Src.litS hC XE hO.1) ZR hm (by simp;omega)
  (fun v' w' h1 h2 h3=>h v' w' h1 h2 ((Z6.alloc Zw _).trans h3))
theorem um{t e:TypeId}{z:Value}{bytes:Nat}(hO:tM t e z bytes){w:World}{ops:Array Oper}{rest:List Oper}{o:Oper}{a:Act}{Q:Exit->Act->World->Prop}(XF:Region.wanted o (yielded ops a.tmps)=true)(s x:Operand)
  (ho:o.op= .call {callee:= .builtin .append,args:= #[s,x],argTypes:= #[t,t]})
  (base:Nat) (v:Value) (n:Nat) (xs:List Value) (hv:a.eval s=v) (Zk:w.ownsRow base e 1 v n xs)
  (C:Array Value) (m c sz:Nat) (hy:a.eval x= .slice (some ⟨sz,0,none⟩) m c) (hsz:w.heap.size=sz) (hC:C.size=m) (XE:C.toList.all (·.oneCell')=true) (ZR:(n+m)*bytes<=140737488355328) (hm:n+m<=maxLen) (Zw:base<=w.heap.size)
  (h:∀v' w',w'.ownsRow base e 1 v' (n+m) (xs++C.toList)->(w.alloc (.cells C e)).grownBy w' v.ownBlock->Below base w w'->wpList prog ops Q rest (a.put o.dst v') w'):wpList prog ops Q (o::rest) a (w.alloc (.cells C e)):=by
 subst hsz;exact pQ hO XF s x ho base v n xs hv Zk C m c hy hC XE ZR hm Zw h
end
section
open Go.RowKit
def xb(P:Program)(ops:Array Oper)(Q:Exit->Act->World->Prop)(S:World->Prop)(i:Nat)(b:Bool)(K:Act->World->Prop)(a:Act)(w:World):Prop:=
 match ops[i]? with
 |none=>False
 |some o=>
  if Region.wanted o (yielded ops a.tmps)=true then
   (match b with
    |true=>∃v,(∀w',S w'->(execOp a.eval o).run P w'= .ok (.value v) w')/\S w/\K (a.put o.dst v) w
    |false=>o.wp P a w (fun a' w'=>S w'/\K a' w') Q)
  else S w/\K (a.put o.dst undef) w
def rJ(P:Program)(ops:Array Oper)(Q:Exit->Act->World->Prop)(S:World->Prop):List (Nat×Bool)->Act->World->Prop
 |[],a,w=>Q .normal a w
 |(i,b)::l,a,w=>xb P ops Q S i b (rJ P ops Q S l) a w
def qr(ops:Array Oper):Array Bool->List (Nat×Bool)->Bool
 |listed,[]=>(Region.ready .any ops listed).isEmpty
 |listed,(i,b)::l=>(if b then Region.free .any ops listed i&&(Region.ready .any ops listed).contains i else Region.ready .any ops listed==[i])&&qr ops (listed.setIfInBounds i true) l
theorem D2i{P:Program}{ops:Array Oper}{Q:Exit->Act->World->Prop}{S:World->Prop}(hs:Region.noSelect ops=true)(hQ:∀c a d v w,Q (.panic c) (a.put d v) w->Q (.panic c) a w):
  ∀(l:List (Nat×Bool)) (listed:Array Bool) (a:Act) (w:World),qr ops listed l=true->rJ P ops Q S l a w->wpAnyH P .any ops Q S l.length listed a w:=by
 intro l
 induction l with
 |nil=>
  intro listed a w hc h;exact⟨by simpa[qr]using hc,h⟩
 |cons p l ih=>
  obtain⟨i,b⟩:=p;intro listed a w hc h;simp only[qr,Bool.and_eq_true]at hc;obtain⟨Y5,Yz⟩:=hc;change xb P ops Q S i b (rJ P ops Q S l) a w at h;unfold xb at h
  cases ho:ops[i]? with
  |none=>rw[ho]at h;exact h.elim
  |some o=>
  rw[ho]at h;simp only at h
  cases b with
  |true=>
   simp only[if_true,Bool.and_eq_true]at Y5;obtain⟨hf,hr⟩:=Y5;by_cases hw:Region.wanted o (yielded ops a.tmps)=true
   ·rw[if_pos hw]at h;obtain⟨v,h1,h2,h3⟩:=h;exact wpAnyH_take ho hs hf hr (fun c a w=>hQ c a _ _ w) (.inl ⟨hw,h1⟩) h2 (ih _ _ _ Yz h3)
   rw[if_neg hw]at h;exact wpAnyH_take ho hs hf hr (fun c a w=>hQ c a _ _ w) (.inr ⟨by simpa using hw,rfl⟩) h.1 (ih _ _ _ Yz h.2)
  |false=>
  simp only[Bool.false_eq_true,if_false]at Y5;have hr:Region.ready .any ops listed=[i]:=by simpa using Y5
  refine wpAnyH_all hr (by simp) (fun j hj=> ?_);obtain rfl:j=i:=by simpa using hj
  unfold wpOp;rw[ho];simp only;by_cases hw:Region.wanted o (yielded ops a.tmps)=true
  ·rw[if_pos hw]at h;simp only[hw,if_true];exact .inl (Oper.wp_mono (fun a' w' h'=>⟨h'.1,ih _ _ _ Yz h'.2⟩) h)
  rw[if_neg hw]at h;simp only[hw];exact⟨h.1,ih _ _ _ Yz h.2⟩
theorem rX{P:Program}{id:Nat}{ops:Array Oper}{Q:Exit->Act->World->Prop}{a:Act}{w:World}(S:World->Prop)(l:List (Nat×Bool))(hm:P.follows .mixedOrders=true)
  (hc:(Region.noSelect ops&&(l.length==ops.size)&&qr ops (Array.replicate ops.size false) l)=true) (hQ:∀c a d v w,Q (.panic c) (a.put d v) w->Q (.panic c) a w)
  (h:rJ P ops Q S l a w.drew):(Code.region id ops true).wp P Q a w:=by
 simp only[Bool.and_eq_true,beq_iff_eq]at hc;obtain⟨⟨hs,hl⟩,hk⟩:=hc;have:=D2i (P:=P) (Q:=Q) (S:=S) hs hQ l _ a _ hk h;rw[hl]at this;exact wp_region_held hm this
theorem xh{P:Program}{ops:Array Oper}{Q:Exit->Act->World->Prop}{S:World->Prop}{i:Nat}{b:Bool}{l:List (Nat×Bool)}{a:Act}{w:World}
  (h:∀K:Act->World->Prop,(∀a w,rJ P ops Q S l a w->K a w)->xb P ops Q S i b K a w):rJ P ops Q S ((i,b)::l) a w:=h _ (fun _ _ h=>h)
theorem sr{P:Program}{ops:Array Oper}{Q:Exit->Act->World->Prop}{S:World->Prop}{a:Act}{w:World}(h:Q .normal a w):rJ P ops Q S [] a w:=h
theorem D9d{P:Program}{ops:Array Oper}{Q:Exit->Act->World->Prop}{S:World->Prop}{i:Nat}{o:Oper}{K:Act->World->Prop}{a:Act}{w:World}(ho:ops[i]? =some o)(hw:Region.wanted o (yielded ops a.tmps)=true)(v:Value)
  (hv:∀w',S w'->(execOp a.eval o).run P w'= .ok (.value v) w') (hS:S w) (h:K (a.put o.dst v) w):xb P ops Q S i true K a w:=by
 unfold xb;rw[ho];simp only[];rw[if_pos hw];exact⟨v,hv,hS,h⟩
theorem D6s{P:Program}{ops:Array Oper}{Q:Exit->Act->World->Prop}{S:World->Prop}{i:Nat}{o:Oper}{K:Act->World->Prop}{a:Act}{w:World}(ho:ops[i]? =some o)(hw:Region.wanted o (yielded ops a.tmps)=true)
  (h:o.wp P a w (fun a' w'=>S w'/\K a' w') Q):xb P ops Q S i false K a w:=by
 unfold xb;rw[ho];simp only[];rw[if_pos hw];exact h
theorem D8g{P:Program}{ops:Array Oper}{Q:Exit->Act->World->Prop}{S:World->Prop}{i:Nat}{b:Bool}{o:Oper}{K:Act->World->Prop}{a:Act}{w:World}(ho:ops[i]? =some o)(hw:Region.wanted o (yielded ops a.tmps)=false)
  (hS:S w) (h:K (a.put o.dst undef) w):xb P ops Q S i b K a w:=by
 unfold xb;rw[ho];simp only[];rw[if_neg (by rw[hw];decide)];exact⟨hS,h⟩
end
section
theorem qz(v n:Nat):yg v (n+1)=yg (v/256) n++[UInt8.ofNat (v%256)]:=by
 unfold yg;rw[List.range_succ,List.map_append];congr 1
 ·apply List.map_congr_left;intro i hi;have hi:=List.mem_range.1 hi;rw[show n+1-1-i=(n-1-i)+1 by omega,Nat.pow_succ,Nat.mul_comm,<-Nat.div_div_eq_div_mul]
 simp
theorem fh(cs:List UInt8):yg (vR cs) cs.length=cs:=by
 generalize hn:cs.length=n
 induction n generalizing cs with
 |zero=>rw[List.length_eq_zero_iff.1 hn];rfl
 |succ n ih=>
  have h1:cs≠[]:=by intro h;rw[h]at hn;simp at hn
  obtain⟨ds,c,rfl⟩:∃ds c,cs=ds++[c]:=⟨cs.dropLast,cs.getLast h1,(List.dropLast_concat_getLast h1).symm⟩;have hl:ds.length=n:=by simpa using hn
  have hc:=c.toNat_lt;rw[qz,pj,show(vR ds*256+c.toNat)/256=vR ds by omega,show(vR ds*256+c.toNat)%256=c.toNat by omega,ih ds hl];simp
theorem sW(v n:Nat):vR (yg v n)=v%256^n:=by
 induction n generalizing v with
 |zero=>simp[yg,vR,Nat.mod_one]
 |succ n ih=>
  rw[qz,pj,ih,UInt8.toNat_ofNat_of_lt' (by show v%256<256;omega),Nat.pow_succ,Nat.mul_comm (256^n) 256,Nat.mod_mul];omega
end
section
open Go.ChangeShapes Go.WideShapes Go.ChangeAt Go.RowKit
theorem fL{t e:TypeId}{z:Value}{bytes:Nat}(hO:tM t e z bytes){w:World}{ops:Array Oper}{o:Oper}{a:Act}{K:Act->World->Prop}{Q:Exit->Act->World->Prop}(XF:Region.wanted o (yielded ops a.tmps)=true)(s x:Operand)(tx:TypeId)
  (ho:o.op= .call {callee:= .builtin .append,args:= #[s,x],argTypes:= #[t,tx]})
  (base:Nat) (v:Value) (n:Nat) (xs:List Value) (hv:a.eval s=v) (Zk:w.ownsRow base e 1 v n xs)
  (y:Value) (m:Nat) (news:List Value) (hy:a.eval x=y) (hs:Src prog 1 tx y m news w) (ZR:(n+m)*bytes<=140737488355328) (hm:n+m<=maxLen) (Zw:base<=w.heap.size)
  (h:∀v' w',w'.ownsRow base e 1 v' (n+m) (xs++news)->w.grownBy w' v.ownBlock->Below base w w'->K (a.put o.dst v') w'):Oper.wp prog o a w K Q:=by
 have h1:=iH (E:=True) (ops:=ops) (Q:=Q) hO XF s x tx ho base v n xs hv Zk y m news hy hs ZR hm Zw h
 rwa [if_pos XF]at h1
structure KV where
 tag:Int
 a:Int
 b:Int
 n:Int
 s:List UInt8
def KV.cells(c:KV):List Value:=[.int .i64 c.tag,.int .i64 c.a,.int .i64 c.b,.int .i64 c.n,.string ⟨c.s.toArray⟩]
theorem KV.cells_length(c:KV):c.cells.length=5:=rfl
def kz:KV:=⟨0,0,0,0,[]⟩
def kAt(l:List KV)(i:Int):KV:=l.getD i.toNat kz
def isT(l:List KV)(i t:Int):Bool:=decide (1<=i/\i<l.length/\(kAt l i).tag=t)
def yN(l:List KV)(i:Int):List UInt8:=if isT l i 1 then(kAt l i).s else []
def yQ(l:List KV)(i:Int):List UInt8×Bool:=if isT l i 7 then(yN l (kAt l i).a,isT l (kAt l i).a 1)else([],false)
def xu(l:List KV)(i t:Int):List UInt8×List UInt8×List UInt8×Bool:=
 if(t=9\/t=10)/\isT l i t=true/\isT l (kAt l i).b 12=true/\(yQ l (kAt l i).a).2=true/\isT l (kAt l (kAt l i).b).a 1=true/\isT l (kAt l (kAt l i).b).b 1=true then
  ((yQ l (kAt l i).a).1,yN l (kAt l (kAt l i).b).a,yN l (kAt l (kAt l i).b).b,true)
 else([],[],[],false)
def yM(c:KV):Bool:=
 (decide (c.tag=1)||c.s.isEmpty)&&(decide (c.tag=5)||decide (c.n=0)||decide (c.tag=3/\-2147483648<=c.n/\c.n<=2147483647))&&
 (decide (c.tag=9\/c.tag=10\/c.tag=12)||decide (c.b=0))&&(decide (c.tag=9\/c.tag=10\/c.tag=12\/c.tag=7\/c.tag=8)||decide (c.a=0))
def yn(l:List KV)(i:Nat):Bool:=
 let c:=kAt l i
 if c.tag=0 then i==0||decide ((kAt l ((i:Int) -1)).tag=5)
 else if c.tag=1 then(wn c.s).isSome&&decide (c.s.length<=65535)
 else if c.tag=3 then true
 else if c.tag=5 then decide (i+1<l.length)&&decide ((kAt l ((i:Int)+1)).tag=0)
 else if c.tag=12 then isT l c.a 1&&isT l c.b 1
 else if c.tag=7\/c.tag=8 then isT l c.a 1
 else if c.tag=9\/c.tag=10 then isT l c.a 7&&isT l c.b 12
 else false
def xS(l:List KV)(i:Nat):Bool:=yM (kAt l i)&&yn l i
def xP(l:List KV):Bool:=decide (1<=l.length)&&decide (l.length<=1024)&&decide ((kAt l 0).tag=0)&&(List.range l.length).all (xS l)
def kW(s:Nat×Nat×Nat):List Value:=[.int .u8 (s.1:Nat),.int .u8 (s.2.1:Nat),.int .i64 (s.2.2:Nat)]
theorem dJ(s:Nat×Nat×Nat):(kW s).length=3:=rfl
def sQ:List (Nat×Nat×Nat):=[(0,10,1),(16,16,3),(17,17,4),(18,18,5),(20,20,6),(21,22,2),(25,25,2),(46,46,1),(50,51,1),(54,55,2),(58,58,2),(79,79,1),(83,84,1),(87,87,1),(89,89,1),(95,97,1),(100,101,1),(104,105,1),(108,109,1),(112,113,1),(116,117,1),(120,131,1),(132,132,8),(133,133,1),(136,136,1),(145,145,1),(148,148,1),(153,167,7),(172,173,1),(176,177,1),(178,182,6),(184,184,6),(187,187,6),(188,188,9),(189,189,6),(190,191,1),(192,193,6),(198,199,7)]
theorem iw:∀s∈sQ,(s:Nat×Nat×Nat).1<=s.2.1/\s.2.1<=255/\s.2.2<=9:=by decide
def rG(f:Nat->Nat)(s:Nat×Nat×Nat):Nat->Nat:=fun i=>if s.1<=i/\i<=s.2.1 then s.2.2 else f i
def sM(k:Nat):Nat->Nat:=(sQ.take k).foldl rG (fun _=>0)
def yX(op:Nat):Nat:=sM 38 op
theorem aB(k:Nat)(h:k<sQ.length):sM (k+1)=rG (sM k) sQ[k]:=by
 unfold sM;rw[List.take_succ_eq_append_getElem h,List.foldl_append];rfl
theorem D7c(f:Nat->Nat)(s:Nat×Nat×Nat)(h:s.2.2<=9)(hf:∀i,f i<=9)(i:Nat):rG f s i<=9:=by
 unfold rG;split
 ·exact h
 exact hf i
theorem E2v(l:List (Nat×Nat×Nat))(hl:∀s∈l,(s:Nat×Nat×Nat).2.2<=9)(f:Nat->Nat)(hf:∀i,f i<=9)(i:Nat):l.foldl rG f i<=9:=by
 induction l generalizing f with
 |nil=>exact hf i
 |cons s l ih=>exact ih (fun x hx=>hl x (List.mem_cons_of_mem _ hx)) _ (fun j=>D7c f s (hl s List.mem_cons_self) hf j)
theorem vg(op:Nat):yX op<=9:=by
 unfold yX sM;exact E2v _ (fun s hs=>(iw s (List.mem_of_mem_take hs)).2.2) _ (fun _=>Nat.zero_le _) op
def yC(f:Nat):Nat:=[0,1,2,2,3,2,3,3,3,2].getD f 0
def xB(f:Nat->Nat):Array Value:=((List.range 256).map fun i=>Value.int .u8 (f i:Nat)).toArray
theorem uA(f:Nat->Nat):(xB f).size=256:=by simp[xB]
theorem rM(f:Nat->Nat)(j:Nat)(h:j<256):(xB f)[j]? =some (.int .u8 (f j:Nat)):=by simp[xB,h]
def qR(f:Nat->Nat)(j x:Nat):Nat->Nat:=fun i=>if i=j then x else f i
theorem D8t(f:Nat->Nat)(j x:Nat):(xB f).setIfInBounds j (.int .u8 (x:Nat))=xB (qR f j x):=by
 apply Array.ext_getElem?;intro i;rw[Array.getElem?_setIfInBounds];by_cases hi:i<256
 ·rw[rM _ _ hi,rM _ _ hi];unfold qR;by_cases hk:j=i
  ·subst hk;simp[uA,hi]
  simp only[hk,if_false];rw[if_neg (Ne.symm hk)]
 have h1:(xB f)[i]? =none:=by simp[uA];omega
 have h2:(xB (qR f j x))[i]? =none:=by simp[uA];omega
 rw[h1,h2];split
 ·simp[uA];omega
 rfl
theorem mB(f:Nat->Nat):(xB f).all (·.oneCell')=true:=by
 simp[xB,Array.all_eq_true];intro i hi;rfl
def r8(f:Nat->Nat)(a j x:Nat):Nat->Nat:=fun i=>if a<=i/\i<j then x else f i
theorem bQ(f:Nat->Nat)(a x:Nat):r8 f a a x=f:=by
 funext i;unfold r8;rw[if_neg (by omega)]
theorem aT(f:Nat->Nat)(a j x:Nat)(h:a<=j):qR (r8 f a j x) j x=r8 f a (j+1) x:=by
 funext i;unfold qR r8;by_cases h1:i=j
 ·rw[if_pos h1,if_pos (by omega)]
 rw[if_neg h1];by_cases h2:a<=i/\i<j
 ·rw[if_pos h2,if_pos (by omega)]
 rw[if_neg h2,if_neg (by omega)]
theorem D6x(f:Nat->Nat)(a b x:Nat):r8 f a (b+1) x=rG f (a,b,x):=by
 funext i;unfold r8 rG;by_cases h:a<=i/\i<=b
 ·rw[if_pos (by omega),if_pos h]
 rw[if_neg (by omega),if_neg h]
def Ks(w:World)(a:Option Addr)(n:Nat)(L:List KV):Prop:=Ss 5 KV.cells w a n L
structure KAt(w:World)(b o:Nat)(c:KV):Prop where
 c0:w.cell? ⟨b,o,none⟩=some (.int .i64 c.tag)
 c1:w.cell? ⟨b,o+1,none⟩=some (.int .i64 c.a)
 c2:w.cell? ⟨b,o+2,none⟩=some (.int .i64 c.b)
 c3:w.cell? ⟨b,o+3,none⟩=some (.int .i64 c.n)
 c4:w.cell? ⟨b,o+4,none⟩=some (.string ⟨c.s.toArray⟩)
theorem Ks.below{w w':World}{a:Option Addr}{n:Nat}{L:List KV}(h:Ks w a n L)(hb:Below w.heap.size w w'):Ks w' a n L:=Ss.below h hb
theorem Ks.at{w:World}{a:Option Addr}{n:Nat}{L:List KV}(h:Ks w a n L)(i:Nat)(hi:i<n):∃b off,a=some ⟨b,off,none⟩/\b<w.heap.size/\KAt w b (off+i*5) (kAt L i):=by
 obtain⟨b,off,ha,ZX,hc⟩:=h.2 (by omega);have hl:i<L.length:=by rw[h.1];exact hi
 have hk:kAt L i=L[i]:=by unfold kAt;simp[List.getD,hl]
 refine⟨b,off,ha,ZX,?_⟩;rw[hk];exact⟨hc i hl 0 (by omega),hc i hl 1 (by omega),hc i hl 2 (by omega),hc i hl 3 (by omega),hc i hl 4 (by omega)⟩
theorem fC{L:List KV}{i t:Int}(h:i<1):isT L i t=false:=by unfold isT;rw[decide_eq_false];omega
theorem gM{L:List KV}{i t:Int}(h:(L.length:Int)<=i):isT L i t=false:=by unfold isT;rw[decide_eq_false];omega
theorem eP{L:List KV}{i t:Int}(h0:1<=i)(h1:i<L.length):isT L i t=decide ((kAt L i).tag=t):=by
 unfold isT;by_cases h:(kAt L i).tag=t
 ·rw[decide_eq_true h,decide_eq_true ⟨h0,h1,h⟩]
 rw[decide_eq_false h,decide_eq_false fun x=>h x.2.2]
theorem uh{L:List KV}{i t:Int}(h:isT L i t=true):1<=i/\i<L.length/\(kAt L i).tag=t:=of_decide_eq_true h
theorem tS(w:World)(a:Option Addr)(n cap:Nat)(L:List KV)(i t:Int)(hs:Ks w a n L)(hn:n<=65536):
  Calls prog 93 #[.slice a n cap,.int .i64 i,.int .i64 t] w fun e w'=>e= .returned (.bool (isT L i t))/\w=w':=by
 by_cases h1:i<1
 ·rw[fC h1];have h0:decide (0<i)=false:=by simp;omega
  clear hs;go_enter func93,ntmps93
  go_wp2_with fail
  go_ret;exact⟨rfl,rfl⟩
 by_cases h2:(n:Int)<=i
 ·rw[gM (by rw[hs.1];exact h2)];have h0:decide (0<i)=true:=by simp;omega
  have h3:decide (i<(n:Int))=false:=by simp;omega
  clear hs;go_enter func93,ntmps93
  go_wp2_with fail
  go_ret;exact⟨rfl,rfl⟩
 obtain⟨k,rfl⟩:∃k:Nat,i=k:=⟨i.toNat,by omega⟩;rw[eP (by omega) (by rw[hs.1];omega)];obtain⟨b,off,rfl,_,hk⟩:=hs.at k (by omega);have g0:=hk.c0;have k0:0<k:=by omega
 have k1:k<n:=by omega
 obtain⟨t0,Pu⟩:∃t0,t0=(kAt L k).tag:=⟨_,rfl⟩;rw[<-Pu]at g0⊢;clear hk hs h1 h2 Pu;by_cases ht:t0=t
 ·subst ht;have e1:(t0==t0)=true:=by simp
  go_enter func93,ntmps93
  go_wp2_with fail
  go_ret;exact⟨by simp,rfl⟩
 have e1:(t0==t)=false:=by simp[ht]
 rw[decide_eq_false ht];clear ht;go_enter func93,ntmps93
 go_wp2_with fail
 go_ret;exact⟨rfl,rfl⟩
theorem Ss.lit{α:Type}{z:Nat}{enc:α->List Value}(hz:∀x,(enc x).length=z){w:World}{g n:Nat}{xs:List α}{C:Array Value}{e:TypeId}{fr:Nat×Nat}(hg:w.heap[g]? =some (.cells C e fr))(hC:C=(xs.flatMap enc).toArray)(hn:xs.length=n):Ss z enc w (some ⟨g,0,none⟩) n xs:=by
 subst hC;refine⟨hn,fun _=>⟨g,0,rfl,(Array.getElem?_eq_some_iff.1 hg).1,fun i hi j hj=> ?_⟩⟩;rw[cell_of_row w g (0+i*z+j) _ e fr hg,Nat.zero_add];simp only[List.getElem?_toArray];exact qg hz xs i hi j hj
def D8r(w:World)(e:Ending)(w':World):Prop:=e= .returned (.slice (some ⟨w.heap.size,0,none⟩) 38 38)/\Ss 3 kW w' (some ⟨w.heap.size,0,none⟩) 38 sQ/\Below w.heap.size w w'/\w'.heap.size=w.heap.size+1
theorem D4s(w:World):Calls prog 146 #[] w (D8r w):=by
 go_enter func146,ntmps146
 go_wp2_with fail
 go_ret;exact⟨rfl,Ss.lit dJ (heap_alloc_last w _) rfl rfl,Z6.alloc Z5 _,by simp⟩
theorem mG{w:World}{g:Nat}{cs:Array Value}{t:TypeId}{fr:Nat×Nat}(h:w.heap[g]? =some (.cells cs t fr))(o:Nat)(v:Value):(w.setCell ⟨g,o,none⟩ v).heap[g]? =some (.cells (cs.setIfInBounds o v) t fr):=by
 unfold World.setCell;simp[Array.getElem?_modify,h]
theorem n8{w:World}{g h:Nat}(ZF:h≠g)(o:Nat)(v:Value):(w.setCell ⟨g,o,none⟩ v).heap[h]? =w.heap[h]? :=by
 unfold World.setCell;simp[Array.getElem?_modify,Ne.symm ZF]
theorem ig{w:World}{g:Nat}(o:Nat)(v:Value):(w.setCell ⟨g,o,none⟩ v).heap.size=w.heap.size:=by
 unfold World.setCell;simp
def zs8:Array Value:=Array.replicate 256 (.int .u8 0)
theorem ku(w:World):(zeroValue 164).run prog w= .ok (.agg zs8) w:=by kernel_rfl
theorem rN:(prog.info? 164).map (·.size)=some 256:=by kernel_rfl
theorem D5u:xB (fun _=>0)=zs8:=by
 unfold xB zs8;apply Array.ext';simp[List.map_const']
structure FW(w wr:World)(f:Nat->Nat):Prop where
 z:wr.heap[w.heap.size]? =some (.cells zs8 164)
 t:wr.heap[w.heap.size+1]? =some (.cells (xB f) 164)
 sp:Ss 3 kW wr (some ⟨w.heap.size+2,0,none⟩) 38 sQ
 b:Below w.heap.size w wr
theorem FW.below{w wr w':World}{f:Nat->Nat}(h:FW w wr f)(hb:Below wr.heap.size wr w'):FW w w' f:=
 ⟨by rw[hb.block _ (Array.getElem?_eq_some_iff.1 h.z).1];exact h.z,by rw[hb.block _ (Array.getElem?_eq_some_iff.1 h.t).1];exact h.t,h.sp.below hb,h.b.trans (hb.mono h.b.size)⟩
theorem FW.set{w wr:World}{f:Nat->Nat}(h:FW w wr f)(j x:Nat):FW w (wr.setCell ⟨w.heap.size+1,j,none⟩ (.int .u8 (x:Nat))) (qR f j x):=by
 refine⟨by rw[n8 (by omega)];exact h.z,by rw[<-D8t];exact mG h.t j _,⟨h.sp.1,fun hn=> ?_⟩,h.b.setCell (by show w.heap.size<=w.heap.size+1;omega) _⟩;obtain⟨b,off,ha,ZX,hc⟩:=h.sp.2 hn;refine⟨b,off,ha,by rw[ig];exact ZX,fun i hi k hk=> ?_⟩;rw[<-hc i hi k hk];simp only[Option.some.injEq,Addr.mk.injEq,and_true]at ha;unfold World.cell?;rw[n8 (by show b≠_;omega)]
theorem FW.cell{w wr:World}{f:Nat->Nat}(h:FW w wr f)(j:Nat)(hj:j<256):wr.cell? ⟨w.heap.size+1,j,none⟩=some (.int .u8 (f j:Nat))/\wr.frozen? ⟨w.heap.size+1,j,none⟩=false:=by
 refine⟨by rw[cell_of_row wr _ j _ _ _ h.t];exact rM f j hj,?_⟩;unfold World.frozen?;rw[h.t];simp
structure rD(w:World)(g:Nat)(x y z:Nat):Prop where
 c0:w.cell? ⟨g,0,none⟩=some (.int .u8 (x:Nat))
 c1:w.cell? ⟨g,1,none⟩=some (.int .u8 (y:Nat))
 c2:w.cell? ⟨g,2,none⟩=some (.int .i64 (z:Nat))
theorem rD.new(w:World)(x y z:Nat)(t:TypeId):rD (w.alloc (.cells #[.int .u8 (x:Nat),.int .u8 (y:Nat),.int .i64 (z:Nat)] t)) w.heap.size x y z:=
 ⟨by rw[cell_of_row _ _ 0 _ _ _ (heap_alloc_last w _)];rfl,by rw[cell_of_row _ _ 1 _ _ _ (heap_alloc_last w _)];rfl,by rw[cell_of_row _ _ 2 _ _ _ (heap_alloc_last w _)];rfl⟩
theorem rD.set{w:World}{g h:Nat}{x y z:Nat}(k:rD w g x y z)(ZF:g≠h)(o:Nat)(v:Value):rD (w.setCell ⟨h,o,none⟩ v) g x y z:=by
 have key:∀i,(w.setCell ⟨h,o,none⟩ v).cell? ⟨g,i,none⟩=w.cell? ⟨g,i,none⟩:=fun i=>by unfold World.cell?;rw[n8 ZF]
 exact⟨by rw[key];exact k.c0,by rw[key];exact k.c1,by rw[key];exact k.c2⟩
def E0m(w:World)(e:Ending)(w':World):Prop:=e= .returned (.agg (xB yX))/\Below w.heap.size w w'
theorem mU(w:World):Calls prog 98 #[] w (E0m w):=by
 have hz:=ku;go_enter func98,ntmps98
 go_wp2_with fail
 clear hz;refine(D4s _).mono ?_;rintro e w1 ⟨rfl,SF,ZQ,Wi⟩;have hsz:((w.alloc (.cells zs8 164)).alloc (.cells zs8 164)).heap.size=w.heap.size+2:=by simp
 rw[hsz]at SF
 have HF:=Z9 (FW w w1 (sM 0)) (⟨by
   rw[ZQ.block _ (by simp;omega),Below.heap_alloc _ _ _ (by simp)];exact heap_alloc_last w _,by
   rw[ZQ.block _ (by simp)];have:=heap_alloc_last (w.alloc (.cells zs8 164)) (.cells zs8 164);rw[show(w.alloc (.cells zs8 164)).heap.size=w.heap.size+1 by simp]at this;rw[show sM 0=(fun _=>0)from rfl,D5u];exact this,SF,((Z6.alloc Z5 _).alloc (by simp) _).trans (ZQ.mono (by simp;omega))⟩)
 clear SF ZQ Wi hsz
 go_wp2_with fail
 go_loopg [7] 38 (fun gn i wr=>∃k:Nat,k<=38/\gn=38-k/\i= .int .i64 k/\Hid (FW w wr (sM k)))
 case atStart=>exact⟨0,by omega,rfl,by go_num,HF⟩
 obtain⟨k,hk,rfl,rfl,HF⟩:=hrel;by_cases ZX:k<38
 ·obtain⟨b,off,ha,_,hc⟩:=HF.out.sp.2 (by decide);simp only[Option.some.injEq,Addr.mk.injEq,and_true]at ha;obtain⟨rfl,rfl⟩:=ha;have SV:k<sQ.length:=ZX;have q0:=hc k SV 0 (by decide);have q1:=hc k SV 1 (by decide);have q2:=hc k SV 2 (by decide);have XC:=iw sQ[k] (List.getElem_mem SV);have HN:=Z' (aB k SV);clear hc;generalize hs:sQ[k]=s at*;obtain⟨x,y,z⟩:=s;simp only at XC;have r0:wr.cell? ⟨w.heap.size+1+1,k*3,none⟩=some (.int .u8 (x:Nat)):=by rw[Nat.zero_add,Nat.add_zero]at q0;exact q0
  have r1:wr.cell? ⟨w.heap.size+1+1,k*3+1,none⟩=some (.int .u8 (y:Nat)):=by rw[Nat.zero_add]at q1;exact q1
  have r2:wr.cell? ⟨w.heap.size+1+1,k*3+2,none⟩=some (.int .i64 (z:Nat)):=by rw[Nat.zero_add]at q2;exact q2
  clear q0 q1 q2;clear hs;have k1:(k:Int)<38:=by omega
  go_upto_region 5 with fail
  have HS:=Z' (rD.new wr x y z 208);have Br:=Z' (HF.out.below (Z6.alloc Z5 (.cells #[.int .u8 (x:Nat),.int .u8 (y:Nat),.int .i64 (z:Nat)] 208)));have hg:w.heap.size+1<wr.heap.size:=by have:=(Array.getElem?_eq_some_iff.1 HF.out.t).1;omega
  clear r0 r1 r2;generalize hW:wr.alloc (.cells #[.int .u8 (x:Nat),.int .u8 (y:Nat),.int .i64 (z:Nat)] 208)=W at*;clear hW;obtain⟨p0,p1,p2⟩:=HS.out
  go_wp2_with fail
  clear p0 p1 p2;generalize wr.heap.size=g at*
  go_loopg [4] (y+1-x) (fun gn i wx=>∃j:Nat,x<=j/\j<=y+1/\gn=y+1-j/\i= .int .i64 j/\Hid (FW w wx (r8 (sM k) x j z))/\Hid (rD wx g x y z))
  case atStart=>exact⟨x,by omega,by omega,rfl,by go_num,Z' (by rw[bQ];exact Br.out),HS⟩
  obtain⟨j,XZ,FF,rfl,rfl,HW,HX⟩:=hrel;obtain⟨p0,p1,p2⟩:=HX.out;by_cases GP:j<y+1
  ·have e1:decide ((j:Int)<=y)=true:=by simp;omega
   obtain⟨c0,f0⟩:=HW.out.cell j (by omega);have j1:(j:Int)<256:=by omega
   have z1:(z:Int)<256:=by omega
   go_wp2_with fail
   go_roundg (y+1-(j+1))
   case measure=>omega
   exact⟨j+1,by omega,by omega,rfl,by go_num,Z' (by rw[<-aT _ _ _ _ XZ];exact HW.out.set j z),Z' (HX.out.set (by omega) j _)⟩
  have e1:decide ((j:Int)<=y)=false:=by simp;omega
  obtain rfl:j=y+1:=by omega
  go_wp2_with fail
  go_roundg (38-(k+1))
  case measure=>omega
  exact⟨k+1,by omega,rfl,by go_num,Z' (by rw[HN.out,<-D6x];exact HW.out)⟩
 obtain rfl:k=38:=by omega
 have H:=Z' HF.out.t;have H0:=Z' HF.out.z
 go_wp2_with (first
  |(refine wpList_load_row rfl _ _ rfl _ rfl _ _ _ _ H.out underlying164 rfl (by rw[uA];exact rN) ?_)
  |(refine wpList_store_row rfl _ _ _ rfl _ _ rfl rfl _ _ H0.out (by rw[uA];exact rN) (by simp[uA,zs8]) (mB _) ?_))
 refine bodyPost_ret (v:= .agg (xB yX)) (results_cell_row rfl _ _ w.heap.size _ _ _ _ rfl (setRow_heap _ _ _ _ _ _ H0.out) underlying164 rfl (by rw[uA];exact rN)) rfl ⟨rfl,below_setRow HF.out.b Z5 _⟩
end
section
open Go.RowKit
theorem qJ{P:Program}{md:Region.Mode}{ops:Array Oper}{Q:Exit->Act->World->Prop}{S S':World->Prop}(hS:∀x,S' x->S x):
  ∀(fuel:Nat) (listed:Array Bool) (a:Act) (w:World),wpAnyH P md ops Q S' fuel listed a w->wpAnyH P md ops Q S fuel listed a w
 |0,_,_,_,h=>h
 |fuel+1,_,_,_,h=>⟨h.1,fun i hi=>wpOp_mono (fun a' w' h'=>⟨hS _ h'.1,qJ hS fuel _ a' w' h'.2⟩) (h.2 i hi)⟩
end
section
open Go.ChangeShapes Go.WideShapes Go.ChangeAt Go.RowKit
structure ns(w w1:World)(g:Nat)(x y z:Value):Prop where
 c0:w1.cell? ⟨g,0,none⟩=some x
 c1:w1.cell? ⟨g,1,none⟩=some y
 c2:w1.cell? ⟨g,2,none⟩=some z
 f0:w1.frozen? ⟨g,0,none⟩=false
 f1:w1.frozen? ⟨g,1,none⟩=false
 f2:w1.frozen? ⟨g,2,none⟩=false
 lt:g<w1.heap.size
theorem ns.of{w w1:World}{g:Nat}{x y z:Value}{t:TypeId}(h:w.heap[g]? =some (.cells #[x,y,z] t))(hb:Below w.heap.size w w1):ns w w1 g x y z:=by
 have ZX:g<w.heap.size:=(Array.getElem?_eq_some_iff.1 h).1;have hg:w1.heap[g]? =some (.cells #[x,y,z] t):=by rw[hb.block _ ZX];exact h
 refine⟨?_,?_,?_,?_,?_,?_,(Array.getElem?_eq_some_iff.1 hg).1⟩
 ·rw[cell_of_row w1 _ 0 _ _ _ hg];rfl
 ·rw[cell_of_row w1 _ 1 _ _ _ hg];rfl
 ·rw[cell_of_row w1 _ 2 _ _ _ hg];rfl
 all_goals (unfold World.frozen?;rw[hg];rfl)
theorem wZ{w:World}{g:Nat}{cs:Array Value}{t:TypeId}{fr:Nat×Nat}(h:w.heap[g]? =some (.cells cs t fr))(o:Nat)(v:Value):(w.setCell ⟨g,o,none⟩ v).heap[g]? =some (.cells (cs.setIfInBounds o v) t fr):=by
 unfold World.setCell;simp[Array.getElem?_modify,h]
def tL(w:World)(g:Nat)(x y z:Value)(t:TypeId):Prop:=w.heap[g]? =some (.cells #[x,y,z] t)
theorem tL.below{w w1:World}{g:Nat}{x y z:Value}{t:TypeId}(h:tL w g x y z t)(hb:Below w.heap.size w w1):tL w1 g x y z t:=by
 unfold tL;rw[hb.block _ (Array.getElem?_eq_some_iff.1 h).1];exact h
theorem tL.box{w:World}{g:Nat}{x y z:Value}{t:TypeId}(h:tL w g x y z t):ns w w g x y z:=ns.of h Z6
end
end Go.Proofs.YtclpkipaehpkdaaGreatDoor
