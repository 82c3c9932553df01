/- asm -/
import Derived.Test.YtclpkipaehpkdaaGreatDoorQ10AsmMade
set_option linter.unusedVariables false
set_option linter.unusedSimpArgs false
set_option maxRecDepth 100000
set_option maxHeartbeats 64000000
namespace Go.Proofs.YtclpkipaehpkdaaGreatDoor
section
open Go.ChangeShapes Go.WideShapes Go.ChangeAt Go.RowKit
theorem A3h{t e:TypeId}{z0:Value}{z bytes:Nat}(hO:StE t e z0 z bytes){w:World}{ops:Array Oper}{o:Oper}{a:Act}{K:Act->World->Prop}{Q:Exit->Act->World->Prop}(hgd:Region.wanted o (yielded ops a.tmps)=true)(s x:Operand)(tx:TypeId)
  (ho:o.op= .call {callee:= .builtin .append,args:= #[s,x],argTypes:= #[t,tx]})
  (base:Nat) (v:Value) (n:Nat) (xs:List Value) (hv:a.eval s=v) (hown:w.ownsRow base e z v n xs)
  (y:Value) (m:Nat) (news:List Value) (hy:a.eval x=y) (hs:Src Tryz.prog z tx y m news w) (hlen:(n+m)*bytes<=140737488355328) (hm:n+m<=maxLen) (hbase:base<=w.heap.size)
  (h:∀v' w',w'.ownsRow base e z v' (n+m) (xs++news)->w.grownBy w' v.ownBlock->Below base w w'->K (a.put o.dst v') w'):Oper.wp Tryz.prog o a w K Q:=by
 obtain⟨ht,hinf,hz⟩:=hO;obtain⟨i0,hi,hz0,hz1,hz2⟩:=info_parts hinf
 have h1:=C4w (E:=True) (Q:=Q) hgd s x t tx ho base e i0 z0 z bytes ht hi hz0 hz1 hz2 hz v n xs hv hown y m news hy hs hm hlen hbase (fun v' w' h1 h2=>h v' w' h1 h2 (B1e brz hbase hown h2))
 rwa [if_pos hgd]at h1
theorem UM.Own.code1{x:UM}{w w9:World}{B:Nat}{v:Option Addr}{c:Nat}{i:IN}(h:x.Own w B)(ht:A2p 54 w w9)(ho:w9.ownsRow B 54 7 (.slice v (x.cn+1) c) (x.cn+1) ((x.code++[i]).flatMap IN.cells)):UM.Own {x with ca:=v,cn:=x.cn+1,cc:=c,code:=x.code++[i]} w9 B:=
 ⟨ho,A0k h.traps ht (by decide),A0k h.maps ht (by decide),fun p hp=>(h.each p hp).keptT ht (by decide)⟩
theorem UM.Own.traps1{x:UM}{w w9:World}{B:Nat}{v:Option Addr}{c:Nat}{i:UT}(h:x.Own w B)(ht:A2p 85 w w9)(ho:w9.ownsRow B 85 4 (.slice v (x.tn+1) c) (x.tn+1) ((x.traps++[i]).flatMap UT.cells)):UM.Own {x with ta:=v,tn:=x.tn+1,tc:=c,traps:=x.traps++[i]} w9 B:=
 ⟨A0k h.code ht (by decide),ho,A0k h.maps ht (by decide),fun p hp=>(h.each p hp).keptT ht (by decide)⟩
theorem UM.Own.maps1{x:UM}{w w9:World}{B:Nat}{v:Option Addr}{c:Nat}{i:UP}(h:x.Own w B)(ht:A2p 88 w w9)(ho:w9.ownsRow B 88 3 (.slice v (x.mn+1) c) (x.mn+1) ((x.maps++[i]).flatMap UP.cells))(hi:i.Own w9 B):UM.Own {x with ma:=v,mn:=x.mn+1,mc:=c,maps:=x.maps++[i]} w9 B:=
 ⟨A0k h.code ht (by decide),A0k h.traps ht (by decide),ho,fun p hp=>by
  rcases List.mem_append.1 hp with hp|hp
  ·exact(h.each p hp).keptT ht (by decide)
  obtain rfl:p=i:=by simpa using hp
  exact hi⟩
theorem UM.p_code1{x X:UM}(h:x.p=X)(v:Option Addr)(n c:Nat)(i:IN):UM.p {x with ca:=v,cn:=n,cc:=c,code:=x.code++[i]}={X with code:=X.code++[i]}:=by
 subst h;rfl
theorem UM.p_traps1{x X:UM}(h:x.p=X)(v:Option Addr)(n c:Nat)(i:UT):UM.p {x with ta:=v,tn:=n,tc:=c,traps:=x.traps++[i]}={X with traps:=X.traps++[i]}:=by
 subst h;rfl
theorem UM.p_maps1{x X:UM}(h:x.p=X)(v:Option Addr)(n c:Nat)(i:UP):UM.p {x with ma:=v,mn:=n,mc:=c,maps:=x.maps++[i]}={X with maps:=X.maps++[i.p]}:=by
 subst h;simp[UM.p]
theorem A0j.new2{p q:Nat->Prop}{w w1 w2:World}(h:A0j p w w1)(k:A0j q w1 w2)(hq:∀x,q x->p x\/w.heap.size<=x):A0j p w w2:=
 ⟨k.os.trans h.os,k.tape.trans h.tape,k.output.trans h.output,Nat.le_trans h.size k.size,fun i hi hg=>by
  rw[k.block i (Nat.lt_of_lt_of_le hi h.size) (fun e=>by rcases hq i e with e|e;exact hg e;omega),h.block i hi hg]⟩
def Q15(gt:Nat)(t:KT)(wx:World):Prop:=wx.heap[gt]? =some (.cells t.cells.toArray 123 (0,0))
def Q23(s g go gp:Nat)(p:KP)(v:Value)(w:World):Prop:=w.heap[gp]? =some (.cells p.cells.toArray 68 (0,0))/\w.cell? ⟨s,0,none⟩=some (.pointer (some ⟨g,0,none⟩))/\w.cell? ⟨go,7,none⟩=some v
theorem Ss.offold{α:Type}{z:Nat}{enc:α->List Value}{D:World}{a:Option Addr}{n g:Nat}{xs:List α}(h:Ss z enc D a n xs)(hg:D.heap.size<=g):B1t a n g:=by
 intro hn b off ha;obtain⟨b',off',e2,hlt,_⟩:=h.2 hn;rw[ha]at e2;simp only[Option.some.injEq,Addr.mk.injEq]at e2;omega
theorem C3t{K:List KV}{s:KS}(h:A5j K s=true):C5u s:=by
 unfold A5j at h;unfold C5u;split at h
 ·omega
 simp only[Bool.and_eq_true,decide_eq_true_iff]at h;omega
theorem C3d{K:List KV}{p:KP}{w:World}(h:A8i K p=true)(hr:p.Rd w):(0<=p.pl/\p.pl<=65535)/\p.ln<=64/\p.sn<=64/\(∀s∈p.loc,C5u s)/\(∀s∈p.stk,C5u s):=by
 unfold A8i A8b A5i at h;simp only[Bool.and_eq_true,decide_eq_true_iff,List.all_eq_true]at h;obtain⟨⟨h1,h2,h3⟩,h4,h5⟩:=h;have l1:=hr.loc.1;have l2:=hr.stk.1
 exact⟨h1,by omega,by omega,fun s hs=>C3t (h3 s hs),fun s hs=>C3t (h5 s hs)⟩
def z0M:UM:=⟨false,[],[],0,0,none,0,0,[],none,0,0,[],none,0,0,[]⟩
structure Mc1(w wx:World)(g:Nat)(a:Option Addr)(n cap:Nat)(K:List KV)(er:Int)(m:KM)(x:UM):Prop where
 k:wx.heap[w.heap.size]? =some (.cells #[.pointer (some ⟨g,0,none⟩)] 70 (0,0))
 m:wx.heap[w.heap.size+1]? =some (.cells m.cells.toArray 65 (0,0))
 z:wx.heap[w.heap.size+2]? =some (.cells z0M.cells.toArray A1d (0,0))
 o:wx.heap[w.heap.size+3]? =some (.cells x.cells.toArray A1d (0,0))
 l:LfS wx g a n cap K er
 kp:A0j (fun k=>k=g) w wx
theorem Mc1.below{w wx w9:World}{g:Nat}{a:Option Addr}{n cap:Nat}{K:List KV}{er:Int}{m:KM}{x:UM}(h:Mc1 w wx g a n cap K er m x)(hb:Below wx.heap.size wx w9):Mc1 w w9 g a n cap K er m x:=
 ⟨A0e h.k hb,A0e h.m hb,A0e h.z hb,A0e h.o hb,h.l.below hb,h.kp.trans (A0j.of hb)⟩
theorem Mc1.call{w wx w9:World}{g:Nat}{a:Option Addr}{n cap:Nat}{K:List KV}{er er':Int}{m:KM}{x:UM}(h:Mc1 w wx g a n cap K er m x)(hl:LfS w9 g a n cap K er')(hk:A0j (fun k=>k=g) wx w9)(hg:g<w.heap.size):Mc1 w w9 g a n cap K er' m x:=
 ⟨hk.row h.k (by omega),hk.row h.m (by omega),hk.row h.z (by omega),hk.row h.o (by omega),hl,h.kp.trans hk⟩
def Bx2(s g:Nat)(m:KM)(w:World):Prop:=w.heap[s]? =some (.cells #[.pointer (some ⟨g,0,none⟩)] 70 (0,0))/\w.heap[s+1]? =some (.cells m.cells.toArray 65 (0,0))
def D1n(s g:Nat)(nm ds:List UInt8)(w:World):Prop:=w.cell? ⟨s,0,none⟩=some (.pointer (some ⟨g,0,none⟩))/\w.cell? ⟨s+3,1,none⟩=some (.string ⟨nm.toArray⟩)/\w.cell? ⟨s+3,2,none⟩=some (.string ⟨ds.toArray⟩)
theorem A5t:(Tryz.prog.info? A1d).map (·.size)=some 8:=by kernel_rfl
theorem B3b:(Tryz.prog.info? 85).map (·.size)=some 4:=by kernel_rfl
theorem E1k(x:UT):x.cells.toArray.all (·.oneCell')=true:=by
 simp[UT.cells,Value.oneCell']
theorem D8h(x:UM):x.cells.toArray.all (·.oneCell')=true:=by
 simp[UM.cells,Value.oneCell']
theorem D2n{w W:World}{g:Nat}{a:Option Addr}{n cap:Nat}{K:List KV}{er:Int}{m:KM}(x:UM)(H:LfS w g a n cap K er)(hb:Below w.heap.size w W)(hs:W.heap.size=w.heap.size+3)
  (h1:W.heap[w.heap.size]? =some (.cells #[.pointer (some ⟨g,0,none⟩)] 70 (0,0))) (h2:W.heap[w.heap.size+1]? =some (.cells m.cells.toArray 65 (0,0))) (h3:W.heap[w.heap.size+2]? =some (.cells z0M.cells.toArray A1d (0,0))):
  Mc1 w ((W.drew.alloc (.cells z0M.cells.toArray A1d)).setRow (w.heap.size+3) x.cells.toArray) g a n cap K er m x/\Bx2 w.heap.size g m (W.drew.alloc (.cells z0M.cells.toArray A1d))/\(W.drew.alloc (.cells z0M.cells.toArray A1d)).heap[w.heap.size+3]? =some (.cells z0M.cells.toArray A1d (0,0)):=by
 have hb2:Below W.heap.size W (W.drew.alloc (.cells z0M.cells.toArray A1d)):=(brz.drew).alloc nlz _
 have hz:(W.drew.alloc (.cells z0M.cells.toArray A1d)).heap[w.heap.size+3]? =some (.cells z0M.cells.toArray A1d (0,0)):=by
  have:=heap_alloc_last W.drew (.cells z0M.cells.toArray A1d);rw[show W.drew.heap.size=w.heap.size+3 from hs]at this;exact this
 have hk:A0j (fun k=>k=w.heap.size+3) (W.drew.alloc (.cells z0M.cells.toArray A1d)) ((W.drew.alloc (.cells z0M.cells.toArray A1d)).setRow (w.heap.size+3) x.cells.toArray):=A0j.setrow (A0j.refl (fun k=>k=w.heap.size+3) _) (.inl rfl) _
 have hl:=H.lt;have h0:=H.g0
 refine⟨⟨hk.row (A0e h1 hb2) (by omega),hk.row (A0e h2 hb2) (by omega),hk.row (A0e h3 hb2) (by omega),setRow_heap _ _ _ _ _ _ hz,?_,?_⟩,⟨A0e h1 hb2,A0e h2 hb2⟩,hz⟩
 ·exact((H.below hb).below hb2).keep hk (by omega) (by omega) (fun hn b off e e2=>by
   obtain⟨b',off',e3,hlt,_⟩:=H.ks.2 hn;rw[e]at e3;simp only[Option.some.injEq,Addr.mk.injEq]at e3;omega)
 exact((A0j.of (p:=fun k=>k=g) hb).trans (A0j.of hb2)).new (hk.weak fun k _ e=>by omega)
theorem D1n.below{s g:Nat}{nm ds:List UInt8}{w w':World}(h:D1n s g nm ds w)(hb:Below w.heap.size w w'):D1n s g nm ds w':=⟨A0c hb h.1,A0c hb h.2.1,A0c hb h.2.2⟩
theorem C3m{w:World}{B:Nat}{e:TypeId}{z:Nat}{a:Option Addr}{n c:Nat}{xs:List Value}{g:Nat}(h:w.ownsRow B e z (.slice a n c) n xs)(hg:g<B):B1t a n g:=by
 intro hn b off ha
 rcases h.2 with⟨h1,h2⟩|⟨b',cap,cur,hv,hb,hc,r⟩
 ·cases h1
  omega
 cases hv
 cases ha
 omega
theorem D4f(bs:List UInt8):∀(fuel p:Nat) (acc:List RW),(B1v bs fuel p acc).2.length<=acc.length+fuel:=by
 intro fuel
 induction fuel with
 |zero=>intro p acc;simp[B1v]
 |succ fuel ih=>
  intro p acc;unfold B1v
  repeat' split
  ·exact Nat.le_add_right _ _
  ·simp
  ·simp
  ·simp
  refine Nat.le_trans (ih _ _) ?_;simp only[List.length_append,List.length_singleton];omega
theorem C1v(bs:List UInt8):(A2h bs).2.length<=bs.length+1:=by
 have:=D4f bs (bs.length+1) 0 [];unfold A2h
 repeat' split
 ·simp
 ·simp
 ·simpa using this
 simp
theorem C6d(er de:Int):A2a er (de==0) de=0↔er=0/\de=0:=by
 unfold A2a;by_cases h:de=0
 ·subst h;simp
 by_cases h2:er=0
 ·simp[h,h2]
 simp[h2]
theorem D2i(bs:List UInt8):∀(fuel p:Nat) (acc:List RW),∀r∈(B1v bs fuel p acc).2,r∈acc\/∃q,r=B2j bs q:=by
 intro fuel
 induction fuel with
 |zero=>intro p acc r hr;exact .inl hr
 |succ fuel ih=>
  intro p acc r hr;unfold B1v at hr;split at hr
  ·exact .inl hr
  split at hr
  ·cases hr
  split at hr
  ·cases hr
  split at hr
  ·cases hr
  rcases ih _ _ r hr with h|h
  ·rcases List.mem_append.1 h with h|h
   ·exact .inl h
   exact .inr ⟨p,by simpa using h⟩
  exact .inr h
theorem C0p(bs:List UInt8)(r:RW)(hr:r∈(A2h bs).2):∃q,r=B2j bs q:=by
 have key:r∈(B1v bs (bs.length+1) 0 []).2:=by
  unfold A2h at hr;split at hr
  ·cases hr
  split at hr
  ·cases hr
  split at hr
  ·exact hr
  cases hr
 rcases D2i bs _ _ _ r key with h|h
 ·cases h
 exact h
theorem D0k(bs:List UInt8)(r:RW)(hr:r∈(A2h bs).2)(hf:A0g r.op=5\/A0g r.op=6):0<=r.a/\r.a<1048576:=by
 obtain⟨q,rfl⟩:=C0p bs r hr;have ht:=B4c bs q (A0g (A6n bs q));have hf2:A0g (A6n bs q)=5\/A0g (A6n bs q)=6:=hf
 have:(B2j bs q).a=A3t bs q (A0g (A6n bs q)):=by
  show A3a bs q (A0g (A6n bs q))=_;unfold A3a
  rcases hf2 with h|h
  ·rw[h];rfl
  rw[h];rfl
 rw[this];omega
theorem LfS.offnew{w:World}{g:Nat}{a:Option Addr}{n cap:Nat}{L:List KV}{er:Int}(h:LfS w g a n cap L er){go:Nat}(hg:w.heap.size<=go):B1t a n go:=by
 intro hn b off ha;obtain⟨b',off',e2,hlt,_⟩:=h.ks.2 hn;rw[ha]at e2;simp only[Option.some.injEq,Addr.mk.injEq]at e2;omega
def Q9(s g go gr ga b:Nat)(r:RW)(v:Value)(w:World):Prop:=w.heap[gr]? =some (.cells r.cells.toArray 118 (0,0))/\w.cell? ⟨s,0,none⟩=some (.pointer (some ⟨g,0,none⟩))/\w.cell? ⟨go,5,none⟩=some v/\w.cell? ⟨ga,0,none⟩=some (.map (some b))
theorem C0e{K:List KV}{m:KM}{w:World}(h:A3z K m=true)(hr:m.Rd w):m.cn<=4096/\m.tn<=255/\m.mn<=255/\(∀t∈m.traps,A7b K t=true)/\(∀p∈m.maps,A8i K p=true)/\A4f K m.fl m.nm m.ds=true:=by
 unfold A3z at h;simp only[Bool.and_eq_true,List.all_eq_true]at h;obtain⟨⟨⟨⟨⟨h1,h2⟩,h3⟩,h4⟩,h5⟩,h6⟩:=h;unfold A9d at h3;rw[decide_eq_true_iff]at h3;have l1:=hr.code.1;have l2:=hr.traps.1
 have l3:=hr.maps.1;exact⟨by omega,by omega,by omega,h4,h5,h1⟩
def D2w(g:Nat)(a:Option Addr)(n cap:Nat)(K:List KV)(er:Int)(m:KM)(w:World)(e:Ending)(w':World):Prop:=∃x:UM,x.p=B9k K m/\x.Own w' w.heap.size/\LfR (.agg x.cells.toArray) g a n cap K er (B9m K m) w e w'
theorem C1j(w D:World)(g:Nat)(a:Option Addr)(n cap:Nat)(K:List KV)(er:Int)(m:KM)(h:LfS w g a n cap K er)(hD:m.Rd D)(hDw:Below D.heap.size D w)(hDg:D.heap.size<=g)(hok:A3z K m=true):
  Calls Tryz.prog 24 #[.pointer (some ⟨g,0,none⟩),.agg #[.int .i64 m.fl,.int .i64 m.nm,.int .i64 m.ds,.int .i64 m.st,.int .i64 m.lo,.slice m.ca m.cn m.cc,.slice m.ta m.tn m.tc,.slice m.ma m.mn m.mc]] w (D2w g a n cap K er m w):=by
 have H:=hzz h;have HD:=hzz hD;have HDW:=hzz hDw;have HOK:=hzz hok;have hgl:g<w.heap.size:=h.lt;have hg0:0<g:=h.g0;obtain⟨sb,hsb⟩:=exz (decide (m.fl=8))
 have esb:(m.fl==8)=sb:=by rw[hsb,Bool.eq_iff_iff,beq_iff_eq,decide_eq_true_iff]
 obtain⟨NM,hNM⟩:=exz (A1c K m.nm);obtain⟨DS,hDS⟩:=exz (A1c K m.ds);have HT1:=hzz (fun(W:World) (hW:LfS W g a n cap K er)=>A9k W g a n cap K er m.nm hW)
 have HT2:=hzz (fun(W:World) (hW:LfS W g a n cap K er)=>A9k W g a n cap K er m.ds hW);rw[<-hNM]at HT1;rw[<-hDS]at HT2;have hnl:NM.length<=65536:=by rw[hNM];exact A5m h.tx _
 have hdl:DS.length<=65536:=by rw[hDS];exact A5m h.tx _
 have HNL:=hzz hnl;have HDL:=hzz hdl;have HSB:=hzz hsb;have HNM:=hzz hNM;have HDS:=hzz hDS;clear h hD hDw hok hsb hNM hDS hnl hdl;go_enter Tryz.func24,Tryz.ntmps24
 go_upto_region 1 with fail
 go_cut [5] (fun s5 wx=>s5= .pointer (some ⟨w.heap.size+3,0,none⟩)/\Hid (Mc1 w wx g a n cap K er m ⟨sb,NM,DS,m.st,m.lo,none,0,0,[],none,0,0,[],none,0,0,[]⟩))
 case first=>
  have hb3:Below w.heap.size w (((w.alloc (.cells #[.pointer (some ⟨g,0,none⟩)] 70)).alloc (.cells m.cells.toArray 65)).alloc (.cells z0M.cells.toArray A1d)):=(((Below.refl w.heap.size w).alloc nlz _).alloc (by simp) _).alloc (by simp;omega) _
  have HB3:=hzz hb3
  have HX1:=hzz (show(((w.alloc (.cells #[.pointer (some ⟨g,0,none⟩)] 70)).alloc (.cells m.cells.toArray 65)).alloc (.cells z0M.cells.toArray A1d)).heap[w.heap.size]? =some (.cells #[.pointer (some ⟨g,0,none⟩)] 70 (0,0)) by
   rw[Below.heap_alloc _ _ _ (by simp;omega),Below.heap_alloc _ _ _ (by simp)];exact heap_alloc_last w _)
  have HX2:=hzz (show(((w.alloc (.cells #[.pointer (some ⟨g,0,none⟩)] 70)).alloc (.cells m.cells.toArray 65)).alloc (.cells z0M.cells.toArray A1d)).heap[w.heap.size+1]? =some (.cells m.cells.toArray 65 (0,0)) by
   rw[Below.heap_alloc _ _ _ (by simp)];have:=heap_alloc_last (w.alloc (.cells #[.pointer (some ⟨g,0,none⟩)] 70)) (.cells m.cells.toArray 65);simpa using this)
  have HX3:=hzz (show(((w.alloc (.cells #[.pointer (some ⟨g,0,none⟩)] 70)).alloc (.cells m.cells.toArray 65)).alloc (.cells z0M.cells.toArray A1d)).heap[w.heap.size+2]? =some (.cells z0M.cells.toArray A1d (0,0)) by
   have:=heap_alloc_last ((w.alloc (.cells #[.pointer (some ⟨g,0,none⟩)] 70)).alloc (.cells m.cells.toArray 65)) (.cells z0M.cells.toArray A1d);simpa using this)
  have hsz:(((w.alloc (.cells #[.pointer (some ⟨g,0,none⟩)] 70)).alloc (.cells m.cells.toArray 65)).alloc (.cells z0M.cells.toArray A1d)).heap.size=w.heap.size+3:=by simp
  have HSZ:=hzz hsz;clear hb3 hsz
  change Hid (Below w.heap.size w (((w.alloc (.cells #[.pointer (some ⟨g,0,none⟩)] 70)).alloc (.cells #[.int .i64 m.fl,.int .i64 m.nm,.int .i64 m.ds,.int .i64 m.st,.int .i64 m.lo,.slice m.ca m.cn m.cc,.slice m.ta m.tn m.tc,.slice m.ma m.mn m.mc] 65)).alloc (.cells #[.bool false,.string ⟨#[]⟩,.string ⟨#[]⟩,.int .i64 0,.int .i64 0,.slice none 0 0,.slice none 0 0,.slice none 0 0] A1d)))at HB3
  change Hid ((((w.alloc (.cells #[.pointer (some ⟨g,0,none⟩)] 70)).alloc (.cells #[.int .i64 m.fl,.int .i64 m.nm,.int .i64 m.ds,.int .i64 m.st,.int .i64 m.lo,.slice m.ca m.cn m.cc,.slice m.ta m.tn m.tc,.slice m.ma m.mn m.mc] 65)).alloc (.cells #[.bool false,.string ⟨#[]⟩,.string ⟨#[]⟩,.int .i64 0,.int .i64 0,.slice none 0 0,.slice none 0 0,.slice none 0 0] A1d)).heap[w.heap.size]? =_)at HX1
  change Hid ((((w.alloc (.cells #[.pointer (some ⟨g,0,none⟩)] 70)).alloc (.cells #[.int .i64 m.fl,.int .i64 m.nm,.int .i64 m.ds,.int .i64 m.st,.int .i64 m.lo,.slice m.ca m.cn m.cc,.slice m.ta m.tn m.tc,.slice m.ma m.mn m.mc] 65)).alloc (.cells #[.bool false,.string ⟨#[]⟩,.string ⟨#[]⟩,.int .i64 0,.int .i64 0,.slice none 0 0,.slice none 0 0,.slice none 0 0] A1d)).heap[w.heap.size+1]? =_)at HX2
  change Hid ((((w.alloc (.cells #[.pointer (some ⟨g,0,none⟩)] 70)).alloc (.cells #[.int .i64 m.fl,.int .i64 m.nm,.int .i64 m.ds,.int .i64 m.st,.int .i64 m.lo,.slice m.ca m.cn m.cc,.slice m.ta m.tn m.tc,.slice m.ma m.mn m.mc] 65)).alloc (.cells #[.bool false,.string ⟨#[]⟩,.string ⟨#[]⟩,.int .i64 0,.int .i64 0,.slice none 0 0,.slice none 0 0,.slice none 0 0] A1d)).heap[w.heap.size+2]? =_)at HX3
  change Hid ((((w.alloc (.cells #[.pointer (some ⟨g,0,none⟩)] 70)).alloc (.cells #[.int .i64 m.fl,.int .i64 m.nm,.int .i64 m.ds,.int .i64 m.st,.int .i64 m.lo,.slice m.ca m.cn m.cc,.slice m.ta m.tn m.tc,.slice m.ma m.mn m.mc] 65)).alloc (.cells #[.bool false,.string ⟨#[]⟩,.string ⟨#[]⟩,.int .i64 0,.int .i64 0,.slice none 0 0,.slice none 0 0,.slice none 0 0] A1d)).heap.size=_)at HSZ
  have hgen:∃W,W=(((w.alloc (.cells #[.pointer (some ⟨g,0,none⟩)] 70)).alloc (.cells #[.int .i64 m.fl,.int .i64 m.nm,.int .i64 m.ds,.int .i64 m.st,.int .i64 m.lo,.slice m.ca m.cn m.cc,.slice m.ta m.tn m.tc,.slice m.ma m.mn m.mc] 65)).alloc (.cells #[.bool false,.string ⟨#[]⟩,.string ⟨#[]⟩,.int .i64 0,.int .i64 0,.slice none 0 0,.slice none 0 0,.slice none 0 0] A1d)):=⟨_,rfl⟩
  obtain⟨W,hW⟩:=hgen;rw[<-hW]at HB3 HX1 HX2 HX3 HSZ⊢;clear hW;have HLW:=hzz (H.out.below HB3.out);have HD1:=hzz (HB3.out.trans (brz.drew.mono HB3.out.size));have HLD:=hzz (HLW.out.below (brz.drew))
  have hSw:Bx2 w.heap.size g m W.drew:=⟨HX1.out,HX2.out⟩;have l0:=fun z (h:Bx2 w.heap.size g m z)=>A0a h.1 0 rfl
  have l1:=fun z (h:Bx2 w.heap.size g m z)=>A0a h.2 0 rfl
  have l2:=fun z (h:Bx2 w.heap.size g m z)=>A0a h.2 1 rfl
  have l3:=fun z (h:Bx2 w.heap.size g m z)=>A0a h.2 2 rfl
  have l4:=fun z (h:Bx2 w.heap.size g m z)=>A0a h.2 3 rfl
  have l5:=fun z (h:Bx2 w.heap.size g m z)=>A0a h.2 4 rfl
  dsimp only[KM.cells]at l1 l2 l3 l4 l5
  refine A0h (Bx2 w.heap.size g m) (.of [(0,true),(1,true),(2,true),(3,true),(4,true),(5,true),(7,true),(8,true),(9,true),(11,true),(12,true),(13,true),(14,true)] (.fork 6 (.fork 10 (.of [(15,true),(16,false),(17,false)] (.stir [])) 16 (.of [(10,false),(15,true),(17,false)] (.stir []))) 16 (.of [(6,false),(10,false),(15,true),(17,false)] (.stir [])))) (by kernel_rfl) (by kernel_rfl) (fun c a d v w h=>by cases d<;>exact h) ?_
  iterate 13
   refine A0b fun K hK=>tkF ?_
   go_simp
   try go_bits
   refine hK _ _ ?_;clear hK K
  obtain⟨hmc,hsa,hza⟩:=D2n (⟨sb,NM,DS,m.st,m.lo,none,0,0,[],none,0,0,[],none,0,0,[]⟩:UM) H.out HB3.out HSZ.out HX1.out HX2.out HX3.out;have HMC:=hzz hmc;have HSA:=hzz hsa
  have HZA:=hzz hza;have HLA:=hzz (HLW.out.below (((Below.refl W.heap.size W).drew).alloc nlz (.cells z0M.cells.toArray A1d)));clear hmc hsa hza;refine A3e ?_ ?_
  ·intro K hK;refine alF ?_;go_step;refine(HT1.out _ HLD.out).mono ?_;rintro e w9 ⟨rfl,rfl⟩;go_simp
   first|refine⟨hSw,hK _ _ ?_⟩|refine hK _ _ ?_
   clear hK K;refine A3e ?_ ?_
   ·intro K hK;refine alF ?_;go_step;refine(HT2.out _ HLD.out).mono ?_;rintro e w9 ⟨rfl,rfl⟩;go_simp
    first|refine⟨hSw,hK _ _ ?_⟩|refine hK _ _ ?_
    clear hK K
    iterate 1
     refine A0b fun K hK=>tkF ?_
     go_simp
     try go_bits
     refine hK _ _ ?_;clear hK K
    refine A0b fun K hK=>alF ?_
    go_step
    change Bx2 w.heap.size g m (W.drew.alloc (.cells #[.bool false,.string ⟨#[]⟩,.string ⟨#[]⟩,.int .i64 0,.int .i64 0,.slice none 0 0,.slice none 0 0,.slice none 0 0] A1d))/\K _ (W.drew.alloc (.cells #[.bool false,.string ⟨#[]⟩,.string ⟨#[]⟩,.int .i64 0,.int .i64 0,.slice none 0 0,.slice none 0 0,.slice none 0 0] A1d))
    refine⟨HSA.out,hK _ _ ?_⟩;clear hK K hSw;have hSw:=HSA.out;refine A0b fun K hK=>alF ?_
    refine wp_store_row A1d _ _ rfl W.heap.size (UM.cells ⟨sb,NM,DS,m.st,m.lo,none,0,0,[],none,0,0,[],none,0,0,[]⟩).toArray rfl rfl A1d z0M.cells.toArray (by rw[HSZ.out];exact HZA.out) A5t rfl (D8h _) ?_
    rw[HSZ.out];refine⟨⟨HMC.out.k,HMC.out.m⟩,hK _ _ ?_⟩;clear hK K
    refine A0m (fun y=>y=(W.drew.alloc (.cells #[.bool false,.string ⟨#[]⟩,.string ⟨#[]⟩,.int .i64 0,.int .i64 0,.slice none 0 0,.slice none 0 0,.slice none 0 0] A1d)).setRow (w.heap.size+3) (UM.cells ⟨sb,NM,DS,m.st,m.lo,none,0,0,[],none,0,0,[],none,0,0,[]⟩).toArray) (fun y hy=>by rw[hy];exact⟨HMC.out.k,HMC.out.m⟩) rfl ?_
    refine A0p (fun y hy=> ?_);subst hy
    go_wp2_with fail
    go_meet;exact⟨rfl,HMC⟩
   intro K hK;refine alF ?_;go_step
   change Bx2 w.heap.size g m (W.drew.alloc (.cells #[.bool false,.string ⟨#[]⟩,.string ⟨#[]⟩,.int .i64 0,.int .i64 0,.slice none 0 0,.slice none 0 0,.slice none 0 0] A1d))/\K _ (W.drew.alloc (.cells #[.bool false,.string ⟨#[]⟩,.string ⟨#[]⟩,.int .i64 0,.int .i64 0,.slice none 0 0,.slice none 0 0,.slice none 0 0] A1d))
   refine⟨HSA.out,hK _ _ ?_⟩;clear hK K hSw;have hSw:=HSA.out;refine A0b fun K hK=>alF ?_
   go_step;refine(HT2.out _ HLA.out).mono ?_;rintro e w9 ⟨rfl,rfl⟩;go_simp
   first|refine⟨hSw,hK _ _ ?_⟩|refine hK _ _ ?_
   clear hK K;change A4e _ _ _ _ _ _ (W.drew.alloc (.cells #[.bool false,.string ⟨#[]⟩,.string ⟨#[]⟩,.int .i64 0,.int .i64 0,.slice none 0 0,.slice none 0 0,.slice none 0 0] A1d))
   iterate 1
    refine A0b fun K hK=>tkF ?_
    go_simp
    try go_bits
    refine hK _ _ ?_;clear hK K
   refine A0b fun K hK=>alF ?_
   refine wp_store_row A1d _ _ rfl W.heap.size (UM.cells ⟨sb,NM,DS,m.st,m.lo,none,0,0,[],none,0,0,[],none,0,0,[]⟩).toArray rfl rfl A1d z0M.cells.toArray (by rw[HSZ.out];exact HZA.out) A5t rfl (D8h _) ?_
   rw[HSZ.out];refine⟨⟨HMC.out.k,HMC.out.m⟩,hK _ _ ?_⟩;clear hK K
   refine A0m (fun y=>y=(W.drew.alloc (.cells #[.bool false,.string ⟨#[]⟩,.string ⟨#[]⟩,.int .i64 0,.int .i64 0,.slice none 0 0,.slice none 0 0,.slice none 0 0] A1d)).setRow (w.heap.size+3) (UM.cells ⟨sb,NM,DS,m.st,m.lo,none,0,0,[],none,0,0,[],none,0,0,[]⟩).toArray) (fun y hy=>by rw[hy];exact⟨HMC.out.k,HMC.out.m⟩) rfl ?_
   refine A0p (fun y hy=> ?_);subst hy
   go_wp2_with fail
   go_meet;exact⟨rfl,HMC⟩
  intro K hK;refine alF ?_;go_step
  change Bx2 w.heap.size g m (W.drew.alloc (.cells #[.bool false,.string ⟨#[]⟩,.string ⟨#[]⟩,.int .i64 0,.int .i64 0,.slice none 0 0,.slice none 0 0,.slice none 0 0] A1d))/\K _ (W.drew.alloc (.cells #[.bool false,.string ⟨#[]⟩,.string ⟨#[]⟩,.int .i64 0,.int .i64 0,.slice none 0 0,.slice none 0 0,.slice none 0 0] A1d))
  refine⟨HSA.out,hK _ _ ?_⟩;clear hK K hSw;have hSw:=HSA.out;refine A0b fun K hK=>alF ?_
  go_step;refine(HT1.out _ HLA.out).mono ?_;rintro e w9 ⟨rfl,rfl⟩;go_simp
  first|refine⟨hSw,hK _ _ ?_⟩|refine hK _ _ ?_
  clear hK K;change A4e _ _ _ _ _ _ (W.drew.alloc (.cells #[.bool false,.string ⟨#[]⟩,.string ⟨#[]⟩,.int .i64 0,.int .i64 0,.slice none 0 0,.slice none 0 0,.slice none 0 0] A1d))
  refine A0b fun K hK=>alF ?_
  go_step;refine(HT2.out _ HLA.out).mono ?_;rintro e w9 ⟨rfl,rfl⟩;go_simp
  first|refine⟨hSw,hK _ _ ?_⟩|refine hK _ _ ?_
  clear hK K;change A4e _ _ _ _ _ _ (W.drew.alloc (.cells #[.bool false,.string ⟨#[]⟩,.string ⟨#[]⟩,.int .i64 0,.int .i64 0,.slice none 0 0,.slice none 0 0,.slice none 0 0] A1d))
  iterate 1
   refine A0b fun K hK=>tkF ?_
   go_simp
   try go_bits
   refine hK _ _ ?_;clear hK K
  refine A0b fun K hK=>alF ?_
  refine wp_store_row A1d _ _ rfl W.heap.size (UM.cells ⟨sb,NM,DS,m.st,m.lo,none,0,0,[],none,0,0,[],none,0,0,[]⟩).toArray rfl rfl A1d z0M.cells.toArray (by rw[HSZ.out];exact HZA.out) A5t rfl (D8h _) ?_
  rw[HSZ.out];refine⟨⟨HMC.out.k,HMC.out.m⟩,hK _ _ ?_⟩;clear hK K
  refine A0m (fun y=>y=(W.drew.alloc (.cells #[.bool false,.string ⟨#[]⟩,.string ⟨#[]⟩,.int .i64 0,.int .i64 0,.slice none 0 0,.slice none 0 0,.slice none 0 0] A1d)).setRow (w.heap.size+3) (UM.cells ⟨sb,NM,DS,m.st,m.lo,none,0,0,[],none,0,0,[],none,0,0,[]⟩).toArray) (fun y hy=>by rw[hy];exact⟨HMC.out.k,HMC.out.m⟩) rfl ?_
  refine A0p (fun y hy=> ?_);subst hy
  go_wp2_with fail
  go_meet;exact⟨rfl,HMC⟩
 obtain⟨rfl,HM1⟩:=hcut
 go_upto_region 2 with fail
 obtain⟨b1,hb1⟩:∃b,b=A5e NM:=⟨_,rfl⟩;obtain⟨b2,hb2⟩:∃b,b=A3k DS:=⟨_,rfl⟩;have HBA:=hzz hb1;have HBB:=hzz hb2;clear hb1 hb2
 go_cut [] (fun wx=>∃er2:Int,Hid (er2=0↔er=0/\(b1&&b2)=true)/\Hid (Mc1 w wx g a n cap K er2 m ⟨sb,NM,DS,m.st,m.lo,none,0,0,[],none,0,0,[],none,0,0,[]⟩))
 case first=>
  have HMD:=hzz (HM1.out.below ((Below.refl wc.heap.size wc).drew));have hSw:D1n w.heap.size g NM DS wc.drew:=⟨A0a HMD.out.k 0 rfl,A0a HMD.out.o 1 rfl,A0a HMD.out.o 2 rfl⟩
  have l0:=fun z (h:D1n w.heap.size g NM DS z)=>h.1
  have l1:=fun z (h:D1n w.heap.size g NM DS z)=>h.2.1
  have l2:=fun z (h:D1n w.heap.size g NM DS z)=>h.2.2
  have HI1:=hzz (fun W hv=>A4s W NM HNL.out hv);have HI2:=hzz (fun W hv=>A4t W DS HDL.out hv);have HND:=hzz (fun W ok (hW:LfS W g a n cap K er)=>A3v W g a n cap K er ok 8 hW)
  rw[<-HBA.out]at HI1;rw[<-HBB.out]at HI2
  refine A0h (D1n w.heap.size g NM DS) (.of [(0,true),(1,true),(2,true),(3,false),(4,true),(5,true),(6,true),(7,false),(8,true),(9,false)] (.stir [])) (by kernel_rfl) (by kernel_rfl) (fun c a d v w h=>by cases d<;>exact h) ?_
  generalize wc.drew=W at*
  iterate 3
   refine A0b fun K hK=>tkF ?_
   go_simp
   try go_bits
   refine hK _ _ ?_;clear hK K
  refine A0b fun K hK=>alF ?_
  go_step;refine(HI1.out W HMD.out.l.vw).mono ?_;rintro e w9 ⟨rfl,hb9⟩;have HM9:=hzz (HMD.out.below hb9);replace hSw:=hSw.below hb9;clear hb9 HMD;go_simp
  first|refine⟨hSw,hK _ _ ?_⟩|refine hK _ _ ?_
  clear hK K
  iterate 1
   refine A0b fun K hK=>tkF ?_
   go_simp
   try go_bits
   refine hK _ _ ?_;clear hK K
  cases b1
  ·iterate 3
    refine A0b fun K hK=>skF ?_
    go_simp;refine hK _ _ ?_;clear hK K
   iterate 1
    refine A0b fun K hK=>tkF ?_
    go_simp
    try go_bits
    refine hK _ _ ?_;clear hK K
   refine A0b fun K hK=>alF ?_
   go_step;refine(HND.out w9 false HM9.out.l).mono ?_;rintro e w8 ⟨rfl,h8,k8⟩;have HM8:=hzz (HM9.out.call h8 k8 hgl)
   have hS8:D1n w.heap.size g NM DS w8:=⟨A0a HM8.out.k 0 rfl,A0a HM8.out.o 1 rfl,A0a HM8.out.o 2 rfl⟩;clear h8 k8;go_simp
   first|refine⟨hS8,hK _ _ ?_⟩|refine hK _ _ ?_
   clear hK K;refine A0m (B1s w8) (fun y hy=>by obtain rfl:y=w8:=hy;exact hS8) rfl ?_;refine A0p (fun yy hy=> ?_);obtain rfl:w8=yy:=Eq.symm hy
   go_wp2_with fail
   go_meet;exact⟨_,hzz (by rw[A1f (by decide)];simp),HM8⟩
  iterate 2
   refine A0b fun K hK=>tkF ?_
   go_simp
   try go_bits
   refine hK _ _ ?_;clear hK K
  refine A0b fun K hK=>alF ?_
  go_step;refine(HI2.out w9 HM9.out.l.vw).mono ?_;rintro e w7 ⟨rfl,hb7⟩;have HM7:=hzz (HM9.out.below hb7);replace hSw:=hSw.below hb7;clear hb7 HM9;go_simp
  first|refine⟨hSw,hK _ _ ?_⟩|refine hK _ _ ?_
  clear hK K
  iterate 1
   refine A0b fun K hK=>tkF ?_
   go_simp
   try go_bits
   refine hK _ _ ?_;clear hK K
  refine A0b fun K hK=>alF ?_
  go_step;refine(HND.out w7 b2 HM7.out.l).mono ?_;rintro e w8 ⟨rfl,h8,k8⟩;have HM8:=hzz (HM7.out.call h8 k8 hgl)
  have hS8:D1n w.heap.size g NM DS w8:=⟨A0a HM8.out.k 0 rfl,A0a HM8.out.o 1 rfl,A0a HM8.out.o 2 rfl⟩;clear h8 k8;go_simp
  first|refine⟨hS8,hK _ _ ?_⟩|refine hK _ _ ?_
  clear hK K;refine A0m (B1s w8) (fun y hy=>by obtain rfl:y=w8:=hy;exact hS8) rfl ?_;refine A0p (fun yy hy=> ?_);obtain rfl:w8=yy:=Eq.symm hy
  go_wp2_with fail
  go_meet;exact⟨_,hzz (by rw[A1f (by decide)];simp),HM8⟩
 clear HM1;obtain⟨er2,HE2,HM2⟩:=hcut;have hbD:=HM2.out.kp.below HDW.out nlz (fun k hk=>hk▸hDg);have HRD:=hzz (HD.out.below hbD);have HBD:=hzz hbD;clear hbD
 obtain⟨q1,q2,q3,q4,q5,q6⟩:=C0e HOK.out HRD.out;have c5:=A0a HM2.out.m 5 rfl;dsimp only[KM.cells]at c5
 have HDC:=hzz (C0r wc m.ca m.cn m.cc m.code HRD.out.code (by omega) HRD.out.cle);obtain⟨de,L,hR⟩:∃de L,A2h m.code=(de,L):=⟨_,_,rfl⟩;rw[hR]at HDC;have HR:=hzz hR;clear hR
 go_wp2_with fail
 refine HDC.out.mono ?_;rintro e w3 ⟨v,ln,rfl,how,hwf,hb3⟩;obtain⟨la,lc,rfl,hrs,hle⟩:=Ss.ofOwn RW.cells_length (by decide) how;have HM3:=hzz (HM2.out.below hb3)
 have HRS:=hzz (show Rs w3 la ln L from hrs);have HWF:=hzz hwf
 have HOF:=hzz (show B1t la ln g/\B1t la ln (w.heap.size+3)from⟨C3m how (by have:=HM2.out.l.lt;omega),C3m how (A0r HM2.out.o)⟩);clear how hwf hb3 hrs HDC c5
 have hln:ln<=65536:=by
  have h1:=HRS.out.1;have h2:=C1v m.code;rw[HR.out]at h2;dsimp only at h2;have h3:=HRD.out.code.1;omega
 have HLN:=hzz hln;have hgl3:w.heap.size+4<=w3.heap.size:=by have:=A0r HM3.out.o;omega
 have HQ1:=hzz q1;clear q1 hln
 go_upto_region 4 with fail
 have hb4:Below w3.heap.size w3 (w3.alloc (.cells #[.slice la ln lc] 112)):=A0f _ _;have HM4:=hzz (HM3.out.below hb4)
 have HR4:=hzz (show Rs (w3.alloc (.cells #[.slice la ln lc] 112)) la ln L from HRS.out.below hb4);have HGL:=hzz (heap_alloc_last w3 (.cells #[.slice la ln lc] 112));clear hb4 HM3 HRS HM2 HRD HBD
 generalize w3.alloc _=w4 at*;generalize w3.heap.size=gl at*;have c0:=A0a HM4.out.k 0 rfl;have HND:=hzz (A3v w4 g a n cap K er2 (de==0) de HM4.out.l)
 go_wp2_with fail
 refine HND.out.mono ?_;rintro e w5 ⟨rfl,h5,k5⟩;have HE3:=hzz (C6d er2 de);generalize A2a er2 (de==0) de=er3 at*;have HM5:=hzz (HM4.out.call h5 k5 hgl)
 have HR5:=hzz (show Rs w5 la ln L from k5.ss HR4.out (fun hn b off e e2=>HOF.out.1 hn b off e e2));have HG5:=hzz (k5.row HGL.out (show ¬gl=g by omega));clear h5 k5 HM4 HR4 HGL HND c0
 have cgl:=A0a HG5.out 0 rfl;have HPL:=hzz (C0n w5 la ln lc L HR5.out HLN.out (fun r hr=>(HWF.out r hr).1))
 go_wp2_with fail
 refine HPL.out.mono ?_;rintro e w6 ⟨b,rfl,hbl,hpl,hb6⟩;have HM6:=hzz (HM5.out.below hb6);have HR6:=hzz (show Rs w6 la ln L from HR5.out.below hb6);have HG6:=hzz (A0e HG5.out hb6)
 have HP6:=hzz hpl;have hgl5:gl<w5.heap.size:=A0r HG5.out;have hb66:b<w6.heap.size:=hpl.lt;have hg6:=hb6.size;have HLR:=hzz HR5.out.1;clear hpl hb6 HM5 HR5 HG5 HPL cgl
 go_upto_region 6 with fail
 have hb7:Below w6.heap.size w6 (w6.alloc (.cells #[.map (some b)] 115)):=A0f _ _;have HM7:=hzz (HM6.out.below hb7)
 have HR7:=hzz (show Rs (w6.alloc (.cells #[.map (some b)] 115)) la ln L from HR6.out.below hb7);have HG7:=hzz (A0e HG6.out hb7)
 have HP7:=hzz (HP6.out.keep (A0j.of (p:=fun _=>False) hb7) (fun h=>h));have HGA:=hzz (heap_alloc_last w6 (.cells #[.map (some b)] 115));clear hb7 HM6 HR6 HG6 HP6;generalize w6.alloc _=W at*
 generalize w6.heap.size=ga at*
 have HC:=hzz (show D2j D W w.heap.size (w.heap.size+1) gl ga (w.heap.size+2) g (w.heap.size+3) m la ln lc L b z0M from
  ⟨⟨HM7.out.m,HG7.out,HGA.out,HM7.out.k,HP7.out,HLR.out.symm,by omega,by omega,by omega,by omega,by omega⟩,HM7.out.z,HR7.out,HOF.out.1,HOF.out.2,HD.out,HM7.out.kp.below HDW.out nlz (fun k hk=>hk▸hDg),hDg,by have:=HDW.out.size;omega,
   by omega,by omega,by omega,by omega,by omega,by omega,by omega,HM7.out.l.lt,A0r HM7.out.o,by omega⟩)
 have HJ:=hzz (show B6q W W g (w.heap.size+3) a n cap K er3 ⟨sb,NM,DS,m.st,m.lo,none,0,0,[],none,0,0,[],none,0,0,[]⟩from
  ⟨HM7.out.l,A0j.refl _ _,HM7.out.o,⟨World.ownsRow_nil _ _ _ _,World.ownsRow_nil _ _ _ _,World.ownsRow_nil _ _ _ _,fun p hp=>by cases hp⟩⟩)
 have HOP:=hzz (H.out.offnew (show w.heap.size<=w.heap.size+3 by omega));have hWs:w.heap.size+4<=W.heap.size:=by have:=A0r HM7.out.o;omega
 have hgl9:g<W.heap.size:=by omega
 have HFA:=hzz (fun r hr hf=>D0k m.code r (by rw[HR.out];exact hr) hf);have HLF:=hzz HM7.out.l;have HKP:=hzz HM7.out.kp;have cgl:=A0a HC.out.s.l 0 rfl;clear HM7 HR7 HG7 HP7 HGA HLR HOF
 go_wp2_with fail
 go_loopg [58] ln (fun gn i wr=>∃(j:Nat) (er':Int) (x:UM),j<=ln/\gn=ln-j/\i= .int .i64 j/\Hid (er'=0↔er3=0/\(L.take j).all (C0j K)=true)/\Hid (x.p=⟨sb,NM,DS,m.st,m.lo,none,0,0,(L.take j).map (B4x K L),none,0,0,[],none,0,0,[]⟩)/\Hid (B6q W wr g (w.heap.size+3) a n cap K er' x))
 case atStart=>exact⟨0,er3,_,by omega,by omega,by go_num,hzz (by simp),hzz rfl,HJ⟩
 clear HJ;obtain⟨j,er',x,hj,rfl,rfl,HE,HX,HJ⟩:=hrel;by_cases hlt:j<ln
 ·have hlj:x.code.length=j:=by
   have h1:=congrArg (fun u=>u.code.length) HX.out;have h2:=HC.out.s.len;simp only[UM.p,List.length_map,List.length_take]at h1;omega
  have hcn:x.cn=j:=by
   obtain⟨a9,c9,e9,h9,_⟩:=Ss.ofOwn IN.cells_length (by decide) HJ.out.w.code
   cases e9
   rw[<-hlj];exact h9.1.symm
  have hjn:ln<=65536:=HLN.out;have HCN:=hzz hcn;have HS:=hzz (HC.out.rsw HJ.out.k);have HLT:=hzz hlt;have hj1:(j:Int)<ln:=by omega
  obtain⟨bq,off,r,rfl,hbl,hs,q⟩:=HS.out.getC j hlt;have q0:=q 0 (by omega);have q1:=q 1 (by omega);have q2:=q 2 (by omega);have q3:=q 3 (by omega);rw[Nat.add_zero]at q0
  simp only[RW.cells,List.getElem?_cons_zero,List.getElem?_cons_succ]at q0 q1 q2 q3
  have HTK:=hzz (show L.take (j+1)=L.take j++[r] by
   have hjl:=(gsz hs).1;rw[List.take_succ_eq_append_getElem hjl,(gsz hs).2])
  have HRM:=hzz (List.mem_of_getElem? hs);clear hs q hlt HS hlj hcn
  go_upto_region 9 with fail
  have hb8:Below wr.heap.size wr (wr.alloc (.cells #[.int .i64 r.pos,.int .u8 (r.op:Nat),.int .i64 r.a,.int .i64 r.b] 118)):=A0f _ _;have HJ8:=hzz ((HJ.out.below hb8).below (brz.drew))
  have HGR:=hzz (A0e (heap_alloc_last wr (.cells #[.int .i64 r.pos,.int .u8 (r.op:Nat),.int .i64 r.a,.int .i64 r.b] 118)) ((Below.refl _ (wr.alloc (.cells #[.int .i64 r.pos,.int .u8 (r.op:Nat),.int .i64 r.a,.int .i64 r.b] 118))).drew))
  have hWr:W.heap.size<=wr.heap.size:=HJ.out.k.size;clear hb8 HJ q0 q1 q2 q3;generalize wr.heap.size=gr at*
  have hSw:Q9 w.heap.size g (w.heap.size+3) gr ga b r (.slice x.ca x.cn x.cc) (wr.alloc (.cells #[.int .i64 r.pos,.int .u8 (r.op:Nat),.int .i64 r.a,.int .i64 r.b] 118)).drew:=⟨HGR.out,A0a (HC.out.see HJ8.out.k).k 0 rfl,A0a HJ8.out.o 5 rfl,A0a (HC.out.see HJ8.out.k).a 0 rfl⟩
  have l0:=fun z (h:Q9 w.heap.size g (w.heap.size+3) gr ga b r (.slice x.ca x.cn x.cc) z)=>A0a h.1 0 rfl
  have l1:=fun z (h:Q9 w.heap.size g (w.heap.size+3) gr ga b r (.slice x.ca x.cn x.cc) z)=>A0a h.1 1 rfl
  have l2:=fun z (h:Q9 w.heap.size g (w.heap.size+3) gr ga b r (.slice x.ca x.cn x.cc) z)=>A0a h.1 2 rfl
  have l3:=fun z (h:Q9 w.heap.size g (w.heap.size+3) gr ga b r (.slice x.ca x.cn x.cc) z)=>A0a h.1 3 rfl
  have l4:=fun z (h:Q9 w.heap.size g (w.heap.size+3) gr ga b r (.slice x.ca x.cn x.cc) z)=>h.2.1
  have l5:=fun z (h:Q9 w.heap.size g (w.heap.size+3) gr ga b r (.slice x.ca x.cn x.cc) z)=>h.2.2.1
  have l6:=fun z (h:Q9 w.heap.size g (w.heap.size+3) gr ga b r (.slice x.ca x.cn x.cc) z)=>h.2.2.2
  dsimp only[RW.cells]at l0 l1 l2 l3
  refine A0t (Q9 w.heap.size g (w.heap.size+3) gr ga b r (.slice x.ca x.cn x.cc)) 9 [(0,true),(1,true),(2,true),(3,true),(4,true),(5,false),(6,false),(7,false),(8,true)] (by kernel_rfl) (by kernel_rfl) (fun c a d v w h=>by cases d<;>exact h) ?_
  generalize(wr.alloc (.cells #[.int .i64 r.pos,.int .u8 (r.op:Nat),.int .i64 r.a,.int .i64 r.b] 118)).drew=W8 at*
  iterate 5
   refine A0d fun K hK=>tkF ?_
   go_simp
   try go_bits
   refine hK _ _ ?_;clear hK K
  have HIN:=hzz (D3d W8 g a n cap K er' r L b HJ8.out.l (HC.out.see HJ8.out.k).p HC.out.s.nb (HWF.out r HRM.out).2.2 (HWF.out r HRM.out).2.1 (HFA.out r HRM.out));obtain⟨V,hV⟩:=exz (B4x K L r)
  rw[<-hV]at HIN;have HV:=hzz hV;clear hV;obtain⟨vop,vn,vm,vcl,vnm,vds,vtx⟩:=V;dsimp only[IN.cells]at HIN;refine A0d fun K hK=>alF ?_
  go_step;refine HIN.out.mono ?_;rintro e w9 ⟨rfl,⟨er9,he9,hl9⟩,hk9⟩;have HJ9:=hzz (HJ8.out.call hl9 hk9 hgl9 (by omega));have HE9:=hzz he9
  have hSx:Q9 w.heap.size g (w.heap.size+3) gr ga b r (.slice x.ca x.cn x.cc) w9:=⟨hk9.row HGR.out (by omega),A0a (HC.out.see HJ9.out.k).k 0 rfl,A0a HJ9.out.o 5 rfl,A0a (HC.out.see HJ9.out.k).a 0 rfl⟩
  have HGR9:=hzz (hk9.row HGR.out (by omega));clear hl9 hk9 he9 hSw HJ8 HGR HIN;have hSw:=hSx;clear hSx;go_simp
  first|refine⟨hSw,hK _ _ ?_⟩|refine hK _ _ ?_
  clear hK K;refine A0d fun K hK=>alF ?_
  go_step
  have hal:Below w9.heap.size w9 (w9.alloc (.cells #[.int .u8 (vop:Nat),.int .i64 vn,.int .i64 vm,.string ⟨vcl.toArray⟩,.string ⟨vnm.toArray⟩,.string ⟨vds.toArray⟩,.string ⟨vtx.toArray⟩] 54)):=A0f _ _
  have hSx:Q9 w.heap.size g (w.heap.size+3) gr ga b r (.slice x.ca x.cn x.cc) (w9.alloc (.cells #[.int .u8 (vop:Nat),.int .i64 vn,.int .i64 vm,.string ⟨vcl.toArray⟩,.string ⟨vnm.toArray⟩,.string ⟨vds.toArray⟩,.string ⟨vtx.toArray⟩] 54)):=⟨A0e hSw.1 hal,A0c hal hSw.2.1,A0c hal hSw.2.2.1,A0c hal hSw.2.2.2⟩
  refine⟨hSx,hK _ _ ?_⟩;clear hK K hSw hSx hal;refine A0d fun K hK=>alF ?_
  change Oper.wp _ _ _ _ _ _;have hcn:=HCN.out
  refine A3h A6d (ops:= #[]) rfl _ _ _ rfl W.heap.size _ x.cn _ rfl (HJ9.out.w.code.alloc _) _ 1 _ rfl (Src.litS (m:=1) rfl rfl A6d.1) (by omega) (by unfold maxLen;omega) (Nat.le_trans HJ9.out.k.size (by simp)) ?_
  intro v3 w11 hown3 hg3 hb3;have hk3:=A2p.app HJ9.out.w.code hg3
  have hown4:w11.ownsRow W.heap.size 54 7 v3 (x.cn+1) ((x.code++[(⟨vop,vn,vm,vcl,vnm,vds,vtx⟩:IN)]).flatMap IN.cells):=by rw[List.flatMap_append];exact hown3
  obtain⟨a3,c3,rfl,-,-⟩:=Ss.ofOwn IN.cells_length (by decide) hown4
  have hB3:A0j (fun k=>W.heap.size<=k) w9 w11:=(A0j.of (A0f _ _)).trans (A0j.ofB hb3 (by have:=hg3.size;simpa using this))
  have HJ11:=hzz (HLF.out.app9 HJ9.out hB3 hk3 (HJ9.out.w.code1 hk3 hown4) (by omega) (by omega) (by omega) HOP.out)
  have hSw:Q9 w.heap.size g (w.heap.size+3) gr ga b r (.slice x.ca x.cn x.cc) w11:=⟨hk3.2 _ _ _ _ HGR9.out (by decide),A0a (HC.out.see HJ11.out.1).k 0 rfl,A0a HJ11.out.2.1 5 rfl,A0a (HC.out.see HJ11.out.1).a 0 rfl⟩
  clear hown3 hown4 hg3 hb3 hk3 hB3 HGR9 HJ9;refine⟨hSw,hK _ _ ?_⟩;clear hK K
  iterate 1
   refine A0d fun K hK=>tkF ?_
   go_simp
   try go_bits
   refine hK _ _ ?_;clear hK K
  have fo:=A0n HJ11.out.2.1 5;have lto:=A0r HJ11.out.2.1;have co:=A0a HJ11.out.2.1 5 rfl;dsimp only[UM.cells]at co;refine A1u (laF ?_);go_step
  have HJ12:=HJ11.out.2.2 5 (.slice a3 (x.cn+1) c3) rfl;have HX12:=hzz (UM.p_code1 HX.out a3 (x.cn+1) c3 (⟨vop,vn,vm,vcl,vnm,vds,vtx⟩:IN));rw[hcn]at HJ12 HX12;have HJ13:=hzz HJ12
  have HX13:=hzz (show UM.p {x with ca:=a3,cn:=j+1,cc:=c3,code:=x.code++[(⟨vop,vn,vm,vcl,vnm,vds,vtx⟩:IN)]}=⟨sb,NM,DS,m.st,m.lo,none,0,0,(L.take (j+1)).map (B4x K L),none,0,0,[],none,0,0,[]⟩ by
   rw[HX12.out,HTK.out,List.map_append,List.map_singleton,<-HV.out])
  have HE13:=hzz (show er9=0↔er3=0/\(L.take (j+1)).all (C0j K)=true by
   rw[HE9.out,HE.out,HTK.out,List.all_append];simp[and_assoc])
  clear hcn HJ12 HX12 HJ11 HX HE HE9 HV hSw fo lto co l0 l1 l2 l3 l4 l5 l6
  go_wp2_with fail
  go_roundg (ln-(j+1))
  case measure=>omega
  exact⟨j+1,er9,_,by omega,rfl,by go_num,HE13,HX13,HJ13⟩
 obtain rfl:j=ln:=by omega
 have hfull:L.take j=L:=List.take_of_length_le (by rw[HC.out.s.len];exact Nat.le_refl _);rw[hfull]at HE HX;clear hlt cgl;have c6:=A0a (HC.out.see HJ.out.k).m 6 rfl;dsimp only[KM.cells]at c6
 go_wp2_with fail
 go_loopg [76] m.tn (fun gn i wr2=>∃(jt:Nat) (er5:Int) (x5:UM),jt<=m.tn/\gn=m.tn-jt/\i= .int .i64 jt/\Hid (er5=0↔er'=0/\(m.traps.take jt).all (B8s K L m.cn)=true)/\Hid (x5.p=⟨sb,NM,DS,m.st,m.lo,none,0,0,L.map (B4x K L),none,0,0,(m.traps.take jt).map (B5d K L m.cn),none,0,0,[]⟩)/\Hid (B6q W wr2 g (w.heap.size+3) a n cap K er5 x5))
 case atStart=>exact⟨0,er',x,by omega,by omega,by go_num,hzz (by simp),hzz (by rw[HX.out];rfl),HJ⟩
 clear HJ c6;obtain⟨jt,er5,x5,hj5,rfl,rfl,HE5,HX5,HJ5⟩:=hrel;by_cases hlt:jt<m.tn
 ·have hlj:x5.traps.length=jt:=by
   have h1:=congrArg (fun u=>u.traps.length) HX5.out;have h2:=HD.out.traps.1;simp only[UM.p,List.length_map,List.length_take]at h1;omega
  have hcn:x5.tn=jt:=by
   obtain⟨a9,c9,e9,h9,_⟩:=Ss.ofOwn UT.cells_length (by decide) HJ5.out.w.traps
   cases e9
   rw[<-hlj];exact h9.1.symm
  have HCN:=hzz hcn;have HS:=hzz (HC.out.rd HJ5.out.k).traps;have hj1:(jt:Int)<m.tn:=by omega
  obtain⟨bq,off,t,hbq,hbl,hs,q⟩:=HS.out.getC jt hlt;have q0:=q 0 (by omega);have q1:=q 1 (by omega);have q2:=q 2 (by omega);have q3:=q 3 (by omega);rw[Nat.add_zero]at q0
  simp only[KT.cells,List.getElem?_cons_zero,List.getElem?_cons_succ]at q0 q1 q2 q3
  have HTK:=hzz (show m.traps.take (jt+1)=m.traps.take jt++[t] by
   have hjl:=(gsz hs).1;rw[List.take_succ_eq_append_getElem hjl,(gsz hs).2])
  have hto:=q4 t (List.mem_of_getElem? hs);unfold A7b at hto;simp only[List.all_cons,List.all_nil,Bool.and_true,Bool.and_eq_true,A5i,decide_eq_true_iff]at hto;obtain⟨⟨hw1,hw2,hw3⟩,-⟩:=hto
  clear hs q hlt HS hlj hcn
  go_upto_region 15 with fail
  have hb6:Below wr.heap.size wr (wr.alloc (.cells #[.int .i64 t.fr,.int .i64 t.tt,.int .i64 t.pl,.int .i64 t.cl] 123)):=A0f _ _;have HJ6:=hzz (HJ5.out.below hb6)
  have HGT:=hzz (show(wr.alloc (.cells #[.int .i64 t.fr,.int .i64 t.tt,.int .i64 t.pl,.int .i64 t.cl] 123)).heap[wr.heap.size]? =some (.cells t.cells.toArray 123 (0,0))from heap_alloc_last wr (.cells #[.int .i64 t.fr,.int .i64 t.tt,.int .i64 t.pl,.int .i64 t.cl] 123))
  have hggt:g<wr.heap.size:=HJ5.out.l.lt;clear hb6 HJ5 q0 q1 q2 q3 hbq hbl;generalize wr.alloc _=w6 at*;generalize wr.heap.size=gt at*
  obtain⟨v1,hv1⟩:∃v:Int,v=(plV L m.cn t.fr false:Nat):=⟨_,rfl⟩;obtain⟨v2,hv2⟩:∃v:Int,v=(plV L m.cn t.tt true:Nat):=⟨_,rfl⟩
  obtain⟨v3,hv3⟩:∃v:Int,v=(plV L m.cn t.pl false:Nat):=⟨_,rfl⟩;obtain⟨c1,hc1⟩:∃v,v=plC L m.cn t.fr false:=⟨_,rfl⟩;obtain⟨c2,hc2⟩:∃v,v=plC L m.cn t.tt true:=⟨_,rfl⟩
  obtain⟨c3,hc3⟩:∃v,v=plC L m.cn t.pl false:=⟨_,rfl⟩
  have HP1:=hzz (fun V e hl hs=>A9q V g a n cap K e (w.heap.size+1) gl ga w.heap.size m la j lc L b t.fr false (A1j (by omega)) (by have:=HQ1.out;omega) HLN.out hl hs)
  have HP2:=hzz (fun V e hl hs=>A9q V g a n cap K e (w.heap.size+1) gl ga w.heap.size m la j lc L b t.tt true (A1j (by omega)) (by have:=HQ1.out;omega) HLN.out hl hs)
  have HP3:=hzz (fun V e hl hs=>A9q V g a n cap K e (w.heap.size+1) gl ga w.heap.size m la j lc L b t.pl false (A1j (by omega)) (by have:=HQ1.out;omega) HLN.out hl hs);rw[<-hv1,<-hc1]at HP1
  rw[<-hv2,<-hc2]at HP2;rw[<-hv3,<-hc3]at HP3;have HV1:=hzz (And.intro hv1 (And.intro hv2 hv3));have HC1:=hzz (And.intro hc1 (And.intro hc2 hc3));clear hv1 hv2 hv3 hc1 hc2 hc3 hw1 hw2 hw3
  go_cut [14] (fun s14 wx=>∃(gx:Nat) (er6:Int),s14= .pointer (some ⟨gx,0,none⟩)/\w6.heap.size<=gx/\Hid (er6=0↔er5=0/\(c1&&(c2&&c3))=true)/\Hid (LfS wx g a n cap K er6)/\Hid (A0j (fun k=>k=g\/w6.heap.size<=k) w6 wx)/\Hid (wx.heap[gx]? =some (.cells (UT.cells ⟨v1,v2,v3,[]⟩).toArray 85 (0,0))))
  case first=>
   have HL0:=hzz (HJ6.out.l.below ((Below.refl w6.heap.size w6).drew));have HK0:=hzz (show A0j (fun k=>k=g\/w6.heap.size<=k) w6 w6.drew from A0j.of ((Below.refl w6.heap.size w6).drew))
   have hSw:Q15 gt t w6.drew:=HGT.out;have l0:=fun z (h:Q15 gt t z)=>A0a h 0 rfl
   have l1:=fun z (h:Q15 gt t z)=>A0a h 1 rfl
   have l2:=fun z (h:Q15 gt t z)=>A0a h 2 rfl
   dsimp only[KT.cells]at l0 l1 l2
   refine A0h (Q15 gt t) (.of [(0,true),(1,true),(2,true),(4,true),(5,true),(6,true),(8,true),(9,true),(10,true)] (.fork 3 (.fork 7 (.fork 11 (.of [(12,true),(13,false),(14,false)] (.stir [])) 13 (.of [(11,false),(12,true),(14,false)] (.stir []))) 13 (.of [(7,false),(11,false),(12,true),(14,false)] (.stir []))) 13 (.of [(3,false),(7,false),(11,false),(12,true),(14,false)] (.stir [])))) (by kernel_rfl) (by kernel_rfl) (fun c a d v w h=>by cases d<;>exact h) ?_
   obtain⟨V0,hV0⟩:∃V,V=w6.drew:=⟨_,rfl⟩;rw[<-hV0]at HL0 HK0 hSw⊢;clear hV0
   iterate 9
    refine A0b fun K hK=>tkF ?_
    go_simp
    try go_bits
    refine hK _ _ ?_;clear hK K
   refine A3e ?_ ?_
   ·intro K hK;refine alF ?_;go_step;refine(HP1.out V0 er5 HL0.out (HC.out.see (HJ6.out.new HL0.out HK0.out hgl9 (by omega)).k)).mono ?_;rintro e V1 ⟨rfl,hl,hk⟩;have HL1:=hzz hl
    have HK1:=hzz (HK0.out.trans (hk.weak (q:=fun k=>k=g\/w6.heap.size<=k) fun _ _ e=> .inl e));have hS1:Q15 gt t V1:=hk.row hSw (by omega);clear hl hk hSw HL0 HK0;have hSw:=hS1;clear hS1
    go_simp
    first|refine⟨hSw,hK _ _ ?_⟩|refine hK _ _ ?_
    clear hK K;refine A3e ?_ ?_
    ·intro K hK;refine alF ?_;go_step;refine(HP2.out V1 (A2a er5 c1 2) HL1.out (HC.out.see (HJ6.out.new HL1.out HK1.out hgl9 (by omega)).k)).mono ?_;rintro e V2 ⟨rfl,hl,hk⟩;have HL2:=hzz hl
     have HK2:=hzz (HK1.out.trans (hk.weak (q:=fun k=>k=g\/w6.heap.size<=k) fun _ _ e=> .inl e));have hS2:Q15 gt t V2:=hk.row hSw (by omega);clear hl hk hSw HL1 HK1;have hSw:=hS2
     clear hS2;go_simp
     first|refine⟨hSw,hK _ _ ?_⟩|refine hK _ _ ?_
     clear hK K;refine A3e ?_ ?_
     ·intro K hK;refine alF ?_;go_step;refine(HP3.out V2 (A2a (A2a er5 c1 2) c2 2) HL2.out (HC.out.see (HJ6.out.new HL2.out HK2.out hgl9 (by omega)).k)).mono ?_;rintro e V3 ⟨rfl,hl,hk⟩
      have HL3:=hzz hl;have HK3:=hzz (HK2.out.trans (hk.weak (q:=fun k=>k=g\/w6.heap.size<=k) fun _ _ e=> .inl e));have hS3:Q15 gt t V3:=hk.row hSw (by omega);clear hl hk hSw HL2 HK2
      have hSw:=hS3;clear hS3;go_simp
      first|refine⟨hSw,hK _ _ ?_⟩|refine hK _ _ ?_
      clear hK K
      iterate 1
       refine A0b fun K hK=>tkF ?_
       go_simp
       try go_bits
       refine hK _ _ ?_;clear hK K
      refine A0b fun K hK=>alF ?_
      go_step;have hal:Below V3.heap.size V3 (V3.alloc (.cells #[.int .i64 0,.int .i64 0,.int .i64 0,.string ⟨#[]⟩] 85)):=A0f _ _
      have hSn:Q15 gt t (V3.alloc (.cells #[.int .i64 0,.int .i64 0,.int .i64 0,.string ⟨#[]⟩] 85)):=A0e hSw hal;refine⟨hSn,hK _ _ ?_⟩;clear hK K hSw;have hSw:=hSn
      have HL4:=hzz (HL3.out.below hal);have HK4:=hzz (HK3.out.trans (A0j.of hal))
      have HZ4:=hzz (show(V3.alloc (.cells #[.int .i64 0,.int .i64 0,.int .i64 0,.string ⟨#[]⟩] 85)).heap[V3.heap.size]? =some (.cells (UT.cells ⟨0,0,0,[]⟩).toArray 85 (0,0))from heap_alloc_last V3 (.cells #[.int .i64 0,.int .i64 0,.int .i64 0,.string ⟨#[]⟩] 85))
      have hgx:w6.heap.size<=V3.heap.size:=HK3.out.size;have hgg:g<V3.heap.size:=HL3.out.lt;clear hSn hal HL3 HK3;generalize V3.alloc _=V4 at*;generalize V3.heap.size=gx at*
      refine A0b fun K hK=>alF ?_
      refine wp_store_row 85 _ _ rfl gx (UT.cells ⟨v1,v2,v3,[]⟩).toArray rfl rfl 85 (UT.cells ⟨0,0,0,[]⟩).toArray HZ4.out B3b rfl (E1k _) ?_
      have hgW:W.heap.size<=gx:=Nat.le_trans HJ6.out.k.size hgx;have HLZ:=hzz (HLF.out.newer HL4.out nlz ((A0j.refl _ _).setrow (.inl hgW) (UT.cells ⟨v1,v2,v3,[]⟩).toArray))
      have HKZ:=hzz (HK4.out.setrow (.inl (.inr hgx)) (UT.cells ⟨v1,v2,v3,[]⟩).toArray);have HZZ:=hzz (setRow_heap V4 gx _ (UT.cells ⟨v1,v2,v3,[]⟩).toArray _ _ HZ4.out)
      have hgt6:gt<w6.heap.size:=A0r HGT.out;have hSn:Q15 gt t (V4.setRow gx (UT.cells ⟨v1,v2,v3,[]⟩).toArray):=HKZ.out.row HGT.out (by omega);refine⟨hSn,hK _ _ ?_⟩
      clear hK K HL4 HK4 HZ4 hSw
      refine A0m (B1s (V4.setRow gx (UT.cells ⟨v1,v2,v3,[]⟩).toArray)) (fun y hy=>by obtain rfl:y=V4.setRow gx (UT.cells ⟨v1,v2,v3,[]⟩).toArray:=hy;exact hSn) rfl ?_
      refine A0p (fun y hy=> ?_);obtain rfl:y=V4.setRow gx (UT.cells ⟨v1,v2,v3,[]⟩).toArray:=hy;clear hSn
      go_wp2_with fail
      go_meet;exact⟨gx,_,rfl,hgx,hzz (by simp[A1f (show(2:Int)≠0 by decide),and_assoc]),HLZ,HKZ,HZZ⟩
     intro K hK;refine alF ?_;go_step;have hal:Below V2.heap.size V2 (V2.alloc (.cells #[.int .i64 0,.int .i64 0,.int .i64 0,.string ⟨#[]⟩] 85)):=A0f _ _
     have hSn:Q15 gt t (V2.alloc (.cells #[.int .i64 0,.int .i64 0,.int .i64 0,.string ⟨#[]⟩] 85)):=A0e hSw hal;refine⟨hSn,hK _ _ ?_⟩;clear hK K hSw;have hSw:=hSn
     have HL3:=hzz (HL2.out.below hal);have HK3:=hzz (HK2.out.trans (A0j.of hal))
     have HZ3:=hzz (show(V2.alloc (.cells #[.int .i64 0,.int .i64 0,.int .i64 0,.string ⟨#[]⟩] 85)).heap[V2.heap.size]? =some (.cells (UT.cells ⟨0,0,0,[]⟩).toArray 85 (0,0))from heap_alloc_last V2 (.cells #[.int .i64 0,.int .i64 0,.int .i64 0,.string ⟨#[]⟩] 85))
     have hgx:w6.heap.size<=V2.heap.size:=HK2.out.size;have hgg:g<V2.heap.size:=HL2.out.lt;clear hSn hal HL2 HK2;generalize V2.alloc _=V3 at*;generalize V2.heap.size=gx at*
     refine A0b fun K hK=>alF ?_
     go_step;refine(HP3.out V3 (A2a (A2a er5 c1 2) c2 2) HL3.out (HC.out.see (HJ6.out.new HL3.out HK3.out hgl9 (by omega)).k)).mono ?_;rintro e V4 ⟨rfl,hl,hk⟩;have HL4:=hzz hl
     have HK4:=hzz (HK3.out.trans (hk.weak (q:=fun k=>k=g\/w6.heap.size<=k) fun _ _ e=> .inl e));have hS4:Q15 gt t V4:=hk.row hSw (by omega);have HZ4:=hzz (hk.row HZ3.out (by omega))
     clear hl hk hSw HL3 HK3 HZ3;have hSw:=hS4;clear hS4;go_simp
     first|refine⟨hSw,hK _ _ ?_⟩|refine hK _ _ ?_
     clear hK K
     iterate 1
      refine A0b fun K hK=>tkF ?_
      go_simp
      try go_bits
      refine hK _ _ ?_;clear hK K
     refine A0b fun K hK=>alF ?_
     refine wp_store_row 85 _ _ rfl gx (UT.cells ⟨v1,v2,v3,[]⟩).toArray rfl rfl 85 (UT.cells ⟨0,0,0,[]⟩).toArray HZ4.out B3b rfl (E1k _) ?_
     have hgW:W.heap.size<=gx:=Nat.le_trans HJ6.out.k.size hgx;have HLZ:=hzz (HLF.out.newer HL4.out nlz ((A0j.refl _ _).setrow (.inl hgW) (UT.cells ⟨v1,v2,v3,[]⟩).toArray))
     have HKZ:=hzz (HK4.out.setrow (.inl (.inr hgx)) (UT.cells ⟨v1,v2,v3,[]⟩).toArray);have HZZ:=hzz (setRow_heap V4 gx _ (UT.cells ⟨v1,v2,v3,[]⟩).toArray _ _ HZ4.out)
     have hgt6:gt<w6.heap.size:=A0r HGT.out;have hSn:Q15 gt t (V4.setRow gx (UT.cells ⟨v1,v2,v3,[]⟩).toArray):=HKZ.out.row HGT.out (by omega);refine⟨hSn,hK _ _ ?_⟩
     clear hK K HL4 HK4 HZ4 hSw
     refine A0m (B1s (V4.setRow gx (UT.cells ⟨v1,v2,v3,[]⟩).toArray)) (fun y hy=>by obtain rfl:y=V4.setRow gx (UT.cells ⟨v1,v2,v3,[]⟩).toArray:=hy;exact hSn) rfl ?_
     refine A0p (fun y hy=> ?_);obtain rfl:y=V4.setRow gx (UT.cells ⟨v1,v2,v3,[]⟩).toArray:=hy;clear hSn
     go_wp2_with fail
     go_meet;exact⟨gx,_,rfl,hgx,hzz (by simp[A1f (show(2:Int)≠0 by decide),and_assoc]),HLZ,HKZ,HZZ⟩
    intro K hK;refine alF ?_;go_step;have hal:Below V1.heap.size V1 (V1.alloc (.cells #[.int .i64 0,.int .i64 0,.int .i64 0,.string ⟨#[]⟩] 85)):=A0f _ _
    have hSn:Q15 gt t (V1.alloc (.cells #[.int .i64 0,.int .i64 0,.int .i64 0,.string ⟨#[]⟩] 85)):=A0e hSw hal;refine⟨hSn,hK _ _ ?_⟩;clear hK K hSw;have hSw:=hSn
    have HL2:=hzz (HL1.out.below hal);have HK2:=hzz (HK1.out.trans (A0j.of hal))
    have HZ2:=hzz (show(V1.alloc (.cells #[.int .i64 0,.int .i64 0,.int .i64 0,.string ⟨#[]⟩] 85)).heap[V1.heap.size]? =some (.cells (UT.cells ⟨0,0,0,[]⟩).toArray 85 (0,0))from heap_alloc_last V1 (.cells #[.int .i64 0,.int .i64 0,.int .i64 0,.string ⟨#[]⟩] 85))
    have hgx:w6.heap.size<=V1.heap.size:=HK1.out.size;have hgg:g<V1.heap.size:=HL1.out.lt;clear hSn hal HL1 HK1;generalize V1.alloc _=V2 at*;generalize V1.heap.size=gx at*
    refine A0b fun K hK=>alF ?_
    go_step;refine(HP2.out V2 (A2a er5 c1 2) HL2.out (HC.out.see (HJ6.out.new HL2.out HK2.out hgl9 (by omega)).k)).mono ?_;rintro e V3 ⟨rfl,hl,hk⟩;have HL3:=hzz hl
    have HK3:=hzz (HK2.out.trans (hk.weak (q:=fun k=>k=g\/w6.heap.size<=k) fun _ _ e=> .inl e));have hS3:Q15 gt t V3:=hk.row hSw (by omega);have HZ3:=hzz (hk.row HZ2.out (by omega))
    clear hl hk hSw HL2 HK2 HZ2;have hSw:=hS3;clear hS3;go_simp
    first|refine⟨hSw,hK _ _ ?_⟩|refine hK _ _ ?_
    clear hK K;refine A0b fun K hK=>alF ?_
    go_step;refine(HP3.out V3 (A2a (A2a er5 c1 2) c2 2) HL3.out (HC.out.see (HJ6.out.new HL3.out HK3.out hgl9 (by omega)).k)).mono ?_;rintro e V4 ⟨rfl,hl,hk⟩;have HL4:=hzz hl
    have HK4:=hzz (HK3.out.trans (hk.weak (q:=fun k=>k=g\/w6.heap.size<=k) fun _ _ e=> .inl e));have hS4:Q15 gt t V4:=hk.row hSw (by omega);have HZ4:=hzz (hk.row HZ3.out (by omega))
    clear hl hk hSw HL3 HK3 HZ3;have hSw:=hS4;clear hS4;go_simp
    first|refine⟨hSw,hK _ _ ?_⟩|refine hK _ _ ?_
    clear hK K
    iterate 1
     refine A0b fun K hK=>tkF ?_
     go_simp
     try go_bits
     refine hK _ _ ?_;clear hK K
    refine A0b fun K hK=>alF ?_
    refine wp_store_row 85 _ _ rfl gx (UT.cells ⟨v1,v2,v3,[]⟩).toArray rfl rfl 85 (UT.cells ⟨0,0,0,[]⟩).toArray HZ4.out B3b rfl (E1k _) ?_
    have hgW:W.heap.size<=gx:=Nat.le_trans HJ6.out.k.size hgx;have HLZ:=hzz (HLF.out.newer HL4.out nlz ((A0j.refl _ _).setrow (.inl hgW) (UT.cells ⟨v1,v2,v3,[]⟩).toArray))
    have HKZ:=hzz (HK4.out.setrow (.inl (.inr hgx)) (UT.cells ⟨v1,v2,v3,[]⟩).toArray);have HZZ:=hzz (setRow_heap V4 gx _ (UT.cells ⟨v1,v2,v3,[]⟩).toArray _ _ HZ4.out)
    have hgt6:gt<w6.heap.size:=A0r HGT.out;have hSn:Q15 gt t (V4.setRow gx (UT.cells ⟨v1,v2,v3,[]⟩).toArray):=HKZ.out.row HGT.out (by omega);refine⟨hSn,hK _ _ ?_⟩
    clear hK K HL4 HK4 HZ4 hSw
    refine A0m (B1s (V4.setRow gx (UT.cells ⟨v1,v2,v3,[]⟩).toArray)) (fun y hy=>by obtain rfl:y=V4.setRow gx (UT.cells ⟨v1,v2,v3,[]⟩).toArray:=hy;exact hSn) rfl ?_
    refine A0p (fun y hy=> ?_);obtain rfl:y=V4.setRow gx (UT.cells ⟨v1,v2,v3,[]⟩).toArray:=hy;clear hSn
    go_wp2_with fail
    go_meet;exact⟨gx,_,rfl,hgx,hzz (by simp[A1f (show(2:Int)≠0 by decide),and_assoc]),HLZ,HKZ,HZZ⟩
   intro K hK;refine alF ?_;go_step;have hal:Below V0.heap.size V0 (V0.alloc (.cells #[.int .i64 0,.int .i64 0,.int .i64 0,.string ⟨#[]⟩] 85)):=A0f _ _
   have hSn:Q15 gt t (V0.alloc (.cells #[.int .i64 0,.int .i64 0,.int .i64 0,.string ⟨#[]⟩] 85)):=A0e hSw hal;refine⟨hSn,hK _ _ ?_⟩;clear hK K hSw;have hSw:=hSn
   have HL1:=hzz (HL0.out.below hal);have HK1:=hzz (HK0.out.trans (A0j.of hal))
   have HZ1:=hzz (show(V0.alloc (.cells #[.int .i64 0,.int .i64 0,.int .i64 0,.string ⟨#[]⟩] 85)).heap[V0.heap.size]? =some (.cells (UT.cells ⟨0,0,0,[]⟩).toArray 85 (0,0))from heap_alloc_last V0 (.cells #[.int .i64 0,.int .i64 0,.int .i64 0,.string ⟨#[]⟩] 85))
   have hgx:w6.heap.size<=V0.heap.size:=HK0.out.size;have hgg:g<V0.heap.size:=HL0.out.lt;clear hSn hal HL0 HK0;generalize V0.alloc _=V1 at*;generalize V0.heap.size=gx at*
   refine A0b fun K hK=>alF ?_
   go_step;refine(HP1.out V1 er5 HL1.out (HC.out.see (HJ6.out.new HL1.out HK1.out hgl9 (by omega)).k)).mono ?_;rintro e V2 ⟨rfl,hl,hk⟩;have HL2:=hzz hl
   have HK2:=hzz (HK1.out.trans (hk.weak (q:=fun k=>k=g\/w6.heap.size<=k) fun _ _ e=> .inl e));have hS2:Q15 gt t V2:=hk.row hSw (by omega);have HZ2:=hzz (hk.row HZ1.out (by omega))
   clear hl hk hSw HL1 HK1 HZ1;have hSw:=hS2;clear hS2;go_simp
   first|refine⟨hSw,hK _ _ ?_⟩|refine hK _ _ ?_
   clear hK K;refine A0b fun K hK=>alF ?_
   go_step;refine(HP2.out V2 (A2a er5 c1 2) HL2.out (HC.out.see (HJ6.out.new HL2.out HK2.out hgl9 (by omega)).k)).mono ?_;rintro e V3 ⟨rfl,hl,hk⟩;have HL3:=hzz hl
   have HK3:=hzz (HK2.out.trans (hk.weak (q:=fun k=>k=g\/w6.heap.size<=k) fun _ _ e=> .inl e));have hS3:Q15 gt t V3:=hk.row hSw (by omega);have HZ3:=hzz (hk.row HZ2.out (by omega))
   clear hl hk hSw HL2 HK2 HZ2;have hSw:=hS3;clear hS3;go_simp
   first|refine⟨hSw,hK _ _ ?_⟩|refine hK _ _ ?_
   clear hK K;refine A0b fun K hK=>alF ?_
   go_step;refine(HP3.out V3 (A2a (A2a er5 c1 2) c2 2) HL3.out (HC.out.see (HJ6.out.new HL3.out HK3.out hgl9 (by omega)).k)).mono ?_;rintro e V4 ⟨rfl,hl,hk⟩;have HL4:=hzz hl
   have HK4:=hzz (HK3.out.trans (hk.weak (q:=fun k=>k=g\/w6.heap.size<=k) fun _ _ e=> .inl e));have hS4:Q15 gt t V4:=hk.row hSw (by omega);have HZ4:=hzz (hk.row HZ3.out (by omega))
   clear hl hk hSw HL3 HK3 HZ3;have hSw:=hS4;clear hS4;go_simp
   first|refine⟨hSw,hK _ _ ?_⟩|refine hK _ _ ?_
   clear hK K
   iterate 1
    refine A0b fun K hK=>tkF ?_
    go_simp
    try go_bits
    refine hK _ _ ?_;clear hK K
   refine A0b fun K hK=>alF ?_
   refine wp_store_row 85 _ _ rfl gx (UT.cells ⟨v1,v2,v3,[]⟩).toArray rfl rfl 85 (UT.cells ⟨0,0,0,[]⟩).toArray HZ4.out B3b rfl (E1k _) ?_
   have hgW:W.heap.size<=gx:=Nat.le_trans HJ6.out.k.size hgx;have HLZ:=hzz (HLF.out.newer HL4.out nlz ((A0j.refl _ _).setrow (.inl hgW) (UT.cells ⟨v1,v2,v3,[]⟩).toArray))
   have HKZ:=hzz (HK4.out.setrow (.inl (.inr hgx)) (UT.cells ⟨v1,v2,v3,[]⟩).toArray);have HZZ:=hzz (setRow_heap V4 gx _ (UT.cells ⟨v1,v2,v3,[]⟩).toArray _ _ HZ4.out)
   have hgt6:gt<w6.heap.size:=A0r HGT.out;have hSn:Q15 gt t (V4.setRow gx (UT.cells ⟨v1,v2,v3,[]⟩).toArray):=HKZ.out.row HGT.out (by omega);refine⟨hSn,hK _ _ ?_⟩;clear hK K HL4 HK4 HZ4 hSw
   refine A0m (B1s (V4.setRow gx (UT.cells ⟨v1,v2,v3,[]⟩).toArray)) (fun y hy=>by obtain rfl:y=V4.setRow gx (UT.cells ⟨v1,v2,v3,[]⟩).toArray:=hy;exact hSn) rfl ?_
   refine A0p (fun y hy=> ?_);obtain rfl:y=V4.setRow gx (UT.cells ⟨v1,v2,v3,[]⟩).toArray:=hy;clear hSn
   go_wp2_with fail
   go_meet;exact⟨gx,_,rfl,hgx,hzz (by simp[A1f (show(2:Int)≠0 by decide),and_assoc]),HLZ,HKZ,HZZ⟩
  obtain⟨gx,er6,rfl,hgx,HE6,HL6,HK6,HZ6⟩:=hcut;have HJ7:=hzz (HJ6.out.new HL6.out HK6.out hgl9 (by omega));have hgt6:gt<w6.heap.size:=A0r HGT.out
  have HT7:=hzz (HK6.out.row HGT.out (by omega));have ct:=A0a HT7.out 3 rfl;dsimp only[KT.cells]at ct
  go_upto_if 95 with fail
  go_cut [] (fun wx=>∃(er7:Int) (cl:List UInt8),Hid (er7=0↔er6=0/\(decide (t.cl=0)||aclsB K t.cl false)=true)/\Hid (cl=if t.cl=0 then []else(A0s K t.cl).1)/\Hid (LfS wx g a n cap K er7)/\Hid (A0j (fun k=>k=g\/w6.heap.size<=k) w6 wx)/\Hid (wx.heap[gx]? =some (.cells (UT.cells ⟨v1,v2,v3,cl⟩).toArray 85 (0,0))))
  case first=>
   by_cases h0:t.cl=0
   ·have e0:(t.cl !=0)=false:=by simp[h0]
    have HH:=hzz h0;clear h0
    go_wp2_with fail
    go_meet;exact⟨er6,[],hzz (by simp[HH.out]),hzz (by simp[HH.out]),HL6,HK6,HZ6⟩
   have e0:(t.cl !=0)=true:=by simp[h0]
   have HH:=hzz h0;clear h0;have ck:=A0a (HC.out.see HJ7.out.k).k 0 rfl;have HCL:=hzz (A7r wc g a n cap K er6 t.cl false HL6.out);have hgg6:g<w6.heap.size:=HJ6.out.l.lt
   have hW6:W.heap.size<=w6.heap.size:=HJ6.out.k.size
   go_wp2_with fail
   refine HCL.out.mono ?_;rintro e w8 ⟨rfl,hl,hk⟩;have HL8:=hzz hl;have HK8:=hzz (HK6.out.trans (hk.weak (q:=fun k=>k=g\/w6.heap.size<=k) fun _ _ e=> .inl e))
   have HZ8:=hzz (hk.row HZ6.out (by omega));clear hl hk HCL HT7 HJ7 ct HZ6 HL6 HK6 ck;have f3:=A0n HZ8.out 3;have z3:=A0a HZ8.out 3 rfl;have lz:=A0r HZ8.out;dsimp only[UT.cells]at z3
   go_wp2_with fail
   go_meet
   exact⟨_,(A0s K t.cl).1,hzz (by rw[A1f (by decide)];simp[HH.out]),hzz (by simp[HH.out]),hzz (HLF.out.newer HL8.out nlz (A0j.set (A0j.refl _ _) (.inl (show W.heap.size<=gx by omega)) 3 _)),hzz (HK8.out.set (.inl (.inr hgx)) 3 _),hzz (A1k HZ8.out 3 _)⟩
  clear HL6 HK6 HZ6 HJ7 HT7 ct;obtain⟨er7,cl,HE7,HCL,HL7,HK7,HZ7⟩:=hcut;have HJ8:=hzz (HJ6.out.new HL7.out HK7.out hgl9 (by omega));have z0:=A0a HZ7.out 0 rfl;have z1:=A0a HZ7.out 1 rfl
  have z2:=A0a HZ7.out 2 rfl;have z3:=A0a HZ7.out 3 rfl;have o6:=A0a HJ8.out.o 6 rfl;dsimp only[UT.cells,UM.cells]at z0 z1 z2 z3 o6;have h255:x5.tn<=255:=by rw[HCN.out];omega
  go_wp2_with (at_builtin;refine A0q D4w rfl _ _ rfl W.heap.size _ x5.tn _ rfl HJ8.out.w.traps _ 1 _ _ rfl rfl rfl rfl (by omega) (by unfold maxLen;omega) HJ8.out.k.size ?_;intro v9 w9 hown9 hg9 hb9;have hk9:=A2p.app HJ8.out.w.traps hg9;have hown8:w9.ownsRow W.heap.size 85 4 v9 (x5.tn+1) ((x5.traps++[(⟨v1,v2,v3,cl⟩:UT)]).flatMap UT.cells):=(by rw[List.flatMap_append];exact hown9);obtain⟨a9,c9,rfl,-,-⟩:=Ss.ofOwn UT.cells_length (by decide) hown8;have hB9:A0j (fun k=>W.heap.size<=k) wc w9:=A0j.ofB hb9 (Nat.le_trans (by simp) hg9.size);have HJ9:=hzz (HLF.out.app9 HJ8.out hB9 hk9 (HJ8.out.w.traps1 hk9 hown8) (by omega) (by omega) (by omega) HOP.out);have fo:=A0n HJ9.out.2.1 6;have lto:=A0r HJ9.out.2.1;have co:=A0a HJ9.out.2.1 6 rfl;dsimp only[UM.cells]at co;clear hown9 hown8 hg9 hb9 hk9 hB9)
  have HJ10:=HJ9.out.2.2 6 (.slice a9 (x5.tn+1) c9) rfl;have HX10:=hzz (UM.p_traps1 HX5.out a9 (x5.tn+1) c9 (⟨v1,v2,v3,cl⟩:UT));have HJ11:=hzz HJ10
  have HX11:=hzz (show UM.p {x5 with ta:=a9,tn:=x5.tn+1,tc:=c9,traps:=x5.traps++[(⟨v1,v2,v3,cl⟩:UT)]}=⟨sb,NM,DS,m.st,m.lo,none,0,0,L.map (B4x K L),none,0,0,(m.traps.take (jt+1)).map (B5d K L m.cn),none,0,0,[]⟩ by
   rw[HX10.out,HTK.out,List.map_append,List.map_singleton,show B5d K L m.cn t=⟨v1,v2,v3,cl⟩ by rw[HV1.out.1,HV1.out.2.1,HV1.out.2.2,HCL.out];rfl])
  have HE11:=hzz (show er7=0↔er'=0/\(m.traps.take (jt+1)).all (B8s K L m.cn)=true by
   rw[HE7.out,HE6.out,HE5.out,HTK.out,List.all_append,HC1.out.1,HC1.out.2.1,HC1.out.2.2];simp[B8s,and_assoc])
  clear HJ10 HX10 HJ9 HX5 HE5 HE6 HE7 HV1 HC1 HCL HJ8 HJ6 HL7 HK7 HZ7 HGT fo lto co z0 z1 z2 z3 o6;go_roundg (m.tn-(jt+1))
  case measure=>omega
  exact⟨jt+1,er7,_,by omega,rfl,by go_num,HE11,HX11,HJ11⟩
 have hje:jt=m.tn:=by omega
 have hfull:m.traps.take jt=m.traps:=List.take_of_length_le (by rw[HD.out.traps.1];omega);rw[hfull]at HE5 HX5;have hnl:¬((jt:Int)<m.tn):=by omega
 clear hje;have c7:=A0a (HC.out.see HJ5.out.k).m 7 rfl;dsimp only[KM.cells]at c7
 go_wp2_with fail
 go_loopg [111] m.mn (fun gn i wr3=>∃(jp:Nat) (er9:Int) (x9:UM),jp<=m.mn/\gn=m.mn-jp/\i= .int .i64 jp/\Hid (er9=0↔er5=0/\(m.maps.take jp).all (D2f K L m.cn)=true)/\Hid (x9.p=⟨sb,NM,DS,m.st,m.lo,none,0,0,L.map (B4x K L),none,0,0,m.traps.map (B5d K L m.cn),none,0,0,(m.maps.take jp).map (D5b K L m.cn)⟩)/\Hid (B6q W wr3 g (w.heap.size+3) a n cap K er9 x9))
 case atStart=>exact⟨0,er5,x5,by omega,by omega,by go_num,hzz (by simp),hzz (by rw[HX5.out];rfl),HJ5⟩
 clear HJ5 c7;obtain⟨jp,er9,x9,hj9,rfl,rfl,HE9,HX9,HJ9⟩:=hrel;by_cases hlt:jp<m.mn
 ·have hlj:x9.maps.length=jp:=by
   have h1:=congrArg (fun u=>u.maps.length) HX9.out;have h2:=HD.out.maps.1;simp only[UM.p,List.length_map,List.length_take]at h1;omega
  have hcn:x9.mn=jp:=by
   obtain⟨a9,c9,e9,h9,_⟩:=Ss.ofOwn UP.cells_length (by decide) HJ9.out.w.maps
   cases e9
   rw[<-hlj];exact h9.1.symm
  have HCN:=hzz hcn;have HS:=hzz (HC.out.rd HJ9.out.k).maps;have hj1:(jp:Int)<m.mn:=by omega
  obtain⟨bq,off,p,hbq,hbl,hs,q⟩:=HS.out.getC jp hlt;have q0:=q 0 (by omega);have q1:=q 1 (by omega);have q2:=q 2 (by omega);rw[Nat.add_zero]at q0
  simp only[KP.cells,List.getElem?_cons_zero,List.getElem?_cons_succ]at q0 q1 q2
  have HTK:=hzz (show m.maps.take (jp+1)=m.maps.take jp++[p] by
   have hjl:=(gsz hs).1;rw[List.take_succ_eq_append_getElem hjl,(gsz hs).2])
  have HPM:=hzz (List.mem_of_getElem? hs);obtain⟨hpl,s1,s2,g1,g2⟩:=C3d (q5 p HPM.out) (HD.out.each p HPM.out);obtain⟨sl,hsl⟩:∃sl:KS->List UInt8,sl=A3x K:=⟨_,rfl⟩
  have HSLV:=hzz hsl;have HG1:=hzz g1;have HG2:=hzz g2;have HO1:=hzz ((HD.out.each p HPM.out).loc.offold hDg);have HO2:=hzz ((HD.out.each p HPM.out).stk.offold hDg);clear hs q hlt HS hlj hcn g1 g2 hsl
  go_upto_region 23 with fail
  have hb6:Below wr.heap.size wr (wr.alloc (.cells #[.int .i64 p.pl,.slice p.la p.ln p.lc,.slice p.sa p.sn p.sc] 68)):=A0f _ _;have HJ6:=hzz ((HJ9.out.below hb6).below (brz.drew))
  have HGP:=hzz (show(wr.alloc (.cells #[.int .i64 p.pl,.slice p.la p.ln p.lc,.slice p.sa p.sn p.sc] 68)).drew.heap[wr.heap.size]? =some (.cells p.cells.toArray 68 (0,0))from heap_alloc_last wr (.cells #[.int .i64 p.pl,.slice p.la p.ln p.lc,.slice p.sa p.sn p.sc] 68))
  have hggp:g<wr.heap.size:=HJ9.out.l.lt;have hWr:W.heap.size<=wr.heap.size:=HJ9.out.k.size;clear hb6 HJ9 q0 q1 q2 hbq hbl;generalize wr.heap.size=gp at*
  obtain⟨v1,hv1⟩:∃v:Int,v=(plV L m.cn p.pl false:Nat):=⟨_,rfl⟩;obtain⟨c1,hc1⟩:∃v,v=plC L m.cn p.pl false:=⟨_,rfl⟩
  have HP1:=hzz (fun V e hl hs=>A9q V g a n cap K e (w.heap.size+1) gl ga w.heap.size m la j lc L b p.pl false (A1j (by omega)) (by have:=HQ1.out;omega) HLN.out hl hs);rw[<-hv1,<-hc1]at HP1
  have HV1:=hzz hv1;have HC1:=hzz hc1;clear hv1 hc1 hpl
  have hSw:Q23 w.heap.size g (w.heap.size+3) gp p (.slice x9.ma x9.mn x9.mc) (wr.alloc (.cells #[.int .i64 p.pl,.slice p.la p.ln p.lc,.slice p.sa p.sn p.sc] 68)).drew:=⟨HGP.out,A0a (HC.out.see HJ6.out.k).k 0 rfl,A0a HJ6.out.o 7 rfl⟩
  have l0:=fun z (h:Q23 w.heap.size g (w.heap.size+3) gp p (.slice x9.ma x9.mn x9.mc) z)=>A0a h.1 0 rfl
  have l1:=fun z (h:Q23 w.heap.size g (w.heap.size+3) gp p (.slice x9.ma x9.mn x9.mc) z)=>A0a h.1 1 rfl
  have l2:=fun z (h:Q23 w.heap.size g (w.heap.size+3) gp p (.slice x9.ma x9.mn x9.mc) z)=>A0a h.1 2 rfl
  have l3:=fun z (h:Q23 w.heap.size g (w.heap.size+3) gp p (.slice x9.ma x9.mn x9.mc) z)=>h.2.1
  have l4:=fun z (h:Q23 w.heap.size g (w.heap.size+3) gp p (.slice x9.ma x9.mn x9.mc) z)=>h.2.2
  dsimp only[KP.cells]at l0 l1 l2
  refine A0t (Q23 w.heap.size g (w.heap.size+3) gp p (.slice x9.ma x9.mn x9.mc)) 18 [(0,true),(1,true),(2,true),(3,true),(4,true),(6,true),(7,true),(8,true),(10,true),(11,true),(12,true),(5,false),(9,false),(13,false),(14,true),(15,false),(16,false),(17,true)] (by kernel_rfl) (by kernel_rfl) (fun c a d v w h=>by cases d<;>exact h) ?_
  generalize(wr.alloc (.cells #[.int .i64 p.pl,.slice p.la p.ln p.lc,.slice p.sa p.sn p.sc] 68)).drew=w6 at*
  iterate 11
   refine A0d fun K hK=>tkF ?_
   go_simp
   try go_bits
   refine hK _ _ ?_;clear hK K
  refine A0d fun K hK=>alF ?_
  go_step;refine(HP1.out w6 er9 HJ6.out.l (HC.out.see HJ6.out.k)).mono ?_;rintro e V1 ⟨rfl,hl,hk⟩;have HEa:=hzz (A1f (er:=er9) (ok:=c1) (show(2:Int)≠0 by decide))
  generalize A2a er9 c1 2=era at*;have HL1:=hzz hl;have HK1:=hzz (show A0j (fun k=>k=g\/w6.heap.size<=k) w6 V1 from hk.weak fun _ _ e=> .inl e)
  have HJ1:=hzz (HJ6.out.new HL1.out HK1.out hgl9 (by omega))
  have hSx:Q23 w.heap.size g (w.heap.size+3) gp p (.slice x9.ma x9.mn x9.mc) V1:=⟨hk.row HGP.out (by omega),A0a (HC.out.see HJ1.out.k).k 0 rfl,A0a HJ1.out.o 7 rfl⟩;clear hl hk hSw;have hSw:=hSx
  clear hSx;go_simp
  first|refine⟨hSw,hK _ _ ?_⟩|refine hK _ _ ?_
  clear hK K;refine A0d fun K hK=>alF ?_
  go_step;refine(B6e V1 g a n cap _ era p.la p.ln p.lc p.loc HL1.out (((HC.out.rd HJ1.out.k).each p HPM.out).loc) HO1.out (by omega) HG1.out).mono ?_;rintro e V2 ⟨oa,oc,⟨rfl,⟨erb,heb,hl⟩,hk⟩,how⟩
  have HEb:=hzz heb;have HL2:=hzz hl;have HK2:=hzz (HK1.out.trans (hk.weak (q:=fun k=>k=g\/w6.heap.size<=k) fun _ _ e=> .inl e));have HJ2:=hzz (HJ6.out.new HL2.out HK2.out hgl9 (by omega))
  have hSx:Q23 w.heap.size g (w.heap.size+3) gp p (.slice x9.ma x9.mn x9.mc) V2:=⟨hk.row hSw.1 (by omega),A0a (HC.out.see HJ2.out.k).k 0 rfl,A0a HJ2.out.o 7 rfl⟩
  have HW2:=hzz (A1y how (show W.heap.size<=V1.heap.size from HJ1.out.k.size));clear hl hk hSw heb how HL1 HK1 HJ1;have hSw:=hSx;clear hSx;go_simp
  first|refine⟨hSw,hK _ _ ?_⟩|refine hK _ _ ?_
  clear hK K;refine A0d fun K hK=>alF ?_
  go_step;refine(B6e V2 g a n cap _ erb p.sa p.sn p.sc p.stk HL2.out (((HC.out.rd HJ2.out.k).each p HPM.out).stk) HO2.out (by omega) HG2.out).mono ?_;rintro e V3 ⟨ob,od,⟨rfl,⟨erc,hec,hl⟩,hk⟩,how⟩
  have HEc:=hzz hec;have HL3:=hzz hl;have HK3:=hzz (HK2.out.trans (hk.weak (q:=fun k=>k=g\/w6.heap.size<=k) fun _ _ e=> .inl e));have HJ3:=hzz (HJ6.out.new HL3.out HK3.out hgl9 (by omega))
  have hSx:Q23 w.heap.size g (w.heap.size+3) gp p (.slice x9.ma x9.mn x9.mc) V3:=⟨hk.row hSw.1 (by omega),A0a (HC.out.see HJ3.out.k).k 0 rfl,A0a HJ3.out.o 7 rfl⟩
  have HW3:=hzz (A1y how (show W.heap.size<=V2.heap.size from HJ2.out.k.size));have HW4:=hzz (A5d HW2.out hk (fun y hy=> .inl (by omega)));clear hl hk hSw hec how HL2 HK2 HJ2 HW2;have hSw:=hSx
  clear hSx;go_simp
  first|refine⟨hSw,hK _ _ ?_⟩|refine hK _ _ ?_
  clear hK K
  iterate 1
   refine A0d fun K hK=>tkF ?_
   go_simp
   try go_bits
   refine hK _ _ ?_;clear hK K
  refine A0d fun K hK=>alF ?_
  go_step;have hal:Below V3.heap.size V3 (V3.alloc (.cells #[.int .i64 v1,.slice oa p.ln oc,.slice ob p.sn od] 88)):=A0f _ _
  have hSx:Q23 w.heap.size g (w.heap.size+3) gp p (.slice x9.ma x9.mn x9.mc) (V3.alloc (.cells #[.int .i64 v1,.slice oa p.ln oc,.slice ob p.sn od] 88)):=⟨A0e hSw.1 hal,A0c hal hSw.2.1,A0c hal hSw.2.2⟩
  refine⟨hSx,hK _ _ ?_⟩;clear hK K hSx hal;have HGP3:=hzz hSw.1;clear hSw;refine A0d fun K hK=>alF ?_
  change Oper.wp _ _ _ _ _ _;have h255:x9.mn<=255:=by rw[HCN.out];omega
  refine A3h C5n (ops:= #[]) rfl _ _ _ rfl W.heap.size _ x9.mn _ rfl (HJ3.out.w.maps.alloc _) _ 1 _ rfl (Src.litS (m:=1) rfl rfl C5n.1) (by omega) (by unfold maxLen;omega) (Nat.le_trans HJ3.out.k.size (by simp)) ?_
  intro v9 w9 hown9 hg9 hb9;have hk9:=A2p.app HJ3.out.w.maps hg9;obtain⟨nu,hnu⟩:∃nu:UP,nu=⟨v1,oa,p.ln,oc,p.loc.map sl,ob,p.sn,od,p.stk.map sl⟩:=⟨_,rfl⟩
  have hown8:w9.ownsRow W.heap.size 88 3 v9 (x9.mn+1) ((x9.maps++[nu]).flatMap UP.cells):=(by rw[List.flatMap_append,hnu];exact hown9)
  have hnuO:nu.Own w9 W.heap.size:=by
   rw[hnu,HSLV.out];exact⟨A0k HW4.out hk9 (by decide),A0k HW3.out hk9 (by decide)⟩
  obtain⟨a9,c9,rfl,-,-⟩:=Ss.ofOwn UP.cells_length (by decide) hown8;have hB9:A0j (fun k=>W.heap.size<=k) V3 w9:=(A0j.of (A0f _ _)).trans (A0j.ofB hb9 (by have:=hg9.size;simpa using this))
  have HJA:=hzz (HLF.out.app9 HJ3.out hB9 hk9 (HJ3.out.w.maps1 hk9 hown8 hnuO) (by omega) (by omega) (by omega) HOP.out);have HNU:=hzz hnu
  have hSw:Q23 w.heap.size g (w.heap.size+3) gp p (.slice x9.ma x9.mn x9.mc) w9:=⟨hk9.2 _ _ _ _ HGP3.out (by decide),A0a (HC.out.see HJA.out.1).k 0 rfl,A0a HJA.out.2.1 7 rfl⟩
  clear hown9 hown8 hg9 hb9 hk9 hB9 HGP3 HJ3 hnu hnuO HW3 HW4 HL3 HK3 HJ6 HGP;refine⟨hSw,hK _ _ ?_⟩;clear hK K
  iterate 1
   refine A0d fun K hK=>tkF ?_
   go_simp
   try go_bits
   refine hK _ _ ?_;clear hK K
  have fo:=A0n HJA.out.2.1 7;have lto:=A0r HJA.out.2.1;have co:=A0a HJA.out.2.1 7 rfl;dsimp only[UM.cells]at co;refine A1u (laF ?_);go_step
  have HJ10:=HJA.out.2.2 7 (.slice a9 (x9.mn+1) c9) rfl;have HX10:=hzz (UM.p_maps1 HX9.out a9 (x9.mn+1) c9 nu);have HJ11:=hzz HJ10
  have HX11:=hzz (show UM.p {x9 with ma:=a9,mn:=x9.mn+1,mc:=c9,maps:=x9.maps++[nu]}=⟨sb,NM,DS,m.st,m.lo,none,0,0,L.map (B4x K L),none,0,0,m.traps.map (B5d K L m.cn),none,0,0,(m.maps.take (jp+1)).map (D5b K L m.cn)⟩ by
   rw[HX10.out,HTK.out,List.map_append,List.map_singleton,HNU.out,HV1.out,HSLV.out];rfl)
  have HE11:=hzz (show erc=0↔er5=0/\(m.maps.take (jp+1)).all (D2f K L m.cn)=true by
   rw[HEc.out,HEb.out,HEa.out,HE9.out,HTK.out,List.all_append,HC1.out];simp[D2f,and_assoc])
  clear HJ10 HX10 HJA HX9 HE9 HEa HEb HEc HV1 HC1 HNU hSw fo lto co l0 l1 l2 l3 l4
  go_wp2_with fail
  go_roundg (m.mn-(jp+1))
  case measure=>omega
  exact⟨jp+1,erc,_,by omega,rfl,by go_num,HE11,HX11,HJ11⟩
 have hje:jp=m.mn:=by omega
 have hfull:m.maps.take jp=m.maps:=List.take_of_length_le (by rw[HD.out.maps.1];omega);rw[hfull]at HE9 HX9;have hnl:¬((jp:Int)<m.mn):=by omega
 clear hje
 go_upto_region 25 with fail
 have HZ:=hzz (HC.out.zw HJ9.out.k);refine wp_region_lit ?_;refine A0y rfl _ _ rfl _ rfl _ _ _ _ HJ9.out.o Tryz.underlying59 rfl A5t ?_
 refine wpList_store_row rfl _ _ _ rfl _ _ rfl rfl _ _ HZ.out A5t rfl (D8h _) ?_
 go_wp2_with fail
 refine bodyPost_ret (results_cell_row rfl _ _ (w.heap.size+2) A1d (UM.cells _).toArray (0,0) _ rfl (setRow_heap _ _ _ _ _ _ HZ.out) Tryz.underlying59 rfl A5t) rfl ?_
 have hgz:W.heap.size<=wr.heap.size:=HJ9.out.k.size
 have hks:A0j (fun k=>k=w.heap.size+2) wr (wr.setRow (w.heap.size+2) x9.cells.toArray):=A0j.setrow (A0j.refl (fun k=>k=w.heap.size+2) _) (.inl rfl) _
 refine⟨x9,?_,(HJ9.out.w.keepP hks (fun y hy=> .inl (by omega))).mono (by omega),rfl,⟨er9,?_,H.out.newer HJ9.out.l nlz (hks.weak fun k _ e=>by omega)⟩,(HKP.out.new2 HJ9.out.k (fun x hx=>by rcases hx with hx|hx;exact .inl hx;exact .inr (by omega))).new2 hks (fun x hx=> .inr (by omega))⟩
 ·rw[HX9.out];unfold B9k;rw[HR.out,<-HNM.out,<-HDS.out,<-HSB.out]
 rw[HE9.out,HE5.out,HE.out,HE3.out,HE2.out];unfold B9m;rw[HR.out,<-HNM.out,<-HDS.out,<-HBA.out,<-HBB.out];simp[and_assoc]
end
end Go.Proofs.YtclpkipaehpkdaaGreatDoor
