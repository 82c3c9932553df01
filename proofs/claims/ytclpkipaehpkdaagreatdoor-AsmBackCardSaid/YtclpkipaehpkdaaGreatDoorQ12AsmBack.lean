/- asm -/
import Derived.Test.YtclpkipaehpkdaaGreatDoorQ09AsmBack
set_option linter.unusedVariables false
set_option linter.unusedSimpArgs false
set_option maxRecDepth 100000
set_option maxHeartbeats 64000000
open Go.Proofs.Tryz
namespace Go.Proofs.YtclpkipaehpkdaaGreatDoor
section
open Go.ChangeShapes Go.WideShapes Go.ChangeAt Go.RowKit
theorem rP{t e:TypeId}{z0:Value}{z bytes:Nat}(hO:StE t e z0 z bytes){w:World}{ops:Array Oper}{o:Oper}{a:Act}{K:Act->World->Prop}{Q:Exit->Act->World->Prop}(XF:Region.wanted o (yielded ops a.tmps)=true)(s x:Operand)(tx:TypeId)
  (ho:o.op= .call {callee:= .builtin .append,args:= #[s,x],argTypes:= #[t,tx]})
  (base:Nat) (v:Value) (n:Nat) (xs:List Value) (hv:a.eval s=v) (Zk:w.ownsRow base e z v n xs)
  (y:Value) (m:Nat) (news:List Value) (hy:a.eval x=y) (hs:Src prog z tx y m news w) (ZR:(n+m)*bytes<=140737488355328) (hm:n+m<=maxLen) (Zw:base<=w.heap.size)
  (h:∀v' w',w'.ownsRow base e z v' (n+m) (xs++news)->w.grownBy w' v.ownBlock->Below base w w'->K (a.put o.dst v') w'):Oper.wp prog o a w K Q:=by
 obtain⟨ht,Uj,hz⟩:=hO;obtain⟨i0,hi,RQ,Wi,U9⟩:=info_parts Uj;have h1:=gW (E:=True) (Q:=Q) XF s x t tx ho base e i0 z0 z bytes ht hi RQ Wi U9 hz v n xs hv Zk y m news hy hs hm ZR Zw (fun v' w' h1 h2=>h v' w' h1 h2 (pk Z6 Zw Zk h2))
 rwa [if_pos XF]at h1
theorem UM.Own.code1{x:UM}{w w9:World}{B:Nat}{v:Option Addr}{c:Nat}{i:IN}(h:x.Own w B)(ht:yd 54 w w9)(ho:w9.ownsRow B 54 7 (.slice v (x.cn+1) c) (x.cn+1) ((x.code++[i]).flatMap IN.cells)):UM.Own {x with ca:=v,cn:=x.cn+1,cc:=c,code:=x.code++[i]} w9 B:=
 ⟨ho,xA h.traps ht (by decide),xA h.maps ht (by decide),fun p hp=>(h.each p hp).keptT ht (by decide)⟩
theorem UM.Own.traps1{x:UM}{w w9:World}{B:Nat}{v:Option Addr}{c:Nat}{i:UT}(h:x.Own w B)(ht:yd 85 w w9)(ho:w9.ownsRow B 85 4 (.slice v (x.tn+1) c) (x.tn+1) ((x.traps++[i]).flatMap UT.cells)):UM.Own {x with ta:=v,tn:=x.tn+1,tc:=c,traps:=x.traps++[i]} w9 B:=
 ⟨xA h.code ht (by decide),ho,xA h.maps ht (by decide),fun p hp=>(h.each p hp).keptT ht (by decide)⟩
theorem UM.Own.maps1{x:UM}{w w9:World}{B:Nat}{v:Option Addr}{c:Nat}{i:UP}(h:x.Own w B)(ht:yd 88 w w9)(ho:w9.ownsRow B 88 3 (.slice v (x.mn+1) c) (x.mn+1) ((x.maps++[i]).flatMap UP.cells))(hi:i.Own w9 B):UM.Own {x with ma:=v,mn:=x.mn+1,mc:=c,maps:=x.maps++[i]} w9 B:=
 ⟨xA h.code ht (by decide),xA h.traps ht (by decide),ho,fun p hp=>by
  rcases List.mem_append.1 hp with hp|hp
  ·exact(h.each p hp).keptT ht (by decide)
  obtain rfl:p=i:=by simpa using hp
  exact hi⟩
theorem UM.p_code1{x X:UM}(h:x.p=X)(v:Option Addr)(n c:Nat)(i:IN):UM.p {x with ca:=v,cn:=n,cc:=c,code:=x.code++[i]}={X with code:=X.code++[i]}:=by
 subst h;rfl
theorem UM.p_traps1{x X:UM}(h:x.p=X)(v:Option Addr)(n c:Nat)(i:UT):UM.p {x with ta:=v,tn:=n,tc:=c,traps:=x.traps++[i]}={X with traps:=X.traps++[i]}:=by
 subst h;rfl
theorem UM.p_maps1{x X:UM}(h:x.p=X)(v:Option Addr)(n c:Nat)(i:UP):UM.p {x with ma:=v,mn:=n,mc:=c,maps:=x.maps++[i]}={X with maps:=X.maps++[i.p]}:=by
 subst h;simp[UM.p]
theorem yZ.new2{p q:Nat->Prop}{w w1 w2:World}(h:yZ p w w1)(k:yZ q w1 w2)(hq:∀x,q x->p x\/w.heap.size<=x):yZ p w w2:=
 ⟨k.os.trans h.os,k.tape.trans h.tape,k.output.trans h.output,Nat.le_trans h.size k.size,fun i hi hg=>by
  rw[k.block i (Nat.lt_of_lt_of_le hi h.size) (fun e=>by rcases hq i e with e|e;exact hg e;omega),h.block i hi hg]⟩
def Q15(gt:Nat)(t:KT)(wx:World):Prop:=wx.heap[gt]? =some (.cells t.cells.toArray 123 (0,0))
def Q23(s g go gp:Nat)(p:KP)(v:Value)(w:World):Prop:=w.heap[gp]? =some (.cells p.cells.toArray 68 (0,0))/\w.cell? ⟨s,0,none⟩=some (.pointer (some ⟨g,0,none⟩))/\w.cell? ⟨go,7,none⟩=some v
theorem Ss.offold{α:Type}{z:Nat}{enc:α->List Value}{D:World}{a:Option Addr}{n g:Nat}{xs:List α}(h:Ss z enc D a n xs)(hg:D.heap.size<=g):wX a n g:=by
 intro hn b off ha;obtain⟨b',off',e2,ZX,_⟩:=h.2 hn;rw[ha]at e2;simp only[Option.some.injEq,Addr.mk.injEq]at e2;omega
theorem nW{K:List KV}{s:KS}(h:wT K s=true):uH s:=by
 unfold wT at h;unfold uH;split at h
 ·omega
 simp only[Bool.and_eq_true,decide_eq_true_iff]at h;omega
theorem jz{K:List KV}{p:KP}{w:World}(h:xc K p=true)(hr:p.Rd w):(0<=p.pl/\p.pl<=65535)/\p.ln<=64/\p.sn<=64/\(∀s∈p.loc,uH s)/\(∀s∈p.stk,uH s):=by
 unfold xc vx xe at h;simp only[Bool.and_eq_true,decide_eq_true_iff,List.all_eq_true]at h;obtain⟨⟨h1,h2,h3⟩,h4,h5⟩:=h;have l1:=hr.loc.1;have l2:=hr.stk.1;exact⟨h1,by omega,by omega,fun s hs=>nW (h3 s hs),fun s hs=>nW (h5 s hs)⟩
def z0M:UM:=⟨false,[],[],0,0,none,0,0,[],none,0,0,[],none,0,0,[]⟩
structure Mc1(w wx:World)(g:Nat)(a:Option Addr)(n cap:Nat)(K:List KV)(er:Int)(m:KM)(x:UM):Prop where
 k:wx.heap[w.heap.size]? =some (.cells #[.pointer (some ⟨g,0,none⟩)] 70 (0,0))
 m:wx.heap[w.heap.size+1]? =some (.cells m.cells.toArray 65 (0,0))
 z:wx.heap[w.heap.size+2]? =some (.cells z0M.cells.toArray yT (0,0))
 o:wx.heap[w.heap.size+3]? =some (.cells x.cells.toArray yT (0,0))
 l:LfS wx g a n cap K er
 kp:yZ (fun k=>k=g) w wx
theorem Mc1.below{w wx w9:World}{g:Nat}{a:Option Addr}{n cap:Nat}{K:List KV}{er:Int}{m:KM}{x:UM}(h:Mc1 w wx g a n cap K er m x)(hb:Below wx.heap.size wx w9):Mc1 w w9 g a n cap K er m x:=
 ⟨yW h.k hb,yW h.m hb,yW h.z hb,yW h.o hb,h.l.below hb,h.kp.trans (yZ.of hb)⟩
theorem Mc1.call{w wx w9:World}{g:Nat}{a:Option Addr}{n cap:Nat}{K:List KV}{er er':Int}{m:KM}{x:UM}(h:Mc1 w wx g a n cap K er m x)(hl:LfS w9 g a n cap K er')(hk:yZ (fun k=>k=g) wx w9)(hg:g<w.heap.size):Mc1 w w9 g a n cap K er' m x:=
 ⟨hk.row h.k (by omega),hk.row h.m (by omega),hk.row h.z (by omega),hk.row h.o (by omega),hl,h.kp.trans hk⟩
def Bx2(s g:Nat)(m:KM)(w:World):Prop:=w.heap[s]? =some (.cells #[.pointer (some ⟨g,0,none⟩)] 70 (0,0))/\w.heap[s+1]? =some (.cells m.cells.toArray 65 (0,0))
def tv(s g:Nat)(nm ds:List UInt8)(w:World):Prop:=w.cell? ⟨s,0,none⟩=some (.pointer (some ⟨g,0,none⟩))/\w.cell? ⟨s+3,1,none⟩=some (.string ⟨nm.toArray⟩)/\w.cell? ⟨s+3,2,none⟩=some (.string ⟨ds.toArray⟩)
theorem xM:(prog.info? yT).map (·.size)=some 8:=by kernel_rfl
theorem sy:(prog.info? 85).map (·.size)=some 4:=by kernel_rfl
theorem r5(x:UT):x.cells.toArray.all (·.oneCell')=true:=by
 simp[UT.cells,Value.oneCell']
theorem uU(x:UM):x.cells.toArray.all (·.oneCell')=true:=by
 simp[UM.cells,Value.oneCell']
theorem D8x{w W:World}{g:Nat}{a:Option Addr}{n cap:Nat}{K:List KV}{er:Int}{m:KM}(x:UM)(H:LfS w g a n cap K er)(hb:Below w.heap.size w W)(hs:W.heap.size=w.heap.size+3)
  (h1:W.heap[w.heap.size]? =some (.cells #[.pointer (some ⟨g,0,none⟩)] 70 (0,0))) (h2:W.heap[w.heap.size+1]? =some (.cells m.cells.toArray 65 (0,0))) (h3:W.heap[w.heap.size+2]? =some (.cells z0M.cells.toArray yT (0,0))):
  Mc1 w ((W.drew.alloc (.cells z0M.cells.toArray yT)).setRow (w.heap.size+3) x.cells.toArray) g a n cap K er m x/\Bx2 w.heap.size g m (W.drew.alloc (.cells z0M.cells.toArray yT))/\(W.drew.alloc (.cells z0M.cells.toArray yT)).heap[w.heap.size+3]? =some (.cells z0M.cells.toArray yT (0,0)):=by
 have ZN:Below W.heap.size W (W.drew.alloc (.cells z0M.cells.toArray yT)):=(Z6.drew).alloc Z5 _
 have hz:(W.drew.alloc (.cells z0M.cells.toArray yT)).heap[w.heap.size+3]? =some (.cells z0M.cells.toArray yT (0,0)):=by
  have:=heap_alloc_last W.drew (.cells z0M.cells.toArray yT);rw[show W.drew.heap.size=w.heap.size+3 from hs]at this;exact this
 have hk:yZ (fun k=>k=w.heap.size+3) (W.drew.alloc (.cells z0M.cells.toArray yT)) ((W.drew.alloc (.cells z0M.cells.toArray yT)).setRow (w.heap.size+3) x.cells.toArray):=yZ.setrow (yZ.refl (fun k=>k=w.heap.size+3) _) (.inl rfl) _;have hl:=H.lt;have h0:=H.g0;refine⟨⟨hk.row (yW h1 ZN) (by omega),hk.row (yW h2 ZN) (by omega),hk.row (yW h3 ZN) (by omega),setRow_heap _ _ _ _ _ _ hz,?_,?_⟩,⟨yW h1 ZN,yW h2 ZN⟩,hz⟩
 ·exact((H.below hb).below ZN).keep hk (by omega) (by omega) (fun hn b off e e2=>by
   obtain⟨b',off',e3,ZX,_⟩:=H.ks.2 hn;rw[e]at e3;simp only[Option.some.injEq,Addr.mk.injEq]at e3;omega)
 exact((yZ.of (p:=fun k=>k=g) hb).trans (yZ.of ZN)).new (hk.weak fun k _ e=>by omega)
theorem tv.below{s g:Nat}{nm ds:List UInt8}{w w':World}(h:tv s g nm ds w)(hb:Below w.heap.size w w'):tv s g nm ds w':=⟨yF hb h.1,yF hb h.2.1,yF hb h.2.2⟩
theorem mv{w:World}{B:Nat}{e:TypeId}{z:Nat}{a:Option Addr}{n c:Nat}{xs:List Value}{g:Nat}(h:w.ownsRow B e z (.slice a n c) n xs)(hg:g<B):wX a n g:=by
 intro hn b off ha
 rcases h.2 with⟨h1,h2⟩|⟨b',cap,cur,hv,hb,hc,r⟩
 ·cases h1
  omega
 cases hv
 cases ha
 omega
theorem D7g(bs:List UInt8):∀(fuel p:Nat) (acc:List RW),(xC bs fuel p acc).2.length<=acc.length+fuel:=by
 intro fuel
 induction fuel with
 |zero=>intro p acc;simp[xC]
 |succ fuel ih=>
  intro p acc;unfold xC
  repeat' split
  ·exact Nat.le_add_right _ _
  ·simp
  ·simp
  ·simp
  refine Nat.le_trans (ih _ _) ?_;simp only[List.length_append,List.length_singleton];omega
theorem jE(bs:List UInt8):(xW bs).2.length<=bs.length+1:=by
 have:=D7g bs (bs.length+1) 0 [];unfold xW
 repeat' split
 ·simp
 ·simp
 ·simpa using this
 simp
theorem aL(er de:Int):yj er (de==0) de=0↔er=0/\de=0:=by
 unfold yj;by_cases h:de=0
 ·subst h;simp
 by_cases h2:er=0
 ·simp[h,h2]
 simp[h2]
theorem E0i(bs:List UInt8):∀(fuel p:Nat) (acc:List RW),∀r∈(xC bs fuel p acc).2,r∈acc\/∃q,r=vZ bs q:=by
 intro fuel
 induction fuel with
 |zero=>intro p acc r hr;exact .inl hr
 |succ fuel ih=>
  intro p acc r hr;unfold xC at hr;split at hr
  ·exact .inl hr
  split at hr
  ·cases hr
  split at hr
  ·cases hr
  split at hr
  ·cases hr
  rcases ih _ _ r hr with h|h
  ·rcases List.mem_append.1 h with h|h
   ·exact .inl h
   exact .inr ⟨p,by simpa using h⟩
  exact .inr h
theorem jB(bs:List UInt8)(r:RW)(hr:r∈(xW bs).2):∃q,r=vZ bs q:=by
 have key:r∈(xC bs (bs.length+1) 0 []).2:=by
  unfold xW at hr;split at hr
  ·cases hr
  split at hr
  ·cases hr
  split at hr
  ·exact hr
  cases hr
 rcases E0i bs _ _ _ r key with h|h
 ·cases h
 exact h
theorem iF(bs:List UInt8)(r:RW)(hr:r∈(xW bs).2)(hf:yX r.op=5\/yX r.op=6):0<=r.a/\r.a<1048576:=by
 obtain⟨q,rfl⟩:=jB bs r hr;have ht:=nh bs q (yX (yK bs q));have Cv:yX (yK bs q)=5\/yX (yK bs q)=6:=hf
 have:(vZ bs q).a=yv bs q (yX (yK bs q)):=by
  show yB bs q (yX (yK bs q))=_;unfold yB
  rcases Cv with h|h
  ·rw[h];rfl
  rw[h];rfl
 rw[this];omega
theorem LfS.offnew{w:World}{g:Nat}{a:Option Addr}{n cap:Nat}{L:List KV}{er:Int}(h:LfS w g a n cap L er){go:Nat}(hg:w.heap.size<=go):wX a n go:=by
 intro hn b off ha;obtain⟨b',off',e2,ZX,_⟩:=h.ks.2 hn;rw[ha]at e2;simp only[Option.some.injEq,Addr.mk.injEq]at e2;omega
def Q9(s g go gr ga b:Nat)(r:RW)(v:Value)(w:World):Prop:=w.heap[gr]? =some (.cells r.cells.toArray 118 (0,0))/\w.cell? ⟨s,0,none⟩=some (.pointer (some ⟨g,0,none⟩))/\w.cell? ⟨go,5,none⟩=some v/\w.cell? ⟨ga,0,none⟩=some (.map (some b))
theorem jM{K:List KV}{m:KM}{w:World}(h:xF K m=true)(hr:m.Rd w):m.cn<=4096/\m.tn<=255/\m.mn<=255/\(∀t∈m.traps,we K t=true)/\(∀p∈m.maps,xc K p=true)/\xK K m.fl m.nm m.ds=true:=by
 unfold xF at h;simp only[Bool.and_eq_true,List.all_eq_true]at h;obtain⟨⟨⟨⟨⟨h1,h2⟩,h3⟩,h4⟩,h5⟩,h6⟩:=h;unfold ur at h3;rw[decide_eq_true_iff]at h3;have l1:=hr.code.1;have l2:=hr.traps.1;have l3:=hr.maps.1;exact⟨by omega,by omega,by omega,h4,h5,h1⟩
def D7x(g:Nat)(a:Option Addr)(n cap:Nat)(K:List KV)(er:Int)(m:KM)(w:World)(e:Ending)(w':World):Prop:=∃x:UM,x.p=vC K m/\x.Own w' w.heap.size/\LfR (.agg x.cells.toArray) g a n cap K er (vL K m) w e w'
theorem br(w D:World)(g:Nat)(a:Option Addr)(n cap:Nat)(K:List KV)(er:Int)(m:KM)(h:LfS w g a n cap K er)(hD:m.Rd D)(Dp:Below D.heap.size D w)(K4:D.heap.size<=g)(XC:xF K m=true):
  Calls prog 24 #[.pointer (some ⟨g,0,none⟩),.agg #[.int .i64 m.fl,.int .i64 m.nm,.int .i64 m.ds,.int .i64 m.st,.int .i64 m.lo,.slice m.ca m.cn m.cc,.slice m.ta m.tn m.tc,.slice m.ma m.mn m.mc]] w (D7x g a n cap K er m w):=by
 have H:=Z' h;have HD:=Z' hD;have Fp:=Z' Dp;have Q5:=Z' XC;have Ya:g<w.heap.size:=h.lt;have PN:0<g:=h.g0;obtain⟨sb,SW⟩:=Z8 (decide (m.fl=8));have esb:(m.fl==8)=sb:=by rw[SW,Bool.eq_iff_iff,beq_iff_eq,decide_eq_true_iff]
 obtain⟨NM,Uv⟩:=Z8 (yN K m.nm);obtain⟨DS,Tj⟩:=Z8 (yN K m.ds);have Y3:=Z' (fun(W:World) (hW:LfS W g a n cap K er)=>qw W g a n cap K er m.nm hW);have Y':=Z' (fun(W:World) (hW:LfS W g a n cap K er)=>qw W g a n cap K er m.ds hW);rw[<-Uv]at Y3;rw[<-Tj]at Y';have Wt:NM.length<=65536:=by rw[Uv];exact ua h.tx _
 have Pg:DS.length<=65536:=by rw[Tj];exact ua h.tx _
 have Vc:=Z' Wt;have Pb:=Z' Pg;have VP:=Z' SW;have Ty:=Z' Uv;have BA:=Z' Tj;clear h hD Dp XC SW Uv Tj Wt Pg;go_enter func24,ntmps24
 go_upto_region 1 with fail
 go_cut [5] (fun s5 wx=>s5= .pointer (some ⟨w.heap.size+3,0,none⟩)/\Hid (Mc1 w wx g a n cap K er m ⟨sb,NM,DS,m.st,m.lo,none,0,0,[],none,0,0,[],none,0,0,[]⟩))
 case first=>
  have Zn:Below w.heap.size w (((w.alloc (.cells #[.pointer (some ⟨g,0,none⟩)] 70)).alloc (.cells m.cells.toArray 65)).alloc (.cells z0M.cells.toArray yT)):=(((Below.refl w.heap.size w).alloc Z5 _).alloc (by simp) _).alloc (by simp;omega) _;have ZG:=Z' Zn
  have Vp:=Z' (show(((w.alloc (.cells #[.pointer (some ⟨g,0,none⟩)] 70)).alloc (.cells m.cells.toArray 65)).alloc (.cells z0M.cells.toArray yT)).heap[w.heap.size]? =some (.cells #[.pointer (some ⟨g,0,none⟩)] 70 (0,0)) by
   rw[Below.heap_alloc _ _ _ (by simp;omega),Below.heap_alloc _ _ _ (by simp)];exact heap_alloc_last w _)
  have WG:=Z' (show(((w.alloc (.cells #[.pointer (some ⟨g,0,none⟩)] 70)).alloc (.cells m.cells.toArray 65)).alloc (.cells z0M.cells.toArray yT)).heap[w.heap.size+1]? =some (.cells m.cells.toArray 65 (0,0)) by
   rw[Below.heap_alloc _ _ _ (by simp)];have:=heap_alloc_last (w.alloc (.cells #[.pointer (some ⟨g,0,none⟩)] 70)) (.cells m.cells.toArray 65);simpa using this)
  have YD:=Z' (show(((w.alloc (.cells #[.pointer (some ⟨g,0,none⟩)] 70)).alloc (.cells m.cells.toArray 65)).alloc (.cells z0M.cells.toArray yT)).heap[w.heap.size+2]? =some (.cells z0M.cells.toArray yT (0,0)) by
   have:=heap_alloc_last ((w.alloc (.cells #[.pointer (some ⟨g,0,none⟩)] 70)).alloc (.cells m.cells.toArray 65)) (.cells z0M.cells.toArray yT);simpa using this)
  have hsz:(((w.alloc (.cells #[.pointer (some ⟨g,0,none⟩)] 70)).alloc (.cells m.cells.toArray 65)).alloc (.cells z0M.cells.toArray yT)).heap.size=w.heap.size+3:=by simp
  have YS:=Z' hsz;clear Zn hsz;change Hid (Below w.heap.size w (((w.alloc (.cells #[.pointer (some ⟨g,0,none⟩)] 70)).alloc (.cells #[.int .i64 m.fl,.int .i64 m.nm,.int .i64 m.ds,.int .i64 m.st,.int .i64 m.lo,.slice m.ca m.cn m.cc,.slice m.ta m.tn m.tc,.slice m.ma m.mn m.mc] 65)).alloc (.cells #[.bool false,.string ⟨#[]⟩,.string ⟨#[]⟩,.int .i64 0,.int .i64 0,.slice none 0 0,.slice none 0 0,.slice none 0 0] yT)))at ZG;change Hid ((((w.alloc (.cells #[.pointer (some ⟨g,0,none⟩)] 70)).alloc (.cells #[.int .i64 m.fl,.int .i64 m.nm,.int .i64 m.ds,.int .i64 m.st,.int .i64 m.lo,.slice m.ca m.cn m.cc,.slice m.ta m.tn m.tc,.slice m.ma m.mn m.mc] 65)).alloc (.cells #[.bool false,.string ⟨#[]⟩,.string ⟨#[]⟩,.int .i64 0,.int .i64 0,.slice none 0 0,.slice none 0 0,.slice none 0 0] yT)).heap[w.heap.size]? =_)at Vp;change Hid ((((w.alloc (.cells #[.pointer (some ⟨g,0,none⟩)] 70)).alloc (.cells #[.int .i64 m.fl,.int .i64 m.nm,.int .i64 m.ds,.int .i64 m.st,.int .i64 m.lo,.slice m.ca m.cn m.cc,.slice m.ta m.tn m.tc,.slice m.ma m.mn m.mc] 65)).alloc (.cells #[.bool false,.string ⟨#[]⟩,.string ⟨#[]⟩,.int .i64 0,.int .i64 0,.slice none 0 0,.slice none 0 0,.slice none 0 0] yT)).heap[w.heap.size+1]? =_)at WG;change Hid ((((w.alloc (.cells #[.pointer (some ⟨g,0,none⟩)] 70)).alloc (.cells #[.int .i64 m.fl,.int .i64 m.nm,.int .i64 m.ds,.int .i64 m.st,.int .i64 m.lo,.slice m.ca m.cn m.cc,.slice m.ta m.tn m.tc,.slice m.ma m.mn m.mc] 65)).alloc (.cells #[.bool false,.string ⟨#[]⟩,.string ⟨#[]⟩,.int .i64 0,.int .i64 0,.slice none 0 0,.slice none 0 0,.slice none 0 0] yT)).heap[w.heap.size+2]? =_)at YD;change Hid ((((w.alloc (.cells #[.pointer (some ⟨g,0,none⟩)] 70)).alloc (.cells #[.int .i64 m.fl,.int .i64 m.nm,.int .i64 m.ds,.int .i64 m.st,.int .i64 m.lo,.slice m.ca m.cn m.cc,.slice m.ta m.tn m.tc,.slice m.ma m.mn m.mc] 65)).alloc (.cells #[.bool false,.string ⟨#[]⟩,.string ⟨#[]⟩,.int .i64 0,.int .i64 0,.slice none 0 0,.slice none 0 0,.slice none 0 0] yT)).heap.size=_)at YS;have EA:∃W,W=(((w.alloc (.cells #[.pointer (some ⟨g,0,none⟩)] 70)).alloc (.cells #[.int .i64 m.fl,.int .i64 m.nm,.int .i64 m.ds,.int .i64 m.st,.int .i64 m.lo,.slice m.ca m.cn m.cc,.slice m.ta m.tn m.tc,.slice m.ma m.mn m.mc] 65)).alloc (.cells #[.bool false,.string ⟨#[]⟩,.string ⟨#[]⟩,.int .i64 0,.int .i64 0,.slice none 0 0,.slice none 0 0,.slice none 0 0] yT)):=⟨_,rfl⟩;obtain⟨W,hW⟩:=EA;rw[<-hW]at ZG Vp WG YD YS⊢;clear hW;have DE:=Z' (H.out.below ZG.out);have Eb:=Z' (ZG.out.trans (Z6.drew.mono ZG.out.size));have Rm:=Z' (DE.out.below (Z6.drew));have Z3:Bx2 w.heap.size g m W.drew:=⟨Vp.out,WG.out⟩;have l0:=fun z (h:Bx2 w.heap.size g m z)=>y8 h.1 0 rfl
  have l1:=fun z (h:Bx2 w.heap.size g m z)=>y8 h.2 0 rfl
  have l2:=fun z (h:Bx2 w.heap.size g m z)=>y8 h.2 1 rfl
  have l3:=fun z (h:Bx2 w.heap.size g m z)=>y8 h.2 2 rfl
  have l4:=fun z (h:Bx2 w.heap.size g m z)=>y8 h.2 3 rfl
  have l5:=fun z (h:Bx2 w.heap.size g m z)=>y8 h.2 4 rfl
  dsimp only[KM.cells]at l1 l2 l3 l4 l5
  refine ye (Bx2 w.heap.size g m) (.of [(0,true),(1,true),(2,true),(3,true),(4,true),(5,true),(7,true),(8,true),(9,true),(11,true),(12,true),(13,true),(14,true)] (.fork 6 (.fork 10 (.of [(15,true),(16,false),(17,false)] (.stir [])) 16 (.of [(10,false),(15,true),(17,false)] (.stir []))) 16 (.of [(6,false),(10,false),(15,true),(17,false)] (.stir [])))) (by kernel_rfl) (by kernel_rfl) (fun c a d v w h=>by cases d<;>exact h) ?_
  iterate 13
   refine yY fun K hK=>tkF ?_
   go_simp
   try go_bits
   refine hK _ _ ?_;clear hK K
  obtain⟨EM,C9,BK⟩:=D8x (⟨sb,NM,DS,m.st,m.lo,none,0,0,[],none,0,0,[],none,0,0,[]⟩:UM) H.out ZG.out YS.out Vp.out WG.out YD.out;have WU:=Z' EM;have SE:=Z' C9;have Tx:=Z' BK;have RC:=Z' (DE.out.below (((Below.refl W.heap.size W).drew).alloc Z5 (.cells z0M.cells.toArray yT)));clear EM C9 BK;refine uR ?_ ?_
  ·intro K hK;refine alF ?_;go_step;refine(Y3.out _ Rm.out).mono ?_;rintro e w9 ⟨rfl,rfl⟩;go_simp
   first|refine⟨Z3,hK _ _ ?_⟩|refine hK _ _ ?_
   clear hK K;refine uR ?_ ?_
   ·intro K hK;refine alF ?_;go_step;refine(Y'.out _ Rm.out).mono ?_;rintro e w9 ⟨rfl,rfl⟩;go_simp
    first|refine⟨Z3,hK _ _ ?_⟩|refine hK _ _ ?_
    clear hK K
    iterate 1
     refine yY fun K hK=>tkF ?_
     go_simp
     try go_bits
     refine hK _ _ ?_;clear hK K
    refine yY fun K hK=>alF ?_
    go_step;change Bx2 w.heap.size g m (W.drew.alloc (.cells #[.bool false,.string ⟨#[]⟩,.string ⟨#[]⟩,.int .i64 0,.int .i64 0,.slice none 0 0,.slice none 0 0,.slice none 0 0] yT))/\K _ (W.drew.alloc (.cells #[.bool false,.string ⟨#[]⟩,.string ⟨#[]⟩,.int .i64 0,.int .i64 0,.slice none 0 0,.slice none 0 0,.slice none 0 0] yT));refine⟨SE.out,hK _ _ ?_⟩;clear hK K Z3;have Z3:=SE.out;refine yY fun K hK=>alF ?_
    refine wp_store_row yT _ _ rfl W.heap.size (UM.cells ⟨sb,NM,DS,m.st,m.lo,none,0,0,[],none,0,0,[],none,0,0,[]⟩).toArray rfl rfl yT z0M.cells.toArray (by rw[YS.out];exact Tx.out) xM rfl (uU _) ?_;rw[YS.out];refine⟨⟨WU.out.k,WU.out.m⟩,hK _ _ ?_⟩;clear hK K;refine yA (fun y=>y=(W.drew.alloc (.cells #[.bool false,.string ⟨#[]⟩,.string ⟨#[]⟩,.int .i64 0,.int .i64 0,.slice none 0 0,.slice none 0 0,.slice none 0 0] yT)).setRow (w.heap.size+3) (UM.cells ⟨sb,NM,DS,m.st,m.lo,none,0,0,[],none,0,0,[],none,0,0,[]⟩).toArray) (fun y hy=>by rw[hy];exact⟨WU.out.k,WU.out.m⟩) rfl ?_;refine yE (fun y hy=> ?_);subst hy
    go_wp2_with fail
    go_meet;exact⟨rfl,WU⟩
   intro K hK;refine alF ?_;go_step;change Bx2 w.heap.size g m (W.drew.alloc (.cells #[.bool false,.string ⟨#[]⟩,.string ⟨#[]⟩,.int .i64 0,.int .i64 0,.slice none 0 0,.slice none 0 0,.slice none 0 0] yT))/\K _ (W.drew.alloc (.cells #[.bool false,.string ⟨#[]⟩,.string ⟨#[]⟩,.int .i64 0,.int .i64 0,.slice none 0 0,.slice none 0 0,.slice none 0 0] yT));refine⟨SE.out,hK _ _ ?_⟩;clear hK K Z3;have Z3:=SE.out;refine yY fun K hK=>alF ?_
   go_step;refine(Y'.out _ RC.out).mono ?_;rintro e w9 ⟨rfl,rfl⟩;go_simp
   first|refine⟨Z3,hK _ _ ?_⟩|refine hK _ _ ?_
   clear hK K;change vM _ _ _ _ _ _ (W.drew.alloc (.cells #[.bool false,.string ⟨#[]⟩,.string ⟨#[]⟩,.int .i64 0,.int .i64 0,.slice none 0 0,.slice none 0 0,.slice none 0 0] yT))
   iterate 1
    refine yY fun K hK=>tkF ?_
    go_simp
    try go_bits
    refine hK _ _ ?_;clear hK K
   refine yY fun K hK=>alF ?_
   refine wp_store_row yT _ _ rfl W.heap.size (UM.cells ⟨sb,NM,DS,m.st,m.lo,none,0,0,[],none,0,0,[],none,0,0,[]⟩).toArray rfl rfl yT z0M.cells.toArray (by rw[YS.out];exact Tx.out) xM rfl (uU _) ?_;rw[YS.out];refine⟨⟨WU.out.k,WU.out.m⟩,hK _ _ ?_⟩;clear hK K;refine yA (fun y=>y=(W.drew.alloc (.cells #[.bool false,.string ⟨#[]⟩,.string ⟨#[]⟩,.int .i64 0,.int .i64 0,.slice none 0 0,.slice none 0 0,.slice none 0 0] yT)).setRow (w.heap.size+3) (UM.cells ⟨sb,NM,DS,m.st,m.lo,none,0,0,[],none,0,0,[],none,0,0,[]⟩).toArray) (fun y hy=>by rw[hy];exact⟨WU.out.k,WU.out.m⟩) rfl ?_;refine yE (fun y hy=> ?_);subst hy
   go_wp2_with fail
   go_meet;exact⟨rfl,WU⟩
  intro K hK;refine alF ?_;go_step;change Bx2 w.heap.size g m (W.drew.alloc (.cells #[.bool false,.string ⟨#[]⟩,.string ⟨#[]⟩,.int .i64 0,.int .i64 0,.slice none 0 0,.slice none 0 0,.slice none 0 0] yT))/\K _ (W.drew.alloc (.cells #[.bool false,.string ⟨#[]⟩,.string ⟨#[]⟩,.int .i64 0,.int .i64 0,.slice none 0 0,.slice none 0 0,.slice none 0 0] yT));refine⟨SE.out,hK _ _ ?_⟩;clear hK K Z3;have Z3:=SE.out;refine yY fun K hK=>alF ?_
  go_step;refine(Y3.out _ RC.out).mono ?_;rintro e w9 ⟨rfl,rfl⟩;go_simp
  first|refine⟨Z3,hK _ _ ?_⟩|refine hK _ _ ?_
  clear hK K;change vM _ _ _ _ _ _ (W.drew.alloc (.cells #[.bool false,.string ⟨#[]⟩,.string ⟨#[]⟩,.int .i64 0,.int .i64 0,.slice none 0 0,.slice none 0 0,.slice none 0 0] yT));refine yY fun K hK=>alF ?_
  go_step;refine(Y'.out _ RC.out).mono ?_;rintro e w9 ⟨rfl,rfl⟩;go_simp
  first|refine⟨Z3,hK _ _ ?_⟩|refine hK _ _ ?_
  clear hK K;change vM _ _ _ _ _ _ (W.drew.alloc (.cells #[.bool false,.string ⟨#[]⟩,.string ⟨#[]⟩,.int .i64 0,.int .i64 0,.slice none 0 0,.slice none 0 0,.slice none 0 0] yT))
  iterate 1
   refine yY fun K hK=>tkF ?_
   go_simp
   try go_bits
   refine hK _ _ ?_;clear hK K
  refine yY fun K hK=>alF ?_
  refine wp_store_row yT _ _ rfl W.heap.size (UM.cells ⟨sb,NM,DS,m.st,m.lo,none,0,0,[],none,0,0,[],none,0,0,[]⟩).toArray rfl rfl yT z0M.cells.toArray (by rw[YS.out];exact Tx.out) xM rfl (uU _) ?_;rw[YS.out];refine⟨⟨WU.out.k,WU.out.m⟩,hK _ _ ?_⟩;clear hK K;refine yA (fun y=>y=(W.drew.alloc (.cells #[.bool false,.string ⟨#[]⟩,.string ⟨#[]⟩,.int .i64 0,.int .i64 0,.slice none 0 0,.slice none 0 0,.slice none 0 0] yT)).setRow (w.heap.size+3) (UM.cells ⟨sb,NM,DS,m.st,m.lo,none,0,0,[],none,0,0,[],none,0,0,[]⟩).toArray) (fun y hy=>by rw[hy];exact⟨WU.out.k,WU.out.m⟩) rfl ?_;refine yE (fun y hy=> ?_);subst hy
  go_wp2_with fail
  go_meet;exact⟨rfl,WU⟩
 obtain⟨rfl,K8⟩:=hcut
 go_upto_region 2 with fail
 obtain⟨b1,ZQ⟩:∃b,b=yk NM:=⟨_,rfl⟩;obtain⟨b2,ZN⟩:∃b,b=xY DS:=⟨_,rfl⟩;have Yx:=Z' ZQ;have NP:=Z' ZN;clear ZQ ZN
 go_cut [] (fun wx=>∃LJ:Int,Hid (LJ=0↔er=0/\(b1&&b2)=true)/\Hid (Mc1 w wx g a n cap K LJ m ⟨sb,NM,DS,m.st,m.lo,none,0,0,[],none,0,0,[],none,0,0,[]⟩))
 case first=>
  have NE:=Z' (K8.out.below ((Below.refl wc.heap.size wc).drew));have Z3:tv w.heap.size g NM DS wc.drew:=⟨y8 NE.out.k 0 rfl,y8 NE.out.o 1 rfl,y8 NE.out.o 2 rfl⟩;have l0:=fun z (h:tv w.heap.size g NM DS z)=>h.1
  have l1:=fun z (h:tv w.heap.size g NM DS z)=>h.2.1
  have l2:=fun z (h:tv w.heap.size g NM DS z)=>h.2.2
  have Y9:=Z' (fun W hv=>sF W NM Vc.out hv);have Zj:=Z' (fun W hv=>rx W DS Pb.out hv);have SB:=Z' (fun W ok (hW:LfS W g a n cap K er)=>tH W g a n cap K er ok 8 hW);rw[<-Yx.out]at Y9;rw[<-NP.out]at Zj
  refine ye (tv w.heap.size g NM DS) (.of [(0,true),(1,true),(2,true),(3,false),(4,true),(5,true),(6,true),(7,false),(8,true),(9,false)] (.stir [])) (by kernel_rfl) (by kernel_rfl) (fun c a d v w h=>by cases d<;>exact h) ?_
  generalize wc.drew=W at*
  iterate 3
   refine yY fun K hK=>tkF ?_
   go_simp
   try go_bits
   refine hK _ _ ?_;clear hK K
  refine yY fun K hK=>alF ?_
  go_step;refine(Y9.out W NE.out.l.vw).mono ?_;rintro e w9 ⟨rfl,ZK⟩;have KQ:=Z' (NE.out.below ZK);replace Z3:=Z3.below ZK;clear ZK NE;go_simp
  first|refine⟨Z3,hK _ _ ?_⟩|refine hK _ _ ?_
  clear hK K
  iterate 1
   refine yY fun K hK=>tkF ?_
   go_simp
   try go_bits
   refine hK _ _ ?_;clear hK K
  cases b1
  ·iterate 3
    refine yY fun K hK=>skF ?_
    go_simp;refine hK _ _ ?_;clear hK K
   iterate 1
    refine yY fun K hK=>tkF ?_
    go_simp
    try go_bits
    refine hK _ _ ?_;clear hK K
   refine yY fun K hK=>alF ?_
   go_step;refine(SB.out w9 false KQ.out.l).mono ?_;rintro e w8 ⟨rfl,h8,k8⟩;have PB:=Z' (KQ.out.call h8 k8 Ya);have Lq:tv w.heap.size g NM DS w8:=⟨y8 PB.out.k 0 rfl,y8 PB.out.o 1 rfl,y8 PB.out.o 2 rfl⟩;clear h8 k8;go_simp
   first|refine⟨Lq,hK _ _ ?_⟩|refine hK _ _ ?_
   clear hK K;refine yA (wV w8) (fun y hy=>by obtain rfl:y=w8:=hy;exact Lq) rfl ?_;refine yE (fun yy hy=> ?_);obtain rfl:w8=yy:=Eq.symm hy
   go_wp2_with fail
   go_meet;exact⟨_,Z' (by rw[wh (by decide)];simp),PB⟩
  iterate 2
   refine yY fun K hK=>tkF ?_
   go_simp
   try go_bits
   refine hK _ _ ?_;clear hK K
  refine yY fun K hK=>alF ?_
  go_step;refine(Zj.out w9 KQ.out.l.vw).mono ?_;rintro e w7 ⟨rfl,Xr⟩;have Tb:=Z' (KQ.out.below Xr);replace Z3:=Z3.below Xr;clear Xr KQ;go_simp
  first|refine⟨Z3,hK _ _ ?_⟩|refine hK _ _ ?_
  clear hK K
  iterate 1
   refine yY fun K hK=>tkF ?_
   go_simp
   try go_bits
   refine hK _ _ ?_;clear hK K
  refine yY fun K hK=>alF ?_
  go_step;refine(SB.out w7 b2 Tb.out.l).mono ?_;rintro e w8 ⟨rfl,h8,k8⟩;have PB:=Z' (Tb.out.call h8 k8 Ya);have Lq:tv w.heap.size g NM DS w8:=⟨y8 PB.out.k 0 rfl,y8 PB.out.o 1 rfl,y8 PB.out.o 2 rfl⟩;clear h8 k8;go_simp
  first|refine⟨Lq,hK _ _ ?_⟩|refine hK _ _ ?_
  clear hK K;refine yA (wV w8) (fun y hy=>by obtain rfl:y=w8:=hy;exact Lq) rfl ?_;refine yE (fun yy hy=> ?_);obtain rfl:w8=yy:=Eq.symm hy
  go_wp2_with fail
  go_meet;exact⟨_,Z' (by rw[wh (by decide)];simp),PB⟩
 clear K8;obtain⟨LJ,D9,Wy⟩:=hcut;have Ed:=Wy.out.kp.below Fp.out Z5 (fun k hk=>hk▸K4);have Vf:=Z' (HD.out.below Ed);have Yk:=Z' Ed;clear Ed;obtain⟨q1,q2,q3,q4,q5,q6⟩:=jM Q5.out Vf.out;have c5:=y8 Wy.out.m 5 rfl;dsimp only[KM.cells]at c5;have MB:=Z' (bR wc m.ca m.cn m.cc m.code Vf.out.code (by omega) Vf.out.cle);obtain⟨de,L,hR⟩:∃de L,xW m.code=(de,L):=⟨_,_,rfl⟩;rw[hR]at MB;have HR:=Z' hR;clear hR
 go_wp2_with fail
 refine MB.out.mono ?_;rintro e w3 ⟨v,ln,rfl,UE,Kb,Zn⟩;obtain⟨la,lc,rfl,Ly,ST⟩:=Ss.ofOwn RW.cells_length (by decide) UE;have P':=Z' (Wy.out.below Zn);have Vn:=Z9 (Rs w3 la ln L) Ly;have WK:=Z' Kb;have GX:=Z9 (wX la ln g/\wX la ln (w.heap.size+3)) (⟨mv UE (by have:=Wy.out.l.lt;omega),mv UE (yG Wy.out.o)⟩);clear UE Kb Zn Ly MB c5
 have Wp:ln<=65536:=by
  have h1:=Vn.out.1;have h2:=jE m.code;rw[HR.out]at h2;dsimp only at h2;have h3:=Vf.out.code.1;omega
 have Xx:=Z' Wp;have hgl3:w.heap.size+4<=w3.heap.size:=by have:=yG P'.out.o;omega
 have SM:=Z' q1;clear q1 Wp
 go_upto_region 4 with fail
 have Y1:Below w3.heap.size w3 (w3.alloc (.cells #[.slice la ln lc] 112)):=yV _ _;have Mk:=Z' (P'.out.below Y1);have LD:=Z9 (Rs (w3.alloc (.cells #[.slice la ln lc] 112)) la ln L) (Vn.out.below Y1);have BJ:=Z' (heap_alloc_last w3 (.cells #[.slice la ln lc] 112));clear Y1 P' Vn Wy Vf Yk;generalize w3.alloc _=w4 at*;generalize w3.heap.size=gl at*;have c0:=y8 Mk.out.k 0 rfl;have SB:=Z' (tH w4 g a n cap K LJ (de==0) de Mk.out.l)
 go_wp2_with fail
 refine SB.out.mono ?_;rintro e w5 ⟨rfl,h5,k5⟩;have Bc:=Z' (aL LJ de);generalize yj LJ (de==0) de=er3 at*;have KK:=Z' (Mk.out.call h5 k5 Ya);have GH:=Z9 (Rs w5 la ln L) (k5.ss LD.out (fun hn b off e e2=>GX.out.1 hn b off e e2));have Tt:=Z' (k5.row BJ.out (show ¬gl=g by omega));clear h5 k5 Mk LD BJ SB c0;have cgl:=y8 Tt.out 0 rfl;have P2:=Z' (bZ w5 la ln lc L GH.out Xx.out (fun r hr=>(WK.out r hr).1))
 go_wp2_with fail
 refine P2.out.mono ?_;rintro e w6 ⟨b,rfl,Zu,XJ,Yy⟩;have Cx:=Z' (KK.out.below Yy);have LZ:=Z9 (Rs w6 la ln L) (GH.out.below Yy);have Bx:=Z' (yW Tt.out Yy);have Cy:=Z' XJ;have hgl5:gl<w5.heap.size:=yG Tt.out;have hb66:b<w6.heap.size:=XJ.lt;have D2:=Yy.size;have Dt:=Z' GH.out.1;clear XJ Yy KK GH Tt P2 cgl
 go_upto_region 6 with fail
 have Xr:Below w6.heap.size w6 (w6.alloc (.cells #[.map (some b)] 115)):=yV _ _;have Tb:=Z' (Cx.out.below Xr);have Ce:=Z9 (Rs (w6.alloc (.cells #[.map (some b)] 115)) la ln L) (LZ.out.below Xr);have CJ:=Z' (yW Bx.out Xr);have Ci:=Z' (Cy.out.keep (yZ.of (p:=fun _=>False) Xr) (fun h=>h));have TP:=Z' (heap_alloc_last w6 (.cells #[.map (some b)] 115));clear Xr Cx LZ Bx Cy;generalize w6.alloc _=W at*;generalize w6.heap.size=ga at*
 have HC:=Z9 (sK D W w.heap.size (w.heap.size+1) gl ga (w.heap.size+2) g (w.heap.size+3) m la ln lc L b z0M) (
  ⟨⟨Tb.out.m,CJ.out,TP.out,Tb.out.k,Ci.out,Dt.out.symm,by omega,by omega,by omega,by omega,by omega⟩,Tb.out.z,Ce.out,GX.out.1,GX.out.2,HD.out,Tb.out.kp.below Fp.out Z5 (fun k hk=>hk▸K4),K4,by have:=Fp.out.size;omega,
   by omega,by omega,by omega,by omega,by omega,by omega,by omega,Tb.out.l.lt,yG Tb.out.o,by omega⟩)
 have HJ:=Z9 (vk W W g (w.heap.size+3) a n cap K er3 ⟨sb,NM,DS,m.st,m.lo,none,0,0,[],none,0,0,[],none,0,0,[]⟩) (
  ⟨Tb.out.l,yZ.refl _ _,Tb.out.o,⟨World.ownsRow_nil _ _ _ _,World.ownsRow_nil _ _ _ _,World.ownsRow_nil _ _ _ _,fun p hp=>by cases hp⟩⟩)
 have R7:=Z' (H.out.offnew (show w.heap.size<=w.heap.size+3 by omega));have Fv:w.heap.size+4<=W.heap.size:=by have:=yG Tb.out.o;omega
 have WZ:g<W.heap.size:=by omega
 have Vy:=Z' (fun r hr hf=>iF m.code r (by rw[HR.out];exact hr) hf);have VN:=Z' Tb.out.l;have Mc:=Z' Tb.out.kp;have cgl:=y8 HC.out.s.l 0 rfl;clear Tb Ce CJ Ci TP Dt GX
 go_wp2_with fail
 go_loopg [58] ln (fun gn i wr=>∃(j:Nat) (er':Int) (x:UM),j<=ln/\gn=ln-j/\i= .int .i64 j/\Hid (er'=0↔er3=0/\(L.take j).all (ww K)=true)/\Hid (x.p=⟨sb,NM,DS,m.st,m.lo,none,0,0,(L.take j).map (xT K L),none,0,0,[],none,0,0,[]⟩)/\Hid (vk W wr g (w.heap.size+3) a n cap K er' x))
 case atStart=>exact⟨0,er3,_,by omega,by omega,by go_num,Z' (by simp),Z' rfl,HJ⟩
 clear HJ;obtain⟨j,er',x,hj,rfl,rfl,HE,HX,HJ⟩:=hrel;by_cases ZX:j<ln
 ·have WH:x.code.length=j:=by
   have h1:=congrArg (fun u=>u.code.length) HX.out;have h2:=HC.out.s.len;simp only[UM.p,List.length_map,List.length_take]at h1;omega
  have Yf:x.cn=j:=by
   obtain⟨a9,c9,e9,h9,_⟩:=Ss.ofOwn IN.cells_length (by decide) HJ.out.w.code
   cases e9
   rw[<-WH];exact h9.1.symm
  have Qb:ln<=65536:=Xx.out;have Wz:=Z' Yf;have HS:=Z' (HC.out.rsw HJ.out.k);have HLT:=Z' ZX;have XZ:(j:Int)<ln:=by omega
  obtain⟨bq,off,r,rfl,Zu,hs,q⟩:=HS.out.getC j ZX;have q0:=q 0 (by omega);have q1:=q 1 (by omega);have q2:=q 2 (by omega);have q3:=q 3 (by omega);rw[Nat.add_zero]at q0;simp only[RW.cells,List.getElem?_cons_zero,List.getElem?_cons_succ]at q0 q1 q2 q3
  have YW:=Z' (show L.take (j+1)=L.take j++[r] by
   have YP:=(Z4 hs).1;rw[List.take_succ_eq_append_getElem YP,(Z4 hs).2])
  have Wb:=Z' (List.mem_of_getElem? hs);clear hs q ZX HS WH Yf
  go_upto_region 9 with fail
  have Wr:Below wr.heap.size wr (wr.alloc (.cells #[.int .i64 r.pos,.int .u8 (r.op:Nat),.int .i64 r.a,.int .i64 r.b] 118)):=yV _ _;have ZB:=Z' ((HJ.out.below Wr).below (Z6.drew));have Qm:=Z' (yW (heap_alloc_last wr (.cells #[.int .i64 r.pos,.int .u8 (r.op:Nat),.int .i64 r.a,.int .i64 r.b] 118)) ((Below.refl _ (wr.alloc (.cells #[.int .i64 r.pos,.int .u8 (r.op:Nat),.int .i64 r.a,.int .i64 r.b] 118))).drew));have E':W.heap.size<=wr.heap.size:=HJ.out.k.size;clear Wr HJ q0 q1 q2 q3;generalize wr.heap.size=gr at*;have Z3:Q9 w.heap.size g (w.heap.size+3) gr ga b r (.slice x.ca x.cn x.cc) (wr.alloc (.cells #[.int .i64 r.pos,.int .u8 (r.op:Nat),.int .i64 r.a,.int .i64 r.b] 118)).drew:=⟨Qm.out,y8 (HC.out.see ZB.out.k).k 0 rfl,y8 ZB.out.o 5 rfl,y8 (HC.out.see ZB.out.k).a 0 rfl⟩;have l0:=fun z (h:Q9 w.heap.size g (w.heap.size+3) gr ga b r (.slice x.ca x.cn x.cc) z)=>y8 h.1 0 rfl
  have l1:=fun z (h:Q9 w.heap.size g (w.heap.size+3) gr ga b r (.slice x.ca x.cn x.cc) z)=>y8 h.1 1 rfl
  have l2:=fun z (h:Q9 w.heap.size g (w.heap.size+3) gr ga b r (.slice x.ca x.cn x.cc) z)=>y8 h.1 2 rfl
  have l3:=fun z (h:Q9 w.heap.size g (w.heap.size+3) gr ga b r (.slice x.ca x.cn x.cc) z)=>y8 h.1 3 rfl
  have l4:=fun z (h:Q9 w.heap.size g (w.heap.size+3) gr ga b r (.slice x.ca x.cn x.cc) z)=>h.2.1
  have l5:=fun z (h:Q9 w.heap.size g (w.heap.size+3) gr ga b r (.slice x.ca x.cn x.cc) z)=>h.2.2.1
  have l6:=fun z (h:Q9 w.heap.size g (w.heap.size+3) gr ga b r (.slice x.ca x.cn x.cc) z)=>h.2.2.2
  dsimp only[RW.cells]at l0 l1 l2 l3
  refine tq (Q9 w.heap.size g (w.heap.size+3) gr ga b r (.slice x.ca x.cn x.cc)) 9 [(0,true),(1,true),(2,true),(3,true),(4,true),(5,false),(6,false),(7,false),(8,true)] (by kernel_rfl) (by kernel_rfl) (fun c a d v w h=>by cases d<;>exact h) ?_
  generalize(wr.alloc (.cells #[.int .i64 r.pos,.int .u8 (r.op:Nat),.int .i64 r.a,.int .i64 r.b] 118)).drew=W8 at*
  iterate 5
   refine xU fun K hK=>tkF ?_
   go_simp
   try go_bits
   refine hK _ _ ?_;clear hK K
  have MG:=Z' (D8v W8 g a n cap K er' r L b ZB.out.l (HC.out.see ZB.out.k).p HC.out.s.nb (WK.out r Wb.out).2.2 (WK.out r Wb.out).2.1 (Vy.out r Wb.out));obtain⟨V,hV⟩:=Z8 (xT K L r);rw[<-hV]at MG;have HV:=Z' hV;clear hV;obtain⟨vop,vn,vm,vcl,vnm,vds,vtx⟩:=V;dsimp only[IN.cells]at MG;refine xU fun K hK=>alF ?_
  go_step;refine MG.out.mono ?_;rintro e w9 ⟨rfl,⟨VU,Cm,LC⟩,ZU⟩;have ZC:=Z' (ZB.out.call LC ZU WZ (by omega));have TG:=Z' Cm;have XQ:Q9 w.heap.size g (w.heap.size+3) gr ga b r (.slice x.ca x.cn x.cc) w9:=⟨ZU.row Qm.out (by omega),y8 (HC.out.see ZC.out.k).k 0 rfl,y8 ZC.out.o 5 rfl,y8 (HC.out.see ZC.out.k).a 0 rfl⟩;have Kr:=Z' (ZU.row Qm.out (by omega));clear LC ZU Cm Z3 ZB Qm MG;have Z3:=XQ;clear XQ;go_simp
  first|refine⟨Z3,hK _ _ ?_⟩|refine hK _ _ ?_
  clear hK K;refine xU fun K hK=>alF ?_
  go_step;have ZY:Below w9.heap.size w9 (w9.alloc (.cells #[.int .u8 (vop:Nat),.int .i64 vn,.int .i64 vm,.string ⟨vcl.toArray⟩,.string ⟨vnm.toArray⟩,.string ⟨vds.toArray⟩,.string ⟨vtx.toArray⟩] 54)):=yV _ _;have XQ:Q9 w.heap.size g (w.heap.size+3) gr ga b r (.slice x.ca x.cn x.cc) (w9.alloc (.cells #[.int .u8 (vop:Nat),.int .i64 vn,.int .i64 vm,.string ⟨vcl.toArray⟩,.string ⟨vnm.toArray⟩,.string ⟨vds.toArray⟩,.string ⟨vtx.toArray⟩] 54)):=⟨yW Z3.1 ZY,yF ZY Z3.2.1,yF ZY Z3.2.2.1,yF ZY Z3.2.2.2⟩;refine⟨XQ,hK _ _ ?_⟩;clear hK K Z3 XQ ZY;refine xU fun K hK=>alF ?_
  change Oper.wp _ _ _ _ _ _;have Yf:=Wz.out;refine rP kh (ops:= #[]) rfl _ _ _ rfl W.heap.size _ x.cn _ rfl (ZC.out.w.code.alloc _) _ 1 _ rfl (Src.litS (m:=1) rfl rfl kh.1) (by omega) (by unfold maxLen;omega) (Nat.le_trans ZC.out.k.size (by simp)) ?_;intro v3 EP Xg Qa Zn;have ZH:=yd.app ZC.out.w.code Qa;have ZD:EP.ownsRow W.heap.size 54 7 v3 (x.cn+1) ((x.code++[(⟨vop,vn,vm,vcl,vnm,vds,vtx⟩:IN)]).flatMap IN.cells):=by rw[List.flatMap_append];exact Xg
  obtain⟨a3,c3,rfl,-,-⟩:=Ss.ofOwn IN.cells_length (by decide) ZD;have Tr:yZ (fun k=>W.heap.size<=k) w9 EP:=(yZ.of (yV _ _)).trans (yZ.ofB Zn (by have:=Qa.size;simpa using this));have Yj:=Z' (VN.out.app9 ZC.out Tr ZH (ZC.out.w.code1 ZH ZD) (by omega) (by omega) (by omega) R7.out);have Z3:Q9 w.heap.size g (w.heap.size+3) gr ga b r (.slice x.ca x.cn x.cc) EP:=⟨ZH.2 _ _ _ _ Kr.out (by decide),y8 (HC.out.see Yj.out.1).k 0 rfl,y8 Yj.out.2.1 5 rfl,y8 (HC.out.see Yj.out.1).a 0 rfl⟩;clear Xg ZD Qa Zn ZH Tr Kr ZC;refine⟨Z3,hK _ _ ?_⟩;clear hK K
  iterate 1
   refine xU fun K hK=>tkF ?_
   go_simp
   try go_bits
   refine hK _ _ ?_;clear hK K
  have fo:=xQ Yj.out.2.1 5;have lto:=yG Yj.out.2.1;have co:=y8 Yj.out.2.1 5 rfl;dsimp only[UM.cells]at co;refine tm (laF ?_);go_step;have Ng:=Yj.out.2.2 5 (.slice a3 (x.cn+1) c3) rfl;have Np:=Z' (UM.p_code1 HX.out a3 (x.cn+1) c3 (⟨vop,vn,vm,vcl,vnm,vds,vtx⟩:IN));rw[Yf]at Ng Np;have Fd:=Z' Ng
  have F6:=Z' (show UM.p {x with ca:=a3,cn:=j+1,cc:=c3,code:=x.code++[(⟨vop,vn,vm,vcl,vnm,vds,vtx⟩:IN)]}=⟨sb,NM,DS,m.st,m.lo,none,0,0,(L.take (j+1)).map (xT K L),none,0,0,[],none,0,0,[]⟩ by
   rw[Np.out,YW.out,List.map_append,List.map_singleton,<-HV.out])
  have Fs:=Z' (show VU=0↔er3=0/\(L.take (j+1)).all (ww K)=true by
   rw[TG.out,HE.out,YW.out,List.all_append];simp[and_assoc])
  clear Yf Ng Np Yj HX HE TG HV Z3 fo lto co l0 l1 l2 l3 l4 l5 l6
  go_wp2_with fail
  go_roundg (ln-(j+1))
  case measure=>omega
  exact⟨j+1,VU,_,by omega,rfl,by go_num,Fs,F6,Fd⟩
 obtain rfl:j=ln:=by omega
 have ZV:L.take j=L:=List.take_of_length_le (by rw[HC.out.s.len];exact Nat.le_refl _);rw[ZV]at HE HX;clear ZX cgl;have c6:=y8 (HC.out.see HJ.out.k).m 6 rfl;dsimp only[KM.cells]at c6
 go_wp2_with fail
 go_loopg [76] m.tn (fun gn i JT=>∃(jt:Nat) (Vh:Int) (x5:UM),jt<=m.tn/\gn=m.tn-jt/\i= .int .i64 jt/\Hid (Vh=0↔er'=0/\(m.traps.take jt).all (vq K L m.cn)=true)/\Hid (x5.p=⟨sb,NM,DS,m.st,m.lo,none,0,0,L.map (xT K L),none,0,0,(m.traps.take jt).map (vU K L m.cn),none,0,0,[]⟩)/\Hid (vk W JT g (w.heap.size+3) a n cap K Vh x5))
 case atStart=>exact⟨0,er',x,by omega,by omega,by go_num,Z' (by simp),Z' (by rw[HX.out];rfl),HJ⟩
 clear HJ c6;obtain⟨jt,Vh,x5,DW,rfl,rfl,T5,Wa,Yb⟩:=hrel;by_cases ZX:jt<m.tn
 ·have WH:x5.traps.length=jt:=by
   have h1:=congrArg (fun u=>u.traps.length) Wa.out;have h2:=HD.out.traps.1;simp only[UM.p,List.length_map,List.length_take]at h1;omega
  have Yf:x5.tn=jt:=by
   obtain⟨a9,c9,e9,h9,_⟩:=Ss.ofOwn UT.cells_length (by decide) Yb.out.w.traps
   cases e9
   rw[<-WH];exact h9.1.symm
  have Wz:=Z' Yf;have HS:=Z' (HC.out.rd Yb.out.k).traps;have XZ:(jt:Int)<m.tn:=by omega
  obtain⟨bq,off,t,Ym,Zu,hs,q⟩:=HS.out.getC jt ZX;have q0:=q 0 (by omega);have q1:=q 1 (by omega);have q2:=q 2 (by omega);have q3:=q 3 (by omega);rw[Nat.add_zero]at q0;simp only[KT.cells,List.getElem?_cons_zero,List.getElem?_cons_succ]at q0 q1 q2 q3
  have YW:=Z' (show m.traps.take (jt+1)=m.traps.take jt++[t] by
   have YP:=(Z4 hs).1;rw[List.take_succ_eq_append_getElem YP,(Z4 hs).2])
  have PR:=q4 t (List.mem_of_getElem? hs);unfold we at PR;simp only[List.all_cons,List.all_nil,Bool.and_true,Bool.and_eq_true,xe,decide_eq_true_iff]at PR;obtain⟨⟨PP,G3,FX⟩,-⟩:=PR;clear hs q ZX HS WH Yf
  go_upto_region 15 with fail
  have Yy:Below wr.heap.size wr (wr.alloc (.cells #[.int .i64 t.fr,.int .i64 t.tt,.int .i64 t.pl,.int .i64 t.cl] 123)):=yV _ _;have Zc:=Z' (Yb.out.below Yy);have XN:=Z9 ((wr.alloc (.cells #[.int .i64 t.fr,.int .i64 t.tt,.int .i64 t.pl,.int .i64 t.cl] 123)).heap[wr.heap.size]? =some (.cells t.cells.toArray 123 (0,0))) (heap_alloc_last wr (.cells #[.int .i64 t.fr,.int .i64 t.tt,.int .i64 t.pl,.int .i64 t.cl] 123));have hggt:g<wr.heap.size:=Yb.out.l.lt;clear Yy Yb q0 q1 q2 q3 Ym Zu;generalize wr.alloc _=w6 at*;generalize wr.heap.size=gt at*;obtain⟨v1,Sz⟩:∃v:Int,v=(plV L m.cn t.fr false:Nat):=⟨_,rfl⟩;obtain⟨v2,Wj⟩:∃v:Int,v=(plV L m.cn t.tt true:Nat):=⟨_,rfl⟩;obtain⟨v3,F'⟩:∃v:Int,v=(plV L m.cn t.pl false:Nat):=⟨_,rfl⟩;obtain⟨c1,Y5⟩:∃v,v=plC L m.cn t.fr false:=⟨_,rfl⟩;obtain⟨c2,Yz⟩:∃v,v=plC L m.cn t.tt true:=⟨_,rfl⟩;obtain⟨c3,Ph⟩:∃v,v=plC L m.cn t.pl false:=⟨_,rfl⟩;have Xs:=Z' (fun V e hl hs=>pA V g a n cap K e (w.heap.size+1) gl ga w.heap.size m la j lc L b t.fr false (xp (by omega)) (by have:=SM.out;omega) Xx.out hl hs);have Wx:=Z' (fun V e hl hs=>pA V g a n cap K e (w.heap.size+1) gl ga w.heap.size m la j lc L b t.tt true (xp (by omega)) (by have:=SM.out;omega) Xx.out hl hs);have WC:=Z' (fun V e hl hs=>pA V g a n cap K e (w.heap.size+1) gl ga w.heap.size m la j lc L b t.pl false (xp (by omega)) (by have:=SM.out;omega) Xx.out hl hs);rw[<-Sz,<-Y5]at Xs;rw[<-Wj,<-Yz]at Wx;rw[<-F',<-Ph]at WC;have QZ:=Z' (And.intro Sz (And.intro Wj F'));have UC:=Z' (And.intro Y5 (And.intro Yz Ph));clear Sz Wj F' Y5 Yz Ph PP G3 FX
  go_cut [14] (fun Bg wx=>∃(gx:Nat) (UW:Int),Bg= .pointer (some ⟨gx,0,none⟩)/\w6.heap.size<=gx/\Hid (UW=0↔Vh=0/\(c1&&(c2&&c3))=true)/\Hid (LfS wx g a n cap K UW)/\Hid (yZ (fun k=>k=g\/w6.heap.size<=k) w6 wx)/\Hid (wx.heap[gx]? =some (.cells (UT.cells ⟨v1,v2,v3,[]⟩).toArray 85 (0,0))))
  case first=>
   have Uz:=Z' (Zc.out.l.below ((Below.refl w6.heap.size w6).drew));have YX:=Z9 (yZ (fun k=>k=g\/w6.heap.size<=k) w6 w6.drew) (yZ.of ((Below.refl w6.heap.size w6).drew));have Z3:Q15 gt t w6.drew:=XN.out;have l0:=fun z (h:Q15 gt t z)=>y8 h 0 rfl
   have l1:=fun z (h:Q15 gt t z)=>y8 h 1 rfl
   have l2:=fun z (h:Q15 gt t z)=>y8 h 2 rfl
   dsimp only[KT.cells]at l0 l1 l2
   refine ye (Q15 gt t) (.of [(0,true),(1,true),(2,true),(4,true),(5,true),(6,true),(8,true),(9,true),(10,true)] (.fork 3 (.fork 7 (.fork 11 (.of [(12,true),(13,false),(14,false)] (.stir [])) 13 (.of [(11,false),(12,true),(14,false)] (.stir []))) 13 (.of [(7,false),(11,false),(12,true),(14,false)] (.stir []))) 13 (.of [(3,false),(7,false),(11,false),(12,true),(14,false)] (.stir [])))) (by kernel_rfl) (by kernel_rfl) (fun c a d v w h=>by cases d<;>exact h) ?_
   obtain⟨V0,N6⟩:∃V,V=w6.drew:=⟨_,rfl⟩;rw[<-N6]at Uz YX Z3⊢;clear N6
   iterate 9
    refine yY fun K hK=>tkF ?_
    go_simp
    try go_bits
    refine hK _ _ ?_;clear hK K
   refine uR ?_ ?_
   ·intro K hK;refine alF ?_;go_step;refine(Xs.out V0 Vh Uz.out (HC.out.see (Zc.out.new Uz.out YX.out WZ (by omega)).k)).mono ?_;rintro e V1 ⟨rfl,hl,hk⟩;have XA:=Z' hl;have Za:=Z' (YX.out.trans (hk.weak (q:=fun k=>k=g\/w6.heap.size<=k) fun _ _ e=> .inl e));have Dv:Q15 gt t V1:=hk.row Z3 (by omega);clear hl hk Z3 Uz YX;have Z3:=Dv;clear Dv;go_simp
    first|refine⟨Z3,hK _ _ ?_⟩|refine hK _ _ ?_
    clear hK K;refine uR ?_ ?_
    ·intro K hK;refine alF ?_;go_step;refine(Wx.out V1 (yj Vh c1 2) XA.out (HC.out.see (Zc.out.new XA.out Za.out WZ (by omega)).k)).mono ?_;rintro e V2 ⟨rfl,hl,hk⟩;have UL:=Z' hl;have Y0:=Z' (Za.out.trans (hk.weak (q:=fun k=>k=g\/w6.heap.size<=k) fun _ _ e=> .inl e));have Sg:Q15 gt t V2:=hk.row Z3 (by omega);clear hl hk Z3 XA Za;have Z3:=Sg;clear Sg;go_simp
     first|refine⟨Z3,hK _ _ ?_⟩|refine hK _ _ ?_
     clear hK K;refine uR ?_ ?_
     ·intro K hK;refine alF ?_;go_step;refine(WC.out V2 (yj (yj Vh c1 2) c2 2) UL.out (HC.out.see (Zc.out.new UL.out Y0.out WZ (by omega)).k)).mono ?_;rintro e V3 ⟨rfl,hl,hk⟩;have YU:=Z' hl;have ZL:=Z' (Y0.out.trans (hk.weak (q:=fun k=>k=g\/w6.heap.size<=k) fun _ _ e=> .inl e));have Tv:Q15 gt t V3:=hk.row Z3 (by omega);clear hl hk Z3 UL Y0;have Z3:=Tv;clear Tv;go_simp
      first|refine⟨Z3,hK _ _ ?_⟩|refine hK _ _ ?_
      clear hK K
      iterate 1
       refine yY fun K hK=>tkF ?_
       go_simp
       try go_bits
       refine hK _ _ ?_;clear hK K
      refine yY fun K hK=>alF ?_
      go_step;have ZY:Below V3.heap.size V3 (V3.alloc (.cells #[.int .i64 0,.int .i64 0,.int .i64 0,.string ⟨#[]⟩] 85)):=yV _ _;have ZZ:Q15 gt t (V3.alloc (.cells #[.int .i64 0,.int .i64 0,.int .i64 0,.string ⟨#[]⟩] 85)):=yW Z3 ZY;refine⟨ZZ,hK _ _ ?_⟩;clear hK K Z3;have Z3:=ZZ;have Wk:=Z' (YU.out.below ZY);have Xw:=Z' (ZL.out.trans (yZ.of ZY));have T4:=Z9 ((V3.alloc (.cells #[.int .i64 0,.int .i64 0,.int .i64 0,.string ⟨#[]⟩] 85)).heap[V3.heap.size]? =some (.cells (UT.cells ⟨0,0,0,[]⟩).toArray 85 (0,0))) (heap_alloc_last V3 (.cells #[.int .i64 0,.int .i64 0,.int .i64 0,.string ⟨#[]⟩] 85));have Yu:w6.heap.size<=V3.heap.size:=ZL.out.size;have Nq:g<V3.heap.size:=YU.out.lt;clear ZZ ZY YU ZL;generalize V3.alloc _=V4 at*;generalize V3.heap.size=gx at*;refine yY fun K hK=>alF ?_
      refine wp_store_row 85 _ _ rfl gx (UT.cells ⟨v1,v2,v3,[]⟩).toArray rfl rfl 85 (UT.cells ⟨0,0,0,[]⟩).toArray T4.out sy rfl (r5 _) ?_;have R2:W.heap.size<=gx:=Nat.le_trans Zc.out.k.size Yu;have Wh:=Z' (VN.out.newer Wk.out Z5 ((yZ.refl _ _).setrow (.inl R2) (UT.cells ⟨v1,v2,v3,[]⟩).toArray));have Wv:=Z' (Xw.out.setrow (.inl (.inr Yu)) (UT.cells ⟨v1,v2,v3,[]⟩).toArray);have Vu:=Z' (setRow_heap V4 gx _ (UT.cells ⟨v1,v2,v3,[]⟩).toArray _ _ T4.out);have Pv:gt<w6.heap.size:=yG XN.out;have ZZ:Q15 gt t (V4.setRow gx (UT.cells ⟨v1,v2,v3,[]⟩).toArray):=Wv.out.row XN.out (by omega);refine⟨ZZ,hK _ _ ?_⟩;clear hK K Wk Xw T4 Z3;refine yA (wV (V4.setRow gx (UT.cells ⟨v1,v2,v3,[]⟩).toArray)) (fun y hy=>by obtain rfl:y=V4.setRow gx (UT.cells ⟨v1,v2,v3,[]⟩).toArray:=hy;exact ZZ) rfl ?_;refine yE (fun y hy=> ?_);obtain rfl:y=V4.setRow gx (UT.cells ⟨v1,v2,v3,[]⟩).toArray:=hy;clear ZZ
      go_wp2_with fail
      go_meet;exact⟨gx,_,rfl,Yu,Z' (by simp[wh (show(2:Int)≠0 by decide),and_assoc]),Wh,Wv,Vu⟩
     intro K hK;refine alF ?_;go_step;have ZY:Below V2.heap.size V2 (V2.alloc (.cells #[.int .i64 0,.int .i64 0,.int .i64 0,.string ⟨#[]⟩] 85)):=yV _ _;have ZZ:Q15 gt t (V2.alloc (.cells #[.int .i64 0,.int .i64 0,.int .i64 0,.string ⟨#[]⟩] 85)):=yW Z3 ZY;refine⟨ZZ,hK _ _ ?_⟩;clear hK K Z3;have Z3:=ZZ;have YU:=Z' (UL.out.below ZY);have ZL:=Z' (Y0.out.trans (yZ.of ZY));have Uh:=Z9 ((V2.alloc (.cells #[.int .i64 0,.int .i64 0,.int .i64 0,.string ⟨#[]⟩] 85)).heap[V2.heap.size]? =some (.cells (UT.cells ⟨0,0,0,[]⟩).toArray 85 (0,0))) (heap_alloc_last V2 (.cells #[.int .i64 0,.int .i64 0,.int .i64 0,.string ⟨#[]⟩] 85));have Yu:w6.heap.size<=V2.heap.size:=Y0.out.size;have Nq:g<V2.heap.size:=UL.out.lt;clear ZZ ZY UL Y0;generalize V2.alloc _=V3 at*;generalize V2.heap.size=gx at*;refine yY fun K hK=>alF ?_
     go_step;refine(WC.out V3 (yj (yj Vh c1 2) c2 2) YU.out (HC.out.see (Zc.out.new YU.out ZL.out WZ (by omega)).k)).mono ?_;rintro e V4 ⟨rfl,hl,hk⟩;have Wk:=Z' hl;have Xw:=Z' (ZL.out.trans (hk.weak (q:=fun k=>k=g\/w6.heap.size<=k) fun _ _ e=> .inl e));have NX:Q15 gt t V4:=hk.row Z3 (by omega);have T4:=Z' (hk.row Uh.out (by omega));clear hl hk Z3 YU ZL Uh;have Z3:=NX;clear NX;go_simp
     first|refine⟨Z3,hK _ _ ?_⟩|refine hK _ _ ?_
     clear hK K
     iterate 1
      refine yY fun K hK=>tkF ?_
      go_simp
      try go_bits
      refine hK _ _ ?_;clear hK K
     refine yY fun K hK=>alF ?_
     refine wp_store_row 85 _ _ rfl gx (UT.cells ⟨v1,v2,v3,[]⟩).toArray rfl rfl 85 (UT.cells ⟨0,0,0,[]⟩).toArray T4.out sy rfl (r5 _) ?_;have R2:W.heap.size<=gx:=Nat.le_trans Zc.out.k.size Yu;have Wh:=Z' (VN.out.newer Wk.out Z5 ((yZ.refl _ _).setrow (.inl R2) (UT.cells ⟨v1,v2,v3,[]⟩).toArray));have Wv:=Z' (Xw.out.setrow (.inl (.inr Yu)) (UT.cells ⟨v1,v2,v3,[]⟩).toArray);have Vu:=Z' (setRow_heap V4 gx _ (UT.cells ⟨v1,v2,v3,[]⟩).toArray _ _ T4.out);have Pv:gt<w6.heap.size:=yG XN.out;have ZZ:Q15 gt t (V4.setRow gx (UT.cells ⟨v1,v2,v3,[]⟩).toArray):=Wv.out.row XN.out (by omega);refine⟨ZZ,hK _ _ ?_⟩;clear hK K Wk Xw T4 Z3;refine yA (wV (V4.setRow gx (UT.cells ⟨v1,v2,v3,[]⟩).toArray)) (fun y hy=>by obtain rfl:y=V4.setRow gx (UT.cells ⟨v1,v2,v3,[]⟩).toArray:=hy;exact ZZ) rfl ?_;refine yE (fun y hy=> ?_);obtain rfl:y=V4.setRow gx (UT.cells ⟨v1,v2,v3,[]⟩).toArray:=hy;clear ZZ
     go_wp2_with fail
     go_meet;exact⟨gx,_,rfl,Yu,Z' (by simp[wh (show(2:Int)≠0 by decide),and_assoc]),Wh,Wv,Vu⟩
    intro K hK;refine alF ?_;go_step;have ZY:Below V1.heap.size V1 (V1.alloc (.cells #[.int .i64 0,.int .i64 0,.int .i64 0,.string ⟨#[]⟩] 85)):=yV _ _;have ZZ:Q15 gt t (V1.alloc (.cells #[.int .i64 0,.int .i64 0,.int .i64 0,.string ⟨#[]⟩] 85)):=yW Z3 ZY;refine⟨ZZ,hK _ _ ?_⟩;clear hK K Z3;have Z3:=ZZ;have UL:=Z' (XA.out.below ZY);have Y0:=Z' (Za.out.trans (yZ.of ZY));have Su:=Z9 ((V1.alloc (.cells #[.int .i64 0,.int .i64 0,.int .i64 0,.string ⟨#[]⟩] 85)).heap[V1.heap.size]? =some (.cells (UT.cells ⟨0,0,0,[]⟩).toArray 85 (0,0))) (heap_alloc_last V1 (.cells #[.int .i64 0,.int .i64 0,.int .i64 0,.string ⟨#[]⟩] 85));have Yu:w6.heap.size<=V1.heap.size:=Za.out.size;have Nq:g<V1.heap.size:=XA.out.lt;clear ZZ ZY XA Za;generalize V1.alloc _=V2 at*;generalize V1.heap.size=gx at*;refine yY fun K hK=>alF ?_
    go_step;refine(Wx.out V2 (yj Vh c1 2) UL.out (HC.out.see (Zc.out.new UL.out Y0.out WZ (by omega)).k)).mono ?_;rintro e V3 ⟨rfl,hl,hk⟩;have YU:=Z' hl;have ZL:=Z' (Y0.out.trans (hk.weak (q:=fun k=>k=g\/w6.heap.size<=k) fun _ _ e=> .inl e));have Tv:Q15 gt t V3:=hk.row Z3 (by omega);have Uh:=Z' (hk.row Su.out (by omega));clear hl hk Z3 UL Y0 Su;have Z3:=Tv;clear Tv;go_simp
    first|refine⟨Z3,hK _ _ ?_⟩|refine hK _ _ ?_
    clear hK K;refine yY fun K hK=>alF ?_
    go_step;refine(WC.out V3 (yj (yj Vh c1 2) c2 2) YU.out (HC.out.see (Zc.out.new YU.out ZL.out WZ (by omega)).k)).mono ?_;rintro e V4 ⟨rfl,hl,hk⟩;have Wk:=Z' hl;have Xw:=Z' (ZL.out.trans (hk.weak (q:=fun k=>k=g\/w6.heap.size<=k) fun _ _ e=> .inl e));have NX:Q15 gt t V4:=hk.row Z3 (by omega);have T4:=Z' (hk.row Uh.out (by omega));clear hl hk Z3 YU ZL Uh;have Z3:=NX;clear NX;go_simp
    first|refine⟨Z3,hK _ _ ?_⟩|refine hK _ _ ?_
    clear hK K
    iterate 1
     refine yY fun K hK=>tkF ?_
     go_simp
     try go_bits
     refine hK _ _ ?_;clear hK K
    refine yY fun K hK=>alF ?_
    refine wp_store_row 85 _ _ rfl gx (UT.cells ⟨v1,v2,v3,[]⟩).toArray rfl rfl 85 (UT.cells ⟨0,0,0,[]⟩).toArray T4.out sy rfl (r5 _) ?_;have R2:W.heap.size<=gx:=Nat.le_trans Zc.out.k.size Yu;have Wh:=Z' (VN.out.newer Wk.out Z5 ((yZ.refl _ _).setrow (.inl R2) (UT.cells ⟨v1,v2,v3,[]⟩).toArray));have Wv:=Z' (Xw.out.setrow (.inl (.inr Yu)) (UT.cells ⟨v1,v2,v3,[]⟩).toArray);have Vu:=Z' (setRow_heap V4 gx _ (UT.cells ⟨v1,v2,v3,[]⟩).toArray _ _ T4.out);have Pv:gt<w6.heap.size:=yG XN.out;have ZZ:Q15 gt t (V4.setRow gx (UT.cells ⟨v1,v2,v3,[]⟩).toArray):=Wv.out.row XN.out (by omega);refine⟨ZZ,hK _ _ ?_⟩;clear hK K Wk Xw T4 Z3;refine yA (wV (V4.setRow gx (UT.cells ⟨v1,v2,v3,[]⟩).toArray)) (fun y hy=>by obtain rfl:y=V4.setRow gx (UT.cells ⟨v1,v2,v3,[]⟩).toArray:=hy;exact ZZ) rfl ?_;refine yE (fun y hy=> ?_);obtain rfl:y=V4.setRow gx (UT.cells ⟨v1,v2,v3,[]⟩).toArray:=hy;clear ZZ
    go_wp2_with fail
    go_meet;exact⟨gx,_,rfl,Yu,Z' (by simp[wh (show(2:Int)≠0 by decide),and_assoc]),Wh,Wv,Vu⟩
   intro K hK;refine alF ?_;go_step;have ZY:Below V0.heap.size V0 (V0.alloc (.cells #[.int .i64 0,.int .i64 0,.int .i64 0,.string ⟨#[]⟩] 85)):=yV _ _;have ZZ:Q15 gt t (V0.alloc (.cells #[.int .i64 0,.int .i64 0,.int .i64 0,.string ⟨#[]⟩] 85)):=yW Z3 ZY;refine⟨ZZ,hK _ _ ?_⟩;clear hK K Z3;have Z3:=ZZ;have XA:=Z' (Uz.out.below ZY);have Za:=Z' (YX.out.trans (yZ.of ZY));have Uw:=Z9 ((V0.alloc (.cells #[.int .i64 0,.int .i64 0,.int .i64 0,.string ⟨#[]⟩] 85)).heap[V0.heap.size]? =some (.cells (UT.cells ⟨0,0,0,[]⟩).toArray 85 (0,0))) (heap_alloc_last V0 (.cells #[.int .i64 0,.int .i64 0,.int .i64 0,.string ⟨#[]⟩] 85));have Yu:w6.heap.size<=V0.heap.size:=YX.out.size;have Nq:g<V0.heap.size:=Uz.out.lt;clear ZZ ZY Uz YX;generalize V0.alloc _=V1 at*;generalize V0.heap.size=gx at*;refine yY fun K hK=>alF ?_
   go_step;refine(Xs.out V1 Vh XA.out (HC.out.see (Zc.out.new XA.out Za.out WZ (by omega)).k)).mono ?_;rintro e V2 ⟨rfl,hl,hk⟩;have UL:=Z' hl;have Y0:=Z' (Za.out.trans (hk.weak (q:=fun k=>k=g\/w6.heap.size<=k) fun _ _ e=> .inl e));have Sg:Q15 gt t V2:=hk.row Z3 (by omega);have Su:=Z' (hk.row Uw.out (by omega));clear hl hk Z3 XA Za Uw;have Z3:=Sg;clear Sg;go_simp
   first|refine⟨Z3,hK _ _ ?_⟩|refine hK _ _ ?_
   clear hK K;refine yY fun K hK=>alF ?_
   go_step;refine(Wx.out V2 (yj Vh c1 2) UL.out (HC.out.see (Zc.out.new UL.out Y0.out WZ (by omega)).k)).mono ?_;rintro e V3 ⟨rfl,hl,hk⟩;have YU:=Z' hl;have ZL:=Z' (Y0.out.trans (hk.weak (q:=fun k=>k=g\/w6.heap.size<=k) fun _ _ e=> .inl e));have Tv:Q15 gt t V3:=hk.row Z3 (by omega);have Uh:=Z' (hk.row Su.out (by omega));clear hl hk Z3 UL Y0 Su;have Z3:=Tv;clear Tv;go_simp
   first|refine⟨Z3,hK _ _ ?_⟩|refine hK _ _ ?_
   clear hK K;refine yY fun K hK=>alF ?_
   go_step;refine(WC.out V3 (yj (yj Vh c1 2) c2 2) YU.out (HC.out.see (Zc.out.new YU.out ZL.out WZ (by omega)).k)).mono ?_;rintro e V4 ⟨rfl,hl,hk⟩;have Wk:=Z' hl;have Xw:=Z' (ZL.out.trans (hk.weak (q:=fun k=>k=g\/w6.heap.size<=k) fun _ _ e=> .inl e));have NX:Q15 gt t V4:=hk.row Z3 (by omega);have T4:=Z' (hk.row Uh.out (by omega));clear hl hk Z3 YU ZL Uh;have Z3:=NX;clear NX;go_simp
   first|refine⟨Z3,hK _ _ ?_⟩|refine hK _ _ ?_
   clear hK K
   iterate 1
    refine yY fun K hK=>tkF ?_
    go_simp
    try go_bits
    refine hK _ _ ?_;clear hK K
   refine yY fun K hK=>alF ?_
   refine wp_store_row 85 _ _ rfl gx (UT.cells ⟨v1,v2,v3,[]⟩).toArray rfl rfl 85 (UT.cells ⟨0,0,0,[]⟩).toArray T4.out sy rfl (r5 _) ?_;have R2:W.heap.size<=gx:=Nat.le_trans Zc.out.k.size Yu;have Wh:=Z' (VN.out.newer Wk.out Z5 ((yZ.refl _ _).setrow (.inl R2) (UT.cells ⟨v1,v2,v3,[]⟩).toArray));have Wv:=Z' (Xw.out.setrow (.inl (.inr Yu)) (UT.cells ⟨v1,v2,v3,[]⟩).toArray);have Vu:=Z' (setRow_heap V4 gx _ (UT.cells ⟨v1,v2,v3,[]⟩).toArray _ _ T4.out);have Pv:gt<w6.heap.size:=yG XN.out;have ZZ:Q15 gt t (V4.setRow gx (UT.cells ⟨v1,v2,v3,[]⟩).toArray):=Wv.out.row XN.out (by omega);refine⟨ZZ,hK _ _ ?_⟩;clear hK K Wk Xw T4 Z3;refine yA (wV (V4.setRow gx (UT.cells ⟨v1,v2,v3,[]⟩).toArray)) (fun y hy=>by obtain rfl:y=V4.setRow gx (UT.cells ⟨v1,v2,v3,[]⟩).toArray:=hy;exact ZZ) rfl ?_;refine yE (fun y hy=> ?_);obtain rfl:y=V4.setRow gx (UT.cells ⟨v1,v2,v3,[]⟩).toArray:=hy;clear ZZ
   go_wp2_with fail
   go_meet;exact⟨gx,_,rfl,Yu,Z' (by simp[wh (show(2:Int)≠0 by decide),and_assoc]),Wh,Wv,Vu⟩
  obtain⟨gx,UW,rfl,Yu,Ni,UA,XG,Hx⟩:=hcut;have YB:=Z' (Zc.out.new UA.out XG.out WZ (by omega));have Pv:gt<w6.heap.size:=yG XN.out;have Xz:=Z' (XG.out.row XN.out (by omega));have ct:=y8 Xz.out 3 rfl;dsimp only[KT.cells]at ct
  go_upto_if 95 with fail
  go_cut [] (fun wx=>∃(QR:Int) (cl:List UInt8),Hid (QR=0↔UW=0/\(decide (t.cl=0)||aclsB K t.cl false)=true)/\Hid (cl=if t.cl=0 then []else(yQ K t.cl).1)/\Hid (LfS wx g a n cap K QR)/\Hid (yZ (fun k=>k=g\/w6.heap.size<=k) w6 wx)/\Hid (wx.heap[gx]? =some (.cells (UT.cells ⟨v1,v2,v3,cl⟩).toArray 85 (0,0))))
  case first=>
   by_cases h0:t.cl=0
   ·have e0:(t.cl !=0)=false:=by simp[h0]
    have HH:=Z' h0;clear h0
    go_wp2_with fail
    go_meet;exact⟨UW,[],Z' (by simp[HH.out]),Z' (by simp[HH.out]),UA,XG,Hx⟩
   have e0:(t.cl !=0)=true:=by simp[h0]
   have HH:=Z' h0;clear h0;have ck:=y8 (HC.out.see YB.out.k).k 0 rfl;have Y4:=Z' (qD wc g a n cap K UW t.cl false UA.out);have hgg6:g<w6.heap.size:=Zc.out.l.lt;have hW6:W.heap.size<=w6.heap.size:=Zc.out.k.size
   go_wp2_with fail
   refine Y4.out.mono ?_;rintro e w8 ⟨rfl,hl,hk⟩;have SG:=Z' hl;have Qr:=Z' (XG.out.trans (hk.weak (q:=fun k=>k=g\/w6.heap.size<=k) fun _ _ e=> .inl e));have U0:=Z' (hk.row Hx.out (by omega));clear hl hk Y4 Xz YB ct Hx UA XG ck;have f3:=xQ U0.out 3;have z3:=y8 U0.out 3 rfl;have lz:=yG U0.out;dsimp only[UT.cells]at z3
   go_wp2_with fail
   go_meet;exact⟨_,(yQ K t.cl).1,Z' (by rw[wh (by decide)];simp[HH.out]),Z' (by simp[HH.out]),Z' (VN.out.newer SG.out Z5 (yZ.set (yZ.refl _ _) (.inl (show W.heap.size<=gx by omega)) 3 _)),Z' (Qr.out.set (.inl (.inr Yu)) 3 _),Z' (wZ U0.out 3 _)⟩
  clear UA XG Hx YB Xz ct;obtain⟨QR,cl,P3,Y4,Hu,Tp,VR⟩:=hcut;have ZB:=Z' (Zc.out.new Hu.out Tp.out WZ (by omega));have z0:=y8 VR.out 0 rfl;have z1:=y8 VR.out 1 rfl;have z2:=y8 VR.out 2 rfl;have z3:=y8 VR.out 3 rfl;have o6:=y8 ZB.out.o 6 rfl;dsimp only[UT.cells,UM.cells]at z0 z1 z2 z3 o6;have PG:x5.tn<=255:=by rw[Wz.out];omega
  go_wp2_with (at_builtin;refine wU kK rfl _ _ rfl W.heap.size _ x5.tn _ rfl ZB.out.w.traps _ 1 _ _ rfl rfl rfl rfl (by omega) (by unfold maxLen;omega) ZB.out.k.size ?_;intro v9 w9 Z0 ZA ZK;have ZU:=yd.app ZB.out.w.traps ZA;have ZW:w9.ownsRow W.heap.size 85 4 v9 (x5.tn+1) ((x5.traps++[(⟨v1,v2,v3,cl⟩:UT)]).flatMap UT.cells):=(by rw[List.flatMap_append];exact Z0);obtain⟨a9,c9,rfl,-,-⟩:=Ss.ofOwn UT.cells_length (by decide) ZW;have Yc:yZ (fun k=>W.heap.size<=k) wc w9:=yZ.ofB ZK (Nat.le_trans (by simp) ZA.size);have ZC:=Z' (VN.out.app9 ZB.out Yc ZU (ZB.out.w.traps1 ZU ZW) (by omega) (by omega) (by omega) R7.out);have fo:=xQ ZC.out.2.1 6;have lto:=yG ZC.out.2.1;have co:=y8 ZC.out.2.1 6 rfl;dsimp only[UM.cells]at co;clear Z0 ZW ZA ZK ZU Yc)
  have YE:=ZC.out.2.2 6 (.slice a9 (x5.tn+1) c9) rfl;have YM:=Z' (UM.p_traps1 Wa.out a9 (x5.tn+1) c9 (⟨v1,v2,v3,cl⟩:UT));have Yj:=Z' YE
  have XX:=Z' (show UM.p {x5 with ta:=a9,tn:=x5.tn+1,tc:=c9,traps:=x5.traps++[(⟨v1,v2,v3,cl⟩:UT)]}=⟨sb,NM,DS,m.st,m.lo,none,0,0,L.map (xT K L),none,0,0,(m.traps.take (jt+1)).map (vU K L m.cn),none,0,0,[]⟩ by
   rw[YM.out,YW.out,List.map_append,List.map_singleton,show vU K L m.cn t=⟨v1,v2,v3,cl⟩ by rw[QZ.out.1,QZ.out.2.1,QZ.out.2.2,Y4.out];rfl])
  have XP:=Z' (show QR=0↔er'=0/\(m.traps.take (jt+1)).all (vq K L m.cn)=true by
   rw[P3.out,Ni.out,T5.out,YW.out,List.all_append,UC.out.1,UC.out.2.1,UC.out.2.2];simp[vq,and_assoc])
  clear YE YM ZC Wa T5 Ni P3 QZ UC Y4 ZB Zc Hu Tp VR XN fo lto co z0 z1 z2 z3 o6;go_roundg (m.tn-(jt+1))
  case measure=>omega
  exact⟨jt+1,QR,_,by omega,rfl,by go_num,XP,XX,Yj⟩
 have Td:jt=m.tn:=by omega
 have ZV:m.traps.take jt=m.traps:=List.take_of_length_le (by rw[HD.out.traps.1];omega);rw[ZV]at T5 Wa;have Wt:¬((jt:Int)<m.tn):=by omega
 clear Td;have c7:=y8 (HC.out.see Yb.out.k).m 7 rfl;dsimp only[KM.cells]at c7
 go_wp2_with fail
 go_loopg [111] m.mn (fun gn i Ey=>∃(jp:Nat) (VU:Int) (x9:UM),jp<=m.mn/\gn=m.mn-jp/\i= .int .i64 jp/\Hid (VU=0↔Vh=0/\(m.maps.take jp).all (vj K L m.cn)=true)/\Hid (x9.p=⟨sb,NM,DS,m.st,m.lo,none,0,0,L.map (xT K L),none,0,0,m.traps.map (vU K L m.cn),none,0,0,(m.maps.take jp).map (uM K L m.cn)⟩)/\Hid (vk W Ey g (w.heap.size+3) a n cap K VU x9))
 case atStart=>exact⟨0,Vh,x5,by omega,by omega,by go_num,Z' (by simp),Z' (by rw[Wa.out];rfl),Yb⟩
 clear Yb c7;obtain⟨jp,VU,x9,zr,rfl,rfl,TG,TZ,ZC⟩:=hrel;by_cases ZX:jp<m.mn
 ·have WH:x9.maps.length=jp:=by
   have h1:=congrArg (fun u=>u.maps.length) TZ.out;have h2:=HD.out.maps.1;simp only[UM.p,List.length_map,List.length_take]at h1;omega
  have Yf:x9.mn=jp:=by
   obtain⟨a9,c9,e9,h9,_⟩:=Ss.ofOwn UP.cells_length (by decide) ZC.out.w.maps
   cases e9
   rw[<-WH];exact h9.1.symm
  have Wz:=Z' Yf;have HS:=Z' (HC.out.rd ZC.out.k).maps;have XZ:(jp:Int)<m.mn:=by omega
  obtain⟨bq,off,p,Ym,Zu,hs,q⟩:=HS.out.getC jp ZX;have q0:=q 0 (by omega);have q1:=q 1 (by omega);have q2:=q 2 (by omega);rw[Nat.add_zero]at q0;simp only[KP.cells,List.getElem?_cons_zero,List.getElem?_cons_succ]at q0 q1 q2
  have YW:=Z' (show m.maps.take (jp+1)=m.maps.take jp++[p] by
   have YP:=(Z4 hs).1;rw[List.take_succ_eq_append_getElem YP,(Z4 hs).2])
  have Ux:=Z' (List.mem_of_getElem? hs);obtain⟨XJ,s1,s2,g1,g2⟩:=jz (q5 p Ux.out) (HD.out.each p Ux.out);obtain⟨sl,VT⟩:∃sl:KS->List UInt8,sl=yD K:=⟨_,rfl⟩;have KN:=Z' VT;have Mi:=Z' g1;have UV:=Z' g2;have Xk:=Z' ((HD.out.each p Ux.out).loc.offold K4);have Ts:=Z' ((HD.out.each p Ux.out).stk.offold K4);clear hs q ZX HS WH Yf g1 g2 VT
  go_upto_region 23 with fail
  have Yy:Below wr.heap.size wr (wr.alloc (.cells #[.int .i64 p.pl,.slice p.la p.ln p.lc,.slice p.sa p.sn p.sc] 68)):=yV _ _;have Zc:=Z' ((ZC.out.below Yy).below (Z6.drew));have RY:=Z9 ((wr.alloc (.cells #[.int .i64 p.pl,.slice p.la p.ln p.lc,.slice p.sa p.sn p.sc] 68)).drew.heap[wr.heap.size]? =some (.cells p.cells.toArray 68 (0,0))) (heap_alloc_last wr (.cells #[.int .i64 p.pl,.slice p.la p.ln p.lc,.slice p.sa p.sn p.sc] 68));have hggp:g<wr.heap.size:=ZC.out.l.lt;have E':W.heap.size<=wr.heap.size:=ZC.out.k.size;clear Yy ZC q0 q1 q2 Ym Zu;generalize wr.heap.size=gp at*;obtain⟨v1,Sz⟩:∃v:Int,v=(plV L m.cn p.pl false:Nat):=⟨_,rfl⟩;obtain⟨c1,Y5⟩:∃v,v=plC L m.cn p.pl false:=⟨_,rfl⟩;have Xs:=Z' (fun V e hl hs=>pA V g a n cap K e (w.heap.size+1) gl ga w.heap.size m la j lc L b p.pl false (xp (by omega)) (by have:=SM.out;omega) Xx.out hl hs);rw[<-Sz,<-Y5]at Xs;have QZ:=Z' Sz;have UC:=Z' Y5;clear Sz Y5 XJ;have Z3:Q23 w.heap.size g (w.heap.size+3) gp p (.slice x9.ma x9.mn x9.mc) (wr.alloc (.cells #[.int .i64 p.pl,.slice p.la p.ln p.lc,.slice p.sa p.sn p.sc] 68)).drew:=⟨RY.out,y8 (HC.out.see Zc.out.k).k 0 rfl,y8 Zc.out.o 7 rfl⟩;have l0:=fun z (h:Q23 w.heap.size g (w.heap.size+3) gp p (.slice x9.ma x9.mn x9.mc) z)=>y8 h.1 0 rfl
  have l1:=fun z (h:Q23 w.heap.size g (w.heap.size+3) gp p (.slice x9.ma x9.mn x9.mc) z)=>y8 h.1 1 rfl
  have l2:=fun z (h:Q23 w.heap.size g (w.heap.size+3) gp p (.slice x9.ma x9.mn x9.mc) z)=>y8 h.1 2 rfl
  have l3:=fun z (h:Q23 w.heap.size g (w.heap.size+3) gp p (.slice x9.ma x9.mn x9.mc) z)=>h.2.1
  have l4:=fun z (h:Q23 w.heap.size g (w.heap.size+3) gp p (.slice x9.ma x9.mn x9.mc) z)=>h.2.2
  dsimp only[KP.cells]at l0 l1 l2
  refine tq (Q23 w.heap.size g (w.heap.size+3) gp p (.slice x9.ma x9.mn x9.mc)) 18 [(0,true),(1,true),(2,true),(3,true),(4,true),(6,true),(7,true),(8,true),(10,true),(11,true),(12,true),(5,false),(9,false),(13,false),(14,true),(15,false),(16,false),(17,true)] (by kernel_rfl) (by kernel_rfl) (fun c a d v w h=>by cases d<;>exact h) ?_
  generalize(wr.alloc (.cells #[.int .i64 p.pl,.slice p.la p.ln p.lc,.slice p.sa p.sn p.sc] 68)).drew=w6 at*
  iterate 11
   refine xU fun K hK=>tkF ?_
   go_simp
   try go_bits
   refine hK _ _ ?_;clear hK K
  refine xU fun K hK=>alF ?_
  go_step;refine(Xs.out w6 VU Zc.out.l (HC.out.see Zc.out.k)).mono ?_;rintro e V1 ⟨rfl,hl,hk⟩;have B9:=Z' (wh (er:=VU) (ok:=c1) (show(2:Int)≠0 by decide));generalize yj VU c1 2=era at*;have XA:=Z' hl;have Za:=Z9 (yZ (fun k=>k=g\/w6.heap.size<=k) w6 V1) (hk.weak fun _ _ e=> .inl e);have Yv:=Z' (Zc.out.new XA.out Za.out WZ (by omega));have XQ:Q23 w.heap.size g (w.heap.size+3) gp p (.slice x9.ma x9.mn x9.mc) V1:=⟨hk.row RY.out (by omega),y8 (HC.out.see Yv.out.k).k 0 rfl,y8 Yv.out.o 7 rfl⟩;clear hl hk Z3;have Z3:=XQ;clear XQ;go_simp
  first|refine⟨Z3,hK _ _ ?_⟩|refine hK _ _ ?_
  clear hK K;refine xU fun K hK=>alF ?_
  go_step;refine(ji V1 g a n cap _ era p.la p.ln p.lc p.loc XA.out (((HC.out.rd Yv.out.k).each p Ux.out).loc) Xk.out (by omega) Mi.out).mono ?_;rintro e V2 ⟨oa,oc,⟨rfl,⟨erb,JC,hl⟩,hk⟩,UE⟩;have KY:=Z' JC;have UL:=Z' hl;have Y0:=Z' (Za.out.trans (hk.weak (q:=fun k=>k=g\/w6.heap.size<=k) fun _ _ e=> .inl e));have WA:=Z' (Zc.out.new UL.out Y0.out WZ (by omega));have XQ:Q23 w.heap.size g (w.heap.size+3) gp p (.slice x9.ma x9.mn x9.mc) V2:=⟨hk.row Z3.1 (by omega),y8 (HC.out.see WA.out.k).k 0 rfl,y8 WA.out.o 7 rfl⟩;have LF:=Z' (wg UE (show W.heap.size<=V1.heap.size from Yv.out.k.size));clear hl hk Z3 JC UE XA Za Yv;have Z3:=XQ;clear XQ;go_simp
  first|refine⟨Z3,hK _ _ ?_⟩|refine hK _ _ ?_
  clear hK K;refine xU fun K hK=>alF ?_
  go_step;refine(ji V2 g a n cap _ erb p.sa p.sn p.sc p.stk UL.out (((HC.out.rd WA.out.k).each p Ux.out).stk) Ts.out (by omega) UV.out).mono ?_;rintro e V3 ⟨ob,od,⟨rfl,⟨erc,Dc,hl⟩,hk⟩,UE⟩;have Ch:=Z' Dc;have YU:=Z' hl;have ZL:=Z' (Y0.out.trans (hk.weak (q:=fun k=>k=g\/w6.heap.size<=k) fun _ _ e=> .inl e));have Wc:=Z' (Zc.out.new YU.out ZL.out WZ (by omega));have XQ:Q23 w.heap.size g (w.heap.size+3) gp p (.slice x9.ma x9.mn x9.mc) V3:=⟨hk.row Z3.1 (by omega),y8 (HC.out.see Wc.out.k).k 0 rfl,y8 Wc.out.o 7 rfl⟩;have GJ:=Z' (wg UE (show W.heap.size<=V2.heap.size from WA.out.k.size));have G8:=Z' (tY LF.out hk (fun y hy=> .inl (by omega)));clear hl hk Z3 Dc UE UL Y0 WA LF;have Z3:=XQ;clear XQ;go_simp
  first|refine⟨Z3,hK _ _ ?_⟩|refine hK _ _ ?_
  clear hK K
  iterate 1
   refine xU fun K hK=>tkF ?_
   go_simp
   try go_bits
   refine hK _ _ ?_;clear hK K
  refine xU fun K hK=>alF ?_
  go_step;have ZY:Below V3.heap.size V3 (V3.alloc (.cells #[.int .i64 v1,.slice oa p.ln oc,.slice ob p.sn od] 88)):=yV _ _;have XQ:Q23 w.heap.size g (w.heap.size+3) gp p (.slice x9.ma x9.mn x9.mc) (V3.alloc (.cells #[.int .i64 v1,.slice oa p.ln oc,.slice ob p.sn od] 88)):=⟨yW Z3.1 ZY,yF ZY Z3.2.1,yF ZY Z3.2.2⟩;refine⟨XQ,hK _ _ ?_⟩;clear hK K XQ ZY;have JD:=Z' Z3.1;clear Z3;refine xU fun K hK=>alF ?_
  change Oper.wp _ _ _ _ _ _;have PG:x9.mn<=255:=by rw[Wz.out];omega
  refine rP kf (ops:= #[]) rfl _ _ _ rfl W.heap.size _ x9.mn _ rfl (Wc.out.w.maps.alloc _) _ 1 _ rfl (Src.litS (m:=1) rfl rfl kf.1) (by omega) (by unfold maxLen;omega) (Nat.le_trans Wc.out.k.size (by simp)) ?_;intro v9 w9 Z0 ZA ZK;have ZU:=yd.app Wc.out.w.maps ZA;obtain⟨nu,GY⟩:∃nu:UP,nu=⟨v1,oa,p.ln,oc,p.loc.map sl,ob,p.sn,od,p.stk.map sl⟩:=⟨_,rfl⟩;have ZW:w9.ownsRow W.heap.size 88 3 v9 (x9.mn+1) ((x9.maps++[nu]).flatMap UP.cells):=(by rw[List.flatMap_append,GY];exact Z0)
  have Kc:nu.Own w9 W.heap.size:=by
   rw[GY,KN.out];exact⟨xA G8.out ZU (by decide),xA GJ.out ZU (by decide)⟩
  obtain⟨a9,c9,rfl,-,-⟩:=Ss.ofOwn UP.cells_length (by decide) ZW;have Yc:yZ (fun k=>W.heap.size<=k) V3 w9:=(yZ.of (yV _ _)).trans (yZ.ofB ZK (by have:=ZA.size;simpa using this));have Sn:=Z' (VN.out.app9 Wc.out Yc ZU (Wc.out.w.maps1 ZU ZW Kc) (by omega) (by omega) (by omega) R7.out);have DK:=Z' GY;have Z3:Q23 w.heap.size g (w.heap.size+3) gp p (.slice x9.ma x9.mn x9.mc) w9:=⟨ZU.2 _ _ _ _ JD.out (by decide),y8 (HC.out.see Sn.out.1).k 0 rfl,y8 Sn.out.2.1 7 rfl⟩;clear Z0 ZW ZA ZK ZU Yc JD Wc GY Kc GJ G8 YU ZL Zc RY;refine⟨Z3,hK _ _ ?_⟩;clear hK K
  iterate 1
   refine xU fun K hK=>tkF ?_
   go_simp
   try go_bits
   refine hK _ _ ?_;clear hK K
  have fo:=xQ Sn.out.2.1 7;have lto:=yG Sn.out.2.1;have co:=y8 Sn.out.2.1 7 rfl;dsimp only[UM.cells]at co;refine tm (laF ?_);go_step;have YE:=Sn.out.2.2 7 (.slice a9 (x9.mn+1) c9) rfl;have YM:=Z' (UM.p_maps1 TZ.out a9 (x9.mn+1) c9 nu);have Yj:=Z' YE
  have XX:=Z' (show UM.p {x9 with ma:=a9,mn:=x9.mn+1,mc:=c9,maps:=x9.maps++[nu]}=⟨sb,NM,DS,m.st,m.lo,none,0,0,L.map (xT K L),none,0,0,m.traps.map (vU K L m.cn),none,0,0,(m.maps.take (jp+1)).map (uM K L m.cn)⟩ by
   rw[YM.out,YW.out,List.map_append,List.map_singleton,DK.out,QZ.out,KN.out];rfl)
  have XP:=Z' (show erc=0↔Vh=0/\(m.maps.take (jp+1)).all (vj K L m.cn)=true by
   rw[Ch.out,KY.out,B9.out,TG.out,YW.out,List.all_append,UC.out];simp[vj,and_assoc])
  clear YE YM Sn TZ TG B9 KY Ch QZ UC DK Z3 fo lto co l0 l1 l2 l3 l4
  go_wp2_with fail
  go_roundg (m.mn-(jp+1))
  case measure=>omega
  exact⟨jp+1,erc,_,by omega,rfl,by go_num,XP,XX,Yj⟩
 have Td:jp=m.mn:=by omega
 have ZV:m.maps.take jp=m.maps:=List.take_of_length_le (by rw[HD.out.maps.1];omega);rw[ZV]at TG TZ;have Wt:¬((jp:Int)<m.mn):=by omega
 clear Td
 go_upto_region 25 with fail
 have HZ:=Z' (HC.out.zw ZC.out.k);refine wp_region_lit ?_;refine xN rfl _ _ rfl _ rfl _ _ _ _ ZC.out.o underlying59 rfl xM ?_;refine wpList_store_row rfl _ _ _ rfl _ _ rfl rfl _ _ HZ.out xM rfl (uU _) ?_
 go_wp2_with fail
 refine bodyPost_ret (results_cell_row rfl _ _ (w.heap.size+2) yT (UM.cells _).toArray (0,0) _ rfl (setRow_heap _ _ _ _ _ _ HZ.out) underlying59 rfl xM) rfl ?_;have hgz:W.heap.size<=wr.heap.size:=ZC.out.k.size;have Qt:yZ (fun k=>k=w.heap.size+2) wr (wr.setRow (w.heap.size+2) x9.cells.toArray):=yZ.setrow (yZ.refl (fun k=>k=w.heap.size+2) _) (.inl rfl) _
 refine⟨x9,?_,(ZC.out.w.keepP Qt (fun y hy=> .inl (by omega))).mono (by omega),rfl,⟨VU,?_,H.out.newer ZC.out.l Z5 (Qt.weak fun k _ e=>by omega)⟩,(Mc.out.new2 ZC.out.k (fun x hx=>by rcases hx with hx|hx;exact .inl hx;exact .inr (by omega))).new2 Qt (fun x hx=> .inr (by omega))⟩
 ·rw[TZ.out];unfold vC;rw[HR.out,<-Ty.out,<-BA.out,<-VP.out]
 rw[TG.out,T5.out,HE.out,Bc.out,D9.out];unfold vL;rw[HR.out,<-Ty.out,<-BA.out,<-Yx.out,<-NP.out];simp[and_assoc]
end
section
open Go.ChangeShapes Go.WideShapes Go.ChangeAt Go.RowKit Go.Maps
theorem kv:StE 22 x7 (.agg #[.int .i64 0,.int .i64 0,.int .i64 0,.int .i64 0,.string ⟨#[]⟩]) 5 48:=⟨by kernel_rfl,by kernel_rfl,rfl⟩
theorem xk(w:World)(B g:Nat)(s:LW)(ok:Bool)(k:Int)(h:LoS w B g s):
  Calls prog 33 #[.pointer (some ⟨g,0,none⟩),.bool ok,.int .i64 k] w (uf (.tuple #[]) B g (s.need ok k) w):=by
 obtain⟨a,cap,b,hx⟩:=h;have H:=Z' hx;obtain⟨c0,c1,c2,f0,f1,f2,lt⟩:=hx.k.box;have HN:s.need ok k=⟨s.l,yj s.e ok k⟩:=rfl;rw[HN];clear hx HN;generalize hE:yj s.e ok k=E
 cases ok
 ·by_cases h0:s.e=0
  ·have e0:(s.e==0)=true:=by simpa using h0
   have HE:=Z' (show E=k by rw[<-hE];unfold yj;rw[if_pos ⟨rfl,h0⟩]);clear hE h0;go_enter func33,ntmps33
   go_wp2_with fail
   go_end0;rw[HE.out];exact⟨rfl,⟨a,cap,b,H.out.set2 k⟩,yR.set H.out.nk 2 _⟩
  have e0:(s.e==0)=false:=by simpa using h0
  have HE:E=s.e:=by rw[<-hE];unfold yj;rw[if_neg (fun h=>h0 h.2)]
  rw[HE];clear HE hE h0;go_enter func33,ntmps33
  go_wp2_with fail
  go_end0;exact⟨rfl,⟨a,cap,b,H.out⟩,yR.refl _ _⟩
 have HE:E=s.e:=by rw[<-hE];unfold yj;rw[if_neg (fun h=>absurd h.1 (by decide))]
 rw[HE];clear HE hE;go_enter func33,ntmps33
 go_wp2_with fail
 go_end0;exact⟨rfl,⟨a,cap,b,H.out⟩,yR.refl _ _⟩
theorem D7d(w:World):(zeroValue 3).run prog w= .ok (.int .i64 0) w:=by kernel_rfl
theorem D9a{c k:KV}(hc:KOk c)(hk:KOk k)(h:nz c=nz k):c=k:=by
 have e:=mH.inj (ph hc) (by rw[h];exact ph hk);obtain⟨a1,a2,a3,a4,a5⟩:=k;obtain⟨b1,b2,b3,b4,b5⟩:=c;simp[KV.cells]at e;obtain⟨rfl,rfl,rfl,rfl,rfl⟩:=e;rfl
theorem wv.look{w:World}{b:Nat}{L:List KV}(h:wv w b L){c:KV}(hc:KOk c)(ht:c.tag≠0):
  (Instr.lookup ki (.map (some b)) (.agg c.cells.toArray) true).run prog w= .ok (.tuple #[.int .i64 (((vY L c).getD 0:Nat):Int),.bool (vY L c).isSome]) w:=by
 obtain⟨D,h,hd⟩:=h;obtain⟨v,ps,Xa,hv⟩:=h.look_ok mH underlying90 (D7d w) (plainElem_int underlying3 (a:=0) (by decide)) (ph hc);obtain⟨i,rfl,hi,_⟩:=plainElem_int_inv underlying3 hv;simp only[Prod.mk.injEq]at hi;have Yq:=hi.1;rw[hd c hc ht]at Yq;rw[Xa]
 cases hx:vY L c with
 |none=>
  rw[hx]at Yq;rw[Maps.has_false_of_atKey (fun z=>by rw[hd c hc ht,hx])];simp at Yq;simp[<-Yq]
 |some k=>
 rw[hx]at Yq;rw[Maps.has_true_of_atKey (fun z=>by rw[hd c hc ht,hx])];simp at Yq;simp[<-Yq]
theorem D5s{L:List KV}{c k:KV}(hn:vY L c=none):vY (L++[c]) k=if eqK c k=true then some L.length else vY L k:=by
 unfold vY at hn⊢;rw[List.findIdx?_append];by_cases h:k=c
 ·subst h;have h1:eqK k k=true:=tb.2 rfl;rw[hn,if_pos h1];simp[List.findIdx?_cons,h1]
 have h1:eqK k c=false:=by
  rw[Bool.eq_false_iff];intro hh;exact h (tb.1 hh).symm
 rw[if_neg (fun hh=>h (tb.1 hh))];simp[List.findIdx?_cons,h1]
theorem E4p{L:List KV}{k:KV}(ht:k.tag≠0):vY (L++[kz]) k=vY L k:=by
 unfold vY;rw[List.findIdx?_append]
 have:eqK k kz=false:=by
  rw[Bool.eq_false_iff];intro hh;rw[<-tb.1 hh]at ht;exact ht rfl
 simp[List.findIdx?_cons,this]
theorem wv.kz{w:World}{b:Nat}{L:List KV}(h:wv w b L):wv w b (L++[kz]):=by
 obtain⟨D,h,hd⟩:=h;exact⟨D,h.mono (by simp),fun c hc ht z=>by rw[hd c hc ht z,E4p ht]⟩
theorem wv.store{w:World}{b:Nat}{L:List KV}(h:wv w b L){c:KV}(hc:KOk c)(ht:c.tag≠0)(hn:vY L c=none)(hl:L.length<=1099511627776):
  ∃w',(Instr.mapUpdate ki (.map (some b)) (.agg c.cells.toArray) (.int .i64 (L.length:Nat))).run prog w= .ok () w'/\wv w' b (L++[c])/\w.grownBy w' (some b):=by
 obtain⟨D,h,hd⟩:=h;obtain⟨w',Xa,Zk,Vq⟩:=h.store mH underlying90 (by unfold maxLen;omega) (val:= .int .i64 (L.length:Nat)) (ph hc) (plainElem_int underlying3 (xp (by omega)));refine⟨w',Xa,⟨_,by simpa using Zk,fun k hk Zt z=> ?_⟩,Vq.grown⟩;rw[D5s hn];by_cases e:k=c
 ·subst e;rw[if_pos (tb.2 rfl),Maps.atKey_put_same h.isMap (by trivial)]
 rw[if_neg (fun hh=>e (tb.1 hh)),Maps.atKey_put_other (fun hh=>e (D9a hk hc hh)),hd k hk Zt]
theorem wv.obj{w:World}{b:Nat}{L:List KV}(h:wv w b L):∃es cl,w.heap[b]? =some (.map es cl):=by
 obtain⟨D,⟨es,cl,hm,_⟩,_⟩:=h;exact⟨es,cl,hm⟩
theorem E1x{w w':World}{B:Nat}{e:TypeId}{size:Nat}{v:Value}{n:Nat}{xs:List Value}{b:Nat}(h:w.ownsRow B e size v n xs)(hb:∃es cl,w.heap[b]? =some (.map es cl))(hg:w.grownBy w' (some b)):w'.ownsRow B e size v n xs:=by
 refine⟨h.1,?_⟩
 rcases h.2 with h1|⟨g,cap,cur,hv,hB,hc,r⟩
 ·exact .inl h1
 refine .inr ⟨g,cap,cur,hv,hB,?_,r⟩
 have ZF:g≠b:=by
  rintro rfl;obtain⟨es,cl,hm⟩:=hb;rw[hm]at hc
  cases hc
 rw[hg.block g (yG hc) (fun e=>ZF (by simpa using e))];exact hc
theorem E6u{w:World}{B:Nat}{size:Nat}{v:Value}{n:Nat}{xs:List Value}(h:w.ownsRow B x7 size v n xs):∀k,v.ownBlock=some k->B<=k/\¬sd w.heap[k]? :=by
 intro k hk
 rcases h.2 with⟨h1,_⟩|⟨g,cap,cur,hv,hB,hc,r⟩
 ·rw[h1]at hk;cases hk
 rw[hv]at hk;simp[Value.ownBlock]at hk;subst hk;exact⟨hB,by rw[hc];exact fun hh=>hh.1 rfl⟩
theorem eN{w:World}{B:Nat}{e:TypeId}{size:Nat}{v:Value}{n:Nat}{xs:List Value}{b:Nat}(h:w.ownsRow B e size v n xs)(hb:∃es cl,w.heap[b]? =some (.map es cl)):some b≠v.ownBlock:=by
 intro hk
 rcases h.2 with⟨h1,_⟩|⟨g,cap,cur,hv,hB,hc,r⟩
 ·rw[h1]at hk;cases hk
 rw[hv]at hk;simp[Value.ownBlock]at hk;subst hk;obtain⟨es,cl,hm⟩:=hb;rw[hm]at hc
 cases hc
structure LoY(w:World)(B g:Nat)(L M:List KV)(er:Int)(a:Option Addr)(cap b:Nat):Prop where
 k:tL w g (.slice a L.length cap) (.map (some b)) (.int .i64 er) wi
 o:w.ownsRow B x7 5 (.slice a L.length cap) L.length (L.flatMap KV.cells)
 m:wv w b M
 bB:B<=b
 gB:B<=g
 B0:0<B
 vw:VW w
theorem LoY.x{w:World}{B g:Nat}{L:List KV}{er:Int}{a:Option Addr}{cap b:Nat}(h:LoY w B g L L er a cap b):LoX w B g ⟨L,er⟩ a cap b:=⟨h.k,h.o,h.m,h.bB,h.gB,h.B0,h.vw⟩
theorem LoY.below{w w':World}{B g:Nat}{L M:List KV}{er:Int}{a:Option Addr}{cap b:Nat}(h:LoY w B g L M er a cap b)(hb:Below w.heap.size w w'):LoY w' B g L M er a cap b:=
 ⟨h.k.below hb,wE h.o hb,h.m.below hb,h.bB,h.gB,h.B0,h.vw.below hb⟩
theorem LoY.kz{w:World}{B g:Nat}{L M:List KV}{er:Int}{a:Option Addr}{cap b:Nat}(h:LoY w B g L M er a cap b):LoY w B g L (M++[Go.Proofs.YtclpkipaehpkdaaGreatDoor.kz]) er a cap b:=⟨h.k,h.o,h.m.kz,h.bB,h.gB,h.B0,h.vw⟩
theorem LoY.app{w w9:World}{B g:Nat}{L M:List KV}{er:Int}{a:Option Addr}{cap b:Nat}{o:Obj}{c:KV}{a9:Option Addr}{c9:Nat}(h:LoY w B g L M er a cap b)
  (hg:(w.alloc o).grownBy w9 (Value.slice a L.length cap).ownBlock) (ho:w9.ownsRow B x7 5 (.slice a9 (L.length+1) c9) (L.length+1) ((L++[c]).flatMap KV.cells)):
  LoY (w9.setCell ⟨g,0,none⟩ (.slice a9 (L.length+1) c9)) B g (L++[c]) M er a9 c9 b/\yR B w (w9.setCell ⟨g,0,none⟩ (.slice a9 (L.length+1) c9))/\w9.heap[g]? =some (.cells #[.slice a L.length cap,.map (some b),.int .i64 er] wi):=by
 have ZY:=yV w o;have NQ:=h.below ZY;have Zt:=yd.app h.o hg;have ZU:w9.heap[g]? =some (.cells #[.slice a L.length cap,.map (some b),.int .i64 er] wi):=Zt.2 _ _ _ _ h.k (by decide);have Di:wv w9 b M:=NQ.m.kept hg (eN NQ.o NQ.m.obj);have Si:yR B w w9:=(yR.of ZY).trans (yR.grown hg (fun k hk _=>E6u NQ.o k hk));have BX:B<=g/\¬sd w9.heap[g]? :=⟨h.gB,by rw[ZU];exact fun hh=>hh.2 rfl⟩
 have WS:b≠g:=by
  rintro rfl;obtain⟨es,cl,hm⟩:=Di.obj;rw[hm]at ZU
  cases ZU
 have CY:=Si.trans (yR.set BX 0 (.slice a9 (L.length+1) c9));refine⟨⟨?_,?_,Di.setCell WS _,h.bB,h.gB,h.B0,CY.vw h.vw h.B0⟩,CY,ZU⟩
 ·rw[List.length_append,List.length_singleton];exact wZ ZU 0 _
 rw[List.length_append,List.length_singleton];exact xA ho (uz ZU 0 _) (by decide)
def SQ(g gx o:Nat)(c:KV)(v:Value)(z:World):Prop:=z.heap[gx]? =some (.cells c.cells.toArray x7 (0,0))/\z.cell? ⟨g,o,none⟩=some v
theorem tJ(w:World)(B g:Nat)(s:LW)(c:KV)(h:LoS w B g s)(hc:KOk c)(ht:c.tag≠0)(hn:s.l.length<=1099511627776)(hB:B<=w.heap.size):
  Calls prog 72 #[.pointer (some ⟨g,0,none⟩),.agg c.cells.toArray] w (uf (.int .i64 ((s.put c).2:Nat)) B g (s.put c).1 w):=by
 obtain⟨a,cap,b,hx⟩:=h;have HX:=Z' hx;have Yh:=Z' hc;have LH:=Z' ht;obtain⟨L,er⟩:=s;dsimp only at hn;have ZQ:Below w.heap.size w (w.alloc (.cells c.cells.toArray x7)):=yV _ _;have ZM:=Z' ZQ;have Ui:=Z' (heap_alloc_last w (.cells c.cells.toArray x7));have Vp:=Z' (hx.below ZQ);have Fm:g<w.heap.size:=hx.lt;have Nm:b<w.heap.size:=hx.m.lt;obtain⟨C,hC⟩:=Z8 (c);have ZE:=Z' hC;rw[<-hC]at Ui Vp ZM⊢;subst hC;clear hx hc ht ZQ;obtain⟨ct,ca,cb,cn,cs⟩:=C;dsimp only[KV.cells]at Ui Vp ZM⊢;obtain⟨R,hR⟩:∃R,R=(⟨L,er⟩:LW).put ⟨ct,ca,cb,cn,cs⟩:=⟨_,rfl⟩;rw[<-hR];have HR:=Z' hR;clear hR;go_enter func72,ntmps72
 go_upto_region 1 with fail
 generalize w.alloc _=W at*;obtain⟨c0,c1,c2,f0,f1,f2,lt⟩:=Vp.out.k.box;have k0:=y8 Ui.out 0 rfl;have k1:=y8 Ui.out 1 rfl;have k2:=y8 Ui.out 2 rfl;have k3:=y8 Ui.out 3 rfl;have k4:=y8 Ui.out 4 rfl
 have VM:∀n,(Instr.lookup ki (.map (some b)) (.agg #[.int .i64 ct,.int .i64 ca,.int .i64 cb,.int .i64 cn,.string ⟨cs.toArray⟩]) true).run prog (W.drewN n)= .ok (.tuple #[.int .i64 (((vY L ⟨ct,ca,cb,cn,cs⟩).getD 0:Nat):Int),.bool (vY L ⟨ct,ca,cb,cn,cs⟩).isSome]) (W.drewN n):=
  fun n=>(Vp.out.m.below (sw W n)).look Yh.out LH.out
 cases hi:vY L ⟨ct,ca,cb,cn,cs⟩with
 |some i=>
  rw[hi]at VM;dsimp only[Option.getD_some,Option.isSome_some]at VM;have ZS:=Z' (show R=((⟨L,er⟩:LW),i) by rw[HR.out];unfold LW.put;rw[hi]);clear hi
  go_quiet (fail)
  go_wp2_with fail
  go_ret;rw[ZS.out];exact⟨rfl,⟨a,cap,b,Vp.out.below (sw _ _)⟩,yR.of (ZM.out.trans ((sw _ _).mono ZM.out.size))⟩
 |none=>
 rw[hi]at VM;dsimp only[Option.getD_none,Option.isSome_none]at VM;have ZS:=Z' (show R=((⟨xR L ⟨ct,ca,cb,cn,cs⟩,er⟩:LW).need (decide ((xR L ⟨ct,ca,cb,cn,cs⟩).length<=1024)) 9,L.length) by rw[HR.out];unfold LW.put;rw[hi]);have HI:=Z' hi;clear hi
 go_quiet (fail)
 have GN:=sw W nq;have ZT:=Z7 ZM GN;have WG:=Z' (Vp.out.below GN);have Up:=Z' (yW Ui.out GN);clear VM GN c0 c1 c2 f0 f1 f2 lt k0 k1 k2 k3 k4 Vp Ui ZM;generalize W.drewN nq=W2 at*;obtain⟨c0,c1,c2,f0,f1,f2,lt⟩:=WG.out.k.box
 go_upto_region 5 with fail
 obtain⟨W5,BQ,De,Ck⟩:=(WG.out.m.below (Z6.drew)).store Yh.out LH.out HI.out hn;dsimp only[KV.cells]at BQ;have KK:=Z' De;have Tt:=Z' Ck;clear De Ck
 refine tq (wV W2.drew) 6 [(0,true),(1,true),(2,true),(3,true),(4,true),(5,true)] (by kernel_rfl) (by kernel_rfl) (fun c a d v w h=>by cases d<;>exact h) ?_
 have Z3:wV W2.drew W2.drew:=rfl;have l0:∀z,wV W2.drew z->z.cell? ⟨g,1,none⟩=some (.map (some b)):=fun z h=>by rw[h];exact c1
 have l1:∀z,wV W2.drew z->z.cell? ⟨w.heap.size,0,none⟩=some (.int .i64 ct):=fun z h=>by rw[h];exact y8 Up.out 0 rfl
 have l2:∀z,wV W2.drew z->z.cell? ⟨w.heap.size,1,none⟩=some (.int .i64 ca):=fun z h=>by rw[h];exact y8 Up.out 1 rfl
 have l3:∀z,wV W2.drew z->z.cell? ⟨w.heap.size,2,none⟩=some (.int .i64 cb):=fun z h=>by rw[h];exact y8 Up.out 2 rfl
 have l4:∀z,wV W2.drew z->z.cell? ⟨w.heap.size,3,none⟩=some (.int .i64 cn):=fun z h=>by rw[h];exact y8 Up.out 3 rfl
 have l5:∀z,wV W2.drew z->z.cell? ⟨w.heap.size,4,none⟩=some (.string ⟨cs.toArray⟩):=fun z h=>by rw[h];exact y8 Up.out 4 rfl
 iterate 6
  refine xU fun K hK=>tkF ?_
  go_simp
  try go_bits
  refine hK _ _ ?_;clear hK K
 refine tm (laF ?_);go_step;clear l0 l1 l2 l3 l4 l5 Z3
 have Fu:∀k,some b=some k->k<W2.drew.heap.size->B<=k/\¬sd W2.drew.heap[k]? :=fun k e _=>by
  cases e
  exact WG.out.nm
 have XD:=Z' (yR.grown Tt.out Fu);have X9:=Z' (ZT.out.trans (((Below.refl W2.heap.size W2).drew).mono ZT.out.size));have Rk:=Z' ((yR.of ZT.out:yR B w W2).trans ((yR.of (Z6.drew):yR B W2 W2.drew).trans XD.out))
 have Cr:some g≠some b:=fun e=>WG.out.bg (by cases e;rfl)
 have Ls:=Z9 (W5.heap[g]? =some (.cells #[.slice a L.length cap,.map (some b),.int .i64 er] wi)) (by rw[Tt.out.block g WG.out.lt Cr];exact WG.out.k);have U7:=Z9 (W5.ownsRow B x7 5 (.slice a L.length cap) L.length (L.flatMap KV.cells)) (E1x (wE WG.out.o (Z6.drew)) (WG.out.m.below (Z6.drew)).obj Tt.out)
 have C0:some w.heap.size≠some b:=fun e=>by cases e;omega
 have Uy:=Z9 (W5.heap[w.heap.size]? =some (.cells #[.int .i64 ct,.int .i64 ca,.int .i64 cb,.int .i64 cn,.string ⟨cs.toArray⟩] x7)) (by rw[Tt.out.block w.heap.size (yG Up.out) C0];exact Up.out);have X':w.heap.size<W5.heap.size:=Nat.lt_of_lt_of_le (yG Up.out) Tt.out.size;have LE:=Z' (Rk.out.vw HX.out.vw HX.out.B0);have Bt:B<=b:=HX.out.bB;have CX:B<=g:=HX.out.gB;have hgk:=HX.out.bg;clear ZT WG Up XD Tt X9 Fu Cr C0 c0 c1 c2 f0 f1 f2 lt BQ;have Dk:=Z9 (LoY W5 B g L (L++[⟨ct,ca,cb,cn,cs⟩]) er a cap b) (⟨Ls.out,U7.out,KK.out,Bt,CX,HX.out.B0,LE.out⟩);have Df:=fun k (h:(Value.slice a L.length cap).ownBlock=some k)=>(HX.out.o.lt k h).2
 have N1:=Z' Df;clear Ls U7 KK LE Df
 go_wp2_with fail
 go_upto_region 6 with fail
 have PM:=Z' (Rk.out.trans (yR.of ((Below.refl W5.heap.size W5).drew)));have Hp:=Z' (Dk.out.below (Z6.drew));have Z3:SQ g w.heap.size 0 ⟨ct,ca,cb,cn,cs⟩ (.slice a L.length cap) W5.drew:=⟨Uy.out,y8 Hp.out.k 0 rfl⟩;have XR:w.heap.size<W5.drew.heap.size:=X';clear Rk Dk Uy X';have l0:∀z,SQ g w.heap.size 0 ⟨ct,ca,cb,cn,cs⟩ (.slice a L.length cap) z->z.cell? ⟨g,0,none⟩=some (.slice a L.length cap):=fun z h=>h.2
 have l1:∀z,SQ g w.heap.size 0 ⟨ct,ca,cb,cn,cs⟩ (.slice a L.length cap) z->z.cell? ⟨w.heap.size,0,none⟩=some (.int .i64 ct):=fun z h=>y8 h.1 0 rfl
 have l2:∀z,SQ g w.heap.size 0 ⟨ct,ca,cb,cn,cs⟩ (.slice a L.length cap) z->z.cell? ⟨w.heap.size,1,none⟩=some (.int .i64 ca):=fun z h=>y8 h.1 1 rfl
 have l3:∀z,SQ g w.heap.size 0 ⟨ct,ca,cb,cn,cs⟩ (.slice a L.length cap) z->z.cell? ⟨w.heap.size,2,none⟩=some (.int .i64 cb):=fun z h=>y8 h.1 2 rfl
 have l4:∀z,SQ g w.heap.size 0 ⟨ct,ca,cb,cn,cs⟩ (.slice a L.length cap) z->z.cell? ⟨w.heap.size,3,none⟩=some (.int .i64 cn):=fun z h=>y8 h.1 3 rfl
 have l5:∀z,SQ g w.heap.size 0 ⟨ct,ca,cb,cn,cs⟩ (.slice a L.length cap) z->z.cell? ⟨w.heap.size,4,none⟩=some (.string ⟨cs.toArray⟩):=fun z h=>y8 h.1 4 rfl
 refine tq (SQ g w.heap.size 0 ⟨ct,ca,cb,cn,cs⟩ (.slice a L.length cap)) 10 [(0,true),(1,true),(2,true),(3,true),(4,true),(5,true),(6,false),(7,false),(8,true),(9,true)] (by kernel_rfl) (by kernel_rfl) (fun c a d v w h=>by cases d<;>exact h) ?_
 generalize W5.drew=W6 at*
 iterate 6
  refine xU fun K hK=>tkF ?_
  go_simp
  try go_bits
  refine hK _ _ ?_;clear hK K
 refine xU fun K hK=>alF ?_
 go_step;have ZY:Below W6.heap.size W6 (W6.alloc (.cells #[.int .i64 ct,.int .i64 ca,.int .i64 cb,.int .i64 cn,.string ⟨cs.toArray⟩] x7)):=yV _ _;have XQ:SQ g w.heap.size 0 ⟨ct,ca,cb,cn,cs⟩ (.slice a L.length cap) (W6.alloc (.cells #[.int .i64 ct,.int .i64 ca,.int .i64 cb,.int .i64 cn,.string ⟨cs.toArray⟩] x7)):=⟨yW Z3.1 ZY,yF ZY Z3.2⟩;refine⟨XQ,hK _ _ ?_⟩;clear hK K;refine xU fun K hK=>alF ?_
 change Oper.wp _ _ _ _ _ _;refine rP kv (ops:= #[]) rfl _ _ _ rfl B _ L.length _ rfl (Hp.out.o.alloc _) _ 1 _ rfl (Src.litS (m:=1) rfl rfl kv.1) (by omega) (by unfold maxLen;omega) (Nat.le_trans hB (by simp;omega)) ?_;intro v9 w9 Z0 ZA ZK;have ZW:w9.ownsRow B x7 5 v9 (L.length+1) ((L++[(⟨ct,ca,cb,cn,cs⟩:KV)]).flatMap KV.cells):=(by rw[List.flatMap_append];exact Z0);obtain⟨a9,c9,rfl,-,-⟩:=Ss.ofOwn KV.cells_length (by decide) ZW;have YH:=Z' (Hp.out.app ZA ZW)
 have Uy:=Z9 (w9.heap[w.heap.size]? =some (.cells #[.int .i64 ct,.int .i64 ca,.int .i64 cb,.int .i64 cn,.string ⟨cs.toArray⟩] x7)) (by
  rw[ZA.block w.heap.size (Nat.lt_of_lt_of_le XR ZY.size) (fun e=>Nat.lt_irrefl _ (N1.out _ e.symm))];exact XQ.1)
 have ZZ:SQ g w.heap.size 0 ⟨ct,ca,cb,cn,cs⟩ (.slice a L.length cap) w9:=⟨Uy.out,y8 YH.out.2.2 0 rfl⟩;clear Z3 XQ ZY Z0 ZW ZA ZK;have Z3:=ZZ;clear ZZ;refine⟨Z3,hK _ _ ?_⟩;clear hK K
 iterate 2
  refine xU fun K hK=>tkF ?_
  go_simp
  try go_bits
  refine hK _ _ ?_;clear hK K
 have fo:=xQ YH.out.2.2 0;have lto:=yG YH.out.2.2;have co:=y8 YH.out.2.2 0 rfl;refine tm (laF ?_);go_step;have U8:=Z' (wQ Uy.out (show w.heap.size≠g by omega) 0 (.slice a9 (L.length+1) c9));have Q6:=Z' YH.out.1;have K6:=Z' (PM.out.trans YH.out.2.1);clear YH Uy PM Hp l0 l1 l2 l3 l4 l5 Z3 fo lto co XR;generalize w9.setCell ⟨g,0,none⟩ (.slice a9 (L.length+1) c9)=W7 at*;have k0:W7.cell? ⟨w.heap.size,0,none⟩=some (.int .i64 ct):=y8 U8.out 0 rfl;have BE:=Z' (fun(W:World) (L':List KV) (h:LoS W B g ⟨L',er⟩)=>xk W B g ⟨L',er⟩ (decide (L'.length<=1024)) 9 h);by_cases h5:ct=5
 ·have e5:(ct==5)=true:=by rw[h5];rfl
  have HP:=Z' (show xR L ⟨ct,ca,cb,cn,cs⟩=(L++[⟨ct,ca,cb,cn,cs⟩])++[kz] by unfold xR;rw[if_pos h5]);rw[HP.out]at ZS;clear h5
  go_upto_region 8 with fail
  clear k0 e5;obtain⟨c0,c1,c2,f0,f1,f2,lt⟩:=Q6.out.k.box;obtain⟨L1,Hv⟩:=Z8 (L++[(⟨ct,ca,cb,cn,cs⟩:KV)]);have zy:L1.length<=1099511627777:=by rw[Hv];simp;omega
  have Mh:B<=W7.heap.size:=Nat.le_trans CX (Nat.le_of_lt Q6.out.k.box.lt);rw[<-Hv]at c0 ZS;rw[<-Hv]at Q6;clear Hv HP
  go_wp2_with (at_builtin;refine wU kv rfl _ _ rfl B _ L1.length _ rfl Q6.out.o _ 1 _ _ rfl (by simp) rfl rfl (by omega) (by unfold maxLen;omega) Mh ?_;intro v9 w9 Z0 ZA ZK;have ZW:w9.ownsRow B x7 5 v9 (L1.length+1) ((L1++[kz]).flatMap KV.cells):=(by rw[List.flatMap_append];exact Z0);obtain⟨b9,d9,rfl,-,-⟩:=Ss.ofOwn KV.cells_length (by decide) ZW;have YH:=Z' (Q6.out.app ZA ZW);have fo:=xQ YH.out.2.2 0;have lto:=yG YH.out.2.2;have co:=y8 YH.out.2.2 0 rfl;clear Z0 ZW ZA ZK c0 c1 c2 f0 f1 f2 lt)
  have HN:=Z' (BE.out _ (L1++[kz]) ⟨_,_,b,(YH.out.1.kz).x⟩);rw[show decide (((L1.length:Nat):Int)+1<=1024)=decide ((L1++[kz]).length<=1024)from decide_eq_decide.2 (by rw[List.length_append,List.length_singleton];omega)];refine HN.out.mono ?_;rintro e W8 ⟨rfl,R8,Sd⟩;clear fo lto co
  go_wp2_with fail
  go_ret;rw[ZS.out];exact⟨rfl,R8,(K6.out.trans YH.out.2.1).trans Sd⟩
 have e5:(ct==5)=false:=by simpa using h5
 have HP:=Z' (show xR L ⟨ct,ca,cb,cn,cs⟩=L++[⟨ct,ca,cb,cn,cs⟩] by unfold xR;rw[if_neg h5,List.append_nil]);rw[HP.out]at ZS;clear h5;obtain⟨c0,c1,c2,f0,f1,f2,lt⟩:=Q6.out.k.box;have HN:=Z' (BE.out W7 _ ⟨a9,c9,b,Q6.out.x⟩);obtain⟨nl,Wt⟩:∃nl,nl=(L++[(⟨ct,ca,cb,cn,cs⟩:KV)]).length:=⟨_,rfl⟩;have zy:nl<=1099511627777:=by rw[Wt];simp;omega
 obtain⟨bq,Ym⟩:=Z8 (decide (nl<=1024));have hbi:decide ((nl:Int)<=1024)=bq:=by rw[Ym];exact decide_eq_decide.2 (by omega)
 rw[<-Wt]at c0 HN ZS;rw[<-Ym]at HN ZS;clear Wt Ym
 go_wp2_with fail
 refine HN.out.mono ?_;rintro e W8 ⟨rfl,R8,Sd⟩
 go_wp2_with fail
 go_ret;rw[ZS.out];exact⟨rfl,R8,K6.out.trans Sd⟩
end
end Go.Proofs.YtclpkipaehpkdaaGreatDoor
