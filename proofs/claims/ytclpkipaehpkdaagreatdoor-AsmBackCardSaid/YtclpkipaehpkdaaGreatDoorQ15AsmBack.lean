/- asm -/
import Derived.Test.YtclpkipaehpkdaaGreatDoorQ12AsmBack
import Derived.Test.YtclpkipaehpkdaaGreatDoorQ13AsmBack
set_option linter.unusedVariables false
set_option linter.unusedSimpArgs false
set_option maxRecDepth 100000
set_option maxHeartbeats 64000000
open Go.Proofs.Tryz
namespace Go.Proofs.YtclpkipaehpkdaaGreatDoor
section
open Go.ChangeShapes Go.WideShapes Go.ChangeAt Go.RowKit
abbrev yq:=32
def u0:UU:=⟨[],[],none,0,0,[],none,0,0,[]⟩
theorem sN(x:UU):x.cells.toArray.all (·.oneCell')=true:=by
 simp[UU.cells,Value.oneCell']
theorem vD:(prog.info? yq).map (·.size)=some 4:=by kernel_rfl
theorem pp:(prog.info? 52).map (·.size)=some 3:=by kernel_rfl
theorem ny(x:UF):x.cells.toArray.all (·.oneCell')=true:=by
 simp[UF.cells,Value.oneCell']
theorem UU.Own.keepP{u:UU}{q:Nat->Prop}{w w':World}{B:Nat}(h:u.Own w B)(k:yZ q w w')(hq:∀x,q x->x<B\/w.heap.size<=x):u.Own w' B:=⟨tY h.fields k hq,tY h.methods k hq,fun p hp=>(h.each p hp).keepP k hq⟩
theorem UU.Own.mono{u:UU}{w:World}{B B':Nat}(h:u.Own w B)(hB:B'<=B):u.Own w B':=⟨wg h.fields hB,wg h.methods hB,fun m hm=>(h.each m hm).mono hB⟩
theorem UU.Own.fields1{x:UU}{w w9:World}{B:Nat}{v:Option Addr}{c:Nat}{i:UF}(h:x.Own w B)(ht:yd 52 w w9)(ho:w9.ownsRow B 52 3 (.slice v (x.fn+1) c) (x.fn+1) ((x.fields++[i]).flatMap UF.cells)):UU.Own {x with fa:=v,fn:=x.fn+1,fc:=c,fields:=x.fields++[i]} w9 B:=
 ⟨ho,xA h.methods ht (by decide),fun p hp=>(h.each p hp).keptT ht (by decide) (by decide) (by decide) (by decide)⟩
theorem UU.Own.methods1{x:UU}{w w9:World}{B:Nat}{v:Option Addr}{c:Nat}{i:UM}(h:x.Own w B)(ht:yd yT w w9)(ho:w9.ownsRow B yT 8 (.slice v (x.mn+1) c) (x.mn+1) ((x.methods++[i]).flatMap UM.cells))(hi:i.Own w9 B):UU.Own {x with ma:=v,mn:=x.mn+1,mc:=c,methods:=x.methods++[i]} w9 B:=
 ⟨xA h.fields ht (by decide),ho,fun p hp=>by
  rcases List.mem_append.1 hp with hp|hp
  ·exact(h.each p hp).keptT ht (by decide) (by decide) (by decide) (by decide)
  obtain rfl:p=i:=by simpa using hp
  exact hi⟩
theorem UU.p_fields1{x X:UU}(h:x.p=X)(v:Option Addr)(n c:Nat)(i:UF):UU.p {x with fa:=v,fn:=n,fc:=c,fields:=x.fields++[i]}={X with fields:=X.fields++[i]}:=by
 subst h;rfl
theorem UU.p_methods1{x X:UU}(h:x.p=X)(v:Option Addr)(n c:Nat)(i:UM):UU.p {x with ma:=v,mn:=n,mc:=c,methods:=x.methods++[i]}={X with methods:=X.methods++[i.p]}:=by
 subst h;simp[UU.p]
structure uD(W w:World)(g go:Nat)(a:Option Addr)(n cap:Nat)(K:List KV)(er:Int)(x:UU):Prop where
 l:LfS w g a n cap K er
 k:yZ (GG g go) W w
 o:w.heap[go]? =some (.cells x.cells.toArray yq (0,0))
 w:x.Own w W.heap.size
section
variable {W w w9:World} {g go:Nat} {a:Option Addr} {n cap:Nat} {K:List KV} {er er':Int} {x:UU}
theorem uD.below(h:uD W w g go a n cap K er x)(hb:Below w.heap.size w w9):uD W w9 g go a n cap K er x:=
 ⟨h.l.below hb,h.k.trans (yZ.of hb),yW h.o hb,h.w.keepP (yZ.of (p:=fun _=>False) hb) (fun _ hx=>hx.elim)⟩
theorem uD.call(h:uD W w g go a n cap K er x)(hl:LfS w9 g a n cap K er')(hk:yZ (fun k=>k=g) w w9)(hg:g<W.heap.size)(ZF:go≠g):uD W w9 g go a n cap K er' x:=
 ⟨hl,h.k.trans (hk.weak fun _ _ e=> .inl e),hk.row h.o ZF,h.w.keepP hk (fun y hy=> .inl (by rw[hy];exact hg))⟩
theorem uD.new(h:uD W w g go a n cap K er x)(hl:LfS w9 g a n cap K er')(hk:yZ (fun k=>k=g\/w.heap.size<=k) w w9)(hg:g<W.heap.size)(ZF:go≠g):uD W w9 g go a n cap K er' x:=
 ⟨hl,h.k.trans (hk.weak fun k hk e=>by rcases e with e|e;exact .inl e;have:=h.k.size;omega),hk.row h.o (fun e=>by rcases e with e|e;exact ZF e;have:=yG h.o;omega),h.w.keepP hk (fun y hy=>by rcases hy with hy|hy;exact .inl (by rw[hy];exact hg);exact .inr hy)⟩
theorem _root_.Go.Proofs.YtclpkipaehpkdaaGreatDoor.LfS.appU{e:TypeId}{x':UU}(h0:LfS W g a n cap K er')(h:uD W w g go a n cap K er x)(hB:yZ (fun k=>W.heap.size<=k) w w9)(ht:yd e w w9)(hw:x'.Own w9 W.heap.size)(WX:go<W.heap.size)(ZF:go≠g)(PN:0<go)(QD:wX a n go)(P7:yq≠e:=by decide):
  yZ (GG g go) W w9/\w9.heap[go]? =some (.cells x.cells.toArray yq (0,0))/\∀(o:Nat) (v:Value),x'.cells.toArray=x.cells.toArray.setIfInBounds o v->uD W (w9.setCell ⟨go,o,none⟩ v) g go a n cap K er x':=by
 have LC:LfS w9 g a n cap K er:=h0.newer h.l Z5 hB;have ZU:yZ (GG g go) W w9:=h.k.new hB;have P8:=ht.2 _ _ _ _ h.o P7;refine⟨ZU,P8,fun o v hc=> ?_⟩;have hs:yZ (fun k=>k=go) w9 (w9.setCell ⟨go,o,none⟩ v):=yZ.set (yZ.refl (fun k=>k=go) w9) (.inl rfl) o v;refine⟨LC.keep hs (fun e=>ZF e.symm) (fun e=>by omega) (fun hn b off e e2=>QD hn b off e e2),ZU.trans (hs.weak fun _ _ e=> .inr e),?_,hw.keepP hs (fun y hy=> .inl (by rw[hy];exact WX))⟩;have:=wZ P8 o v;rw[hc];exact this
end
def vt(K:List KV)(d:KD):UF:=⟨decide (d.fl=8),yN K d.nm,yN K d.ds⟩
def ve(K:List KV)(d:KD):Bool:=yk (yN K d.nm)&&typeB (yN K d.ds)
def ue(f:KF):UU:=⟨(yQ f.pool f.th).1,if f.su=0 then []else(yQ f.pool f.su).1,none,0,0,f.fields.map (vt f.pool),none,0,0,f.methods.map (vC f.pool)⟩
def vK(f:KF):Bool:=xn f&&(aclsB f.pool f.th false&&((decide (f.su=0)||aclsB f.pool f.su false)&&(f.fields.all (ve f.pool)&&f.methods.all (vL f.pool))))
def E2e(f:KF)(w:World)(e:Ending)(w':World):Prop:=∃(u:UU) (er:Int),e= .returned (.tuple #[.agg u.cells.toArray,.int .i64 er])/\(er=0↔vK f=true)/\(er=0->u.p=ue f)/\(er≠0->u=u0)/\(xn f=false->er=8)/\u.Own w' w.heap.size/\Below w.heap.size w w'
theorem nr{f:KF}{w:World}(h:xn f=true)(hr:f.Rd w):f.fn<=64/\f.mn<=64/\∀m∈f.methods,xF f.pool m=true:=by
 unfold xn at h;simp only[Bool.and_eq_true,List.all_eq_true,decide_eq_true_iff]at h;have l1:=hr.fields.1;have l2:=hr.methods.1;refine⟨?_,?_,?_⟩
 ·omega
 ·omega
 exact h.2
def Q18(go gm:Nat)(m:KM)(v:Value)(w:World):Prop:=w.heap[gm]? =some (.cells m.cells.toArray 65 (0,0))/\w.cell? ⟨go,3,none⟩=some v
def QE(g:Nat)(er:Int)(w:World):Prop:=w.cell? ⟨g,1,none⟩=some (.int .i64 er)
def QF(gd:Nat)(d:KD)(wx:World):Prop:=wx.heap[gd]? =some (.cells d.cells.toArray 75 (0,0))
theorem eA(w:World)(B:Nat):u0.Own w B:=⟨World.ownsRow_nil _ _ _ _,World.ownsRow_nil _ _ _ _,fun p hp=>by cases hp⟩
theorem mP(w:World)(f:KF)(h:f.Rd w)(XU:f.Fit)(hv:VW w)(Zb:∀i:Int,(kAt f.pool i).s.length<=65536):
  Calls prog 10 #[.agg #[.slice f.pa f.pn f.pc,.int .i64 f.th,.int .i64 f.su,.slice f.fa f.fn f.fc,.slice f.ma f.mn f.mc]] w (E2e f w):=by
 have HR:=Z' h;have JA:=Z' XU;have HV:=Z' hv;have Yn:=Z' Zb;have UG:Below w.heap.size w ((w.alloc (.cells #[.slice f.pa f.pn f.pc,.int .i64 f.th,.int .i64 f.su,.slice f.fa f.fn f.fc,.slice f.ma f.mn f.mc] 26)).alloc (.cells #[.string ⟨#[]⟩,.string ⟨#[]⟩,.slice none 0 0,.slice none 0 0] yq)):=((Below.refl w.heap.size w).alloc Z5 _).alloc (by simp) _;have HB:=Z' UG
 have HF:=Z' (show((w.alloc (.cells #[.slice f.pa f.pn f.pc,.int .i64 f.th,.int .i64 f.su,.slice f.fa f.fn f.fc,.slice f.ma f.mn f.mc] 26)).alloc (.cells #[.string ⟨#[]⟩,.string ⟨#[]⟩,.slice none 0 0,.slice none 0 0] yq)).heap[w.heap.size]? =some (.cells f.cells.toArray 26 (0,0)) by
  rw[Below.heap_alloc _ _ _ (by simp)];exact heap_alloc_last w _)
 have HZ:=Z' (show((w.alloc (.cells #[.slice f.pa f.pn f.pc,.int .i64 f.th,.int .i64 f.su,.slice f.fa f.fn f.fc,.slice f.ma f.mn f.mc] 26)).alloc (.cells #[.string ⟨#[]⟩,.string ⟨#[]⟩,.slice none 0 0,.slice none 0 0] yq)).heap[w.heap.size+1]? =some (.cells #[.string ⟨#[]⟩,.string ⟨#[]⟩,.slice none 0 0,.slice none 0 0] yq) by
  have:=heap_alloc_last (w.alloc (.cells #[.slice f.pa f.pn f.pc,.int .i64 f.th,.int .i64 f.su,.slice f.fa f.fn f.fc,.slice f.ma f.mn f.mc] 26)) (.cells #[.string ⟨#[]⟩,.string ⟨#[]⟩,.slice none 0 0,.slice none 0 0] yq);simpa using this)
 have YS:=Z' (show((w.alloc (.cells #[.slice f.pa f.pn f.pc,.int .i64 f.th,.int .i64 f.su,.slice f.fa f.fn f.fc,.slice f.ma f.mn f.mc] 26)).alloc (.cells #[.string ⟨#[]⟩,.string ⟨#[]⟩,.slice none 0 0,.slice none 0 0] yq)).heap.size=w.heap.size+2 by simp);have BT:=Z9 (w.heap.size=w.heap.size) rfl;clear h XU hv Zb UG;go_enter func10,ntmps10
 go_upto_region 1 with fail
 generalize((w.alloc (.cells #[.slice f.pa f.pn f.pc,.int .i64 f.th,.int .i64 f.su,.slice f.fa f.fn f.fc,.slice f.ma f.mn f.mc] 26)).alloc (.cells #[.string ⟨#[]⟩,.string ⟨#[]⟩,.slice none 0 0,.slice none 0 0] yq))=W0 at*;have Tw:=Z' (jg W0 f (HR.out.below HB.out) JA.out);have c0:=y8 HF.out 0 rfl;have c1:=y8 HF.out 1 rfl;have c2:=y8 HF.out 2 rfl;have c3:=y8 HF.out 3 rfl;have c4:=y8 HF.out 4 rfl;dsimp only[KF.cells]at c0 c1 c2 c3 c4;unfold pi at Tw;obtain⟨ck,VV⟩:=Z8 (xn f);rw[<-VV]at Tw;have Yh:=Z' VV;clear VV
 go_wp2_with fail
 refine Tw.out.mono ?_;rintro e w2 ⟨rfl,ZN⟩;have Y6:=Z' (yW HF.out ZN);have Su:=Z9 (w2.heap[w.heap.size+1]? =some (.cells u0.cells.toArray yq (0,0))) (yW HZ.out ZN);have ZT:=Z7 HB ZN;clear ZN HF HZ HB Tw c0 c1 c2 c3 c4
 cases ck
 ·have Wz:=Z' (show vK f=false by unfold vK;rw[<-Yh.out];rfl)
  go_wp2_with (refine wpList_store_row rfl _ _ _ rfl _ u0.cells.toArray rfl rfl _ _ Su.out vD rfl (sN _) ?_)
  refine bodyPost_ret (x8 rfl _ _ (w.heap.size+1) yq u0.cells.toArray (0,0) _ rfl (setRow_heap _ _ _ _ _ _ Su.out) underlying32 rfl vD) rfl ?_;have Qt:yZ (fun k=>k=w.heap.size+1) w2 (w2.setRow (w.heap.size+1) u0.cells.toArray):=yZ.setrow (yZ.refl (fun k=>k=w.heap.size+1) _) (.inl rfl) _;exact⟨u0,8,rfl,by rw[Wz.out];simp,fun e=>by simp at e,fun _=>rfl,fun _=>rfl,eA _ _,Qt.below ZT.out Z5 (fun k hk=>by omega)⟩
 have c0:=y8 Y6.out 0 rfl;dsimp only[KF.cells]at c0;have Xe:w.heap.size+2<=w2.heap.size:=by have:=yG Su.out;omega
 go_upto_region 5 with fail
 have Zn:Below w2.heap.size w2 (w2.alloc (.cells #[.slice f.pa f.pn f.pc,.int .i64 0] 72)):=yV _ _;have Q1:=Z' (yW Y6.out Zn);have Uh:=Z' (yW Su.out Zn);have ZG:=Z7 ZT Zn
 have YU:=Z9 (LfS (w2.alloc (.cells #[.slice f.pa f.pn f.pc,.int .i64 0] 72)) w2.heap.size f.pa f.pn f.pc f.pool 0) (
  ⟨heap_alloc_last w2 _,HR.out.pool.below ZG.out,JA.out.pn,HR.out.pool.offold ZT.out.size,Yn.out,HV.out.below ZG.out,by omega⟩)
 have Cf:=Z' ZT.out.size;clear Zn Y6 Su ZT c0;generalize w2.alloc _=w3 at*;generalize w2.heap.size=g at*;have c1:=y8 Q1.out 1 rfl;dsimp only[KF.cells]at c1;have Y4:=Z' (qD w3 g f.pa f.pn f.pc f.pool 0 f.th false YU.out);obtain⟨CN,F3⟩:∃CN,CN=(yQ f.pool f.th).1:=⟨_,rfl⟩;rw[<-F3]at Y4;have Wz:=Z' F3;clear F3
 go_wp2_with fail
 refine Y4.out.mono ?_;rintro e w4 ⟨rfl,hl,hk⟩;have zq:=Z' (wh (er:=0) (ok:=aclsB f.pool f.th false) (show(8:Int)≠0 by decide));generalize yj 0 (aclsB f.pool f.th false) 8=er4 at*;have Wk:=Z' hl;have G4:=Z' (hk.row Q1.out (by omega));have T4:=Z' (hk.row Uh.out (by omega));have YY:=Z' (hk.below ZG.out Z5 (fun k e=>by have:=Cf.out;omega));clear hl hk YU Q1 Uh ZG Y4 c1
 go_upto_region 6 with fail
 have Yi:Below w4.heap.size w4 (w4.alloc (.cells #[.string ⟨CN.toArray⟩,.string ⟨#[]⟩,.slice none 0 0,.slice none 0 0] yq)):=yV _ _;have Db:=Z' (yW G4.out Yi);have zv:=Z' (yW T4.out Yi);have X9:=Z7 YY Yi;have VN:=Z' (Wk.out.below Yi);have NL:=Z9 ((w4.alloc (.cells #[.string ⟨CN.toArray⟩,.string ⟨#[]⟩,.slice none 0 0,.slice none 0 0] yq)).heap[w4.heap.size]? =some (.cells (UU.cells ⟨CN,[],none,0,0,[],none,0,0,[]⟩).toArray yq (0,0))) (heap_alloc_last w4 _);have Xd:g<w4.heap.size:=Wk.out.lt;have Fh:=Z' YY.out.size;clear Yi G4 T4 YY Wk;generalize w4.alloc _=W at*;generalize w4.heap.size=go at*;have M8:go<W.heap.size:=yG NL.out;have R2:g<W.heap.size:=VN.out.lt;have hgfg:w.heap.size+1<g:=by omega
 have R7:=Z9 (wX f.pa f.pn go) (HR.out.pool.offold Fh.out)
 have Ri:=Z9 (uD W W g go f.pa f.pn f.pc f.pool er4 ⟨CN,[],none,0,0,[],none,0,0,[]⟩) (⟨VN.out,yZ.refl _ _,NL.out,⟨World.ownsRow_nil _ _ _ _,World.ownsRow_nil _ _ _ _,fun p hp=>by cases hp⟩⟩)
 have Dw:∀wx,yZ (GG g go) W wx->wx.heap[w.heap.size]? =some (.cells f.cells.toArray 26 (0,0)):=fun wx hk=>hk.row Db.out (fun e=>by rcases e with e|e<;>omega)
 have P1:=Z' Dw
 have DC:∀wx,yZ (GG g go) W wx->wx.heap[w.heap.size+1]? =some (.cells u0.cells.toArray yq (0,0)):=fun wx hk=>hk.row zv.out (fun e=>by rcases e with e|e<;>omega)
 have YC:=Z' DC
 have Cs:∀wx,yZ (GG g go) W wx->Below w.heap.size w wx:=fun wx hk=>hk.below X9.out Z5 (fun k e=>by rcases e with e|e<;>omega)
 have Xj:=Z' Cs;clear Dw DC Cs NL;have c2:=y8 Db.out 2 rfl;dsimp only[KF.cells]at c2
 go_upto_if 29 with fail
 go_cut [] (fun wx=>∃(Vh:Int) (SN:List UInt8),Hid (Vh=0↔er4=0/\(decide (f.su=0)||aclsB f.pool f.su false)=true)/\Hid (SN=if f.su=0 then []else(yQ f.pool f.su).1)/\Hid (uD W wx g go f.pa f.pn f.pc f.pool Vh ⟨CN,SN,none,0,0,[],none,0,0,[]⟩))
 case first=>
  by_cases h0:f.su=0
  ·have e0:(f.su !=0)=false:=by simp[h0]
   have HH:=Z' h0;clear h0
   go_wp2_with fail
   go_meet;exact⟨er4,[],Z' (by simp[HH.out]),Z' (by simp[HH.out]),Ri⟩
  have e0:(f.su !=0)=true:=by simp[h0]
  have HH:=Z' h0;clear h0;have Y4:=Z' (qD W g f.pa f.pn f.pc f.pool er4 f.su false VN.out)
  go_wp2_with fail
  refine Y4.out.mono ?_;rintro e w8 ⟨rfl,hl,hk⟩;have ZB:=Z' (Ri.out.call hl hk R2 (by omega));clear hl hk Y4 Ri;have f1:=xQ ZB.out.o 1;have z1:=y8 ZB.out.o 1 rfl;have lz:=yG ZB.out.o;dsimp only[UU.cells]at z1;obtain⟨SN,F9⟩:∃SN,SN=(yQ f.pool f.su).1:=⟨_,rfl⟩;rw[<-F9];have Ze:=Z' F9;clear F9
  go_wp2_with fail
  go_meet
  exact⟨_,SN,Z' (by rw[wh (by decide)];simp[HH.out]),Z' (by simp[HH.out,Ze.out]),Z' ((VN.out.appU (x':=⟨CN,SN,none,0,0,[],none,0,0,[]⟩) ZB.out (yZ.refl _ _) (yd.refl (e:=52) _) ⟨World.ownsRow_nil _ _ _ _,World.ownsRow_nil _ _ _ _,fun p hp=>by cases hp⟩ M8 (by omega) (by omega) R7.out).2.2 1 _ rfl)⟩
 clear Ri c2;obtain⟨Vh,SN,T5,Ze,Yb⟩:=hcut;have Lt:=nr Yh.out.symm HR.out;have Ac:=Z' Lt.1;have AB:=Z' Lt.2.1;have Mj:=Z' Lt.2.2;clear Lt;have c3:=y8 (P1.out wc Yb.out.k) 3 rfl;dsimp only[KF.cells]at c3
 go_wp2_with fail
 go_loopg [38] f.fn (fun gn i wr=>∃(j:Nat) (UW:Int) (x:UU),j<=f.fn/\gn=f.fn-j/\i= .int .i64 j/\Hid (UW=0↔Vh=0/\(f.fields.take j).all (ve f.pool)=true)/\Hid (x.p=⟨CN,SN,none,0,0,(f.fields.take j).map (vt f.pool),none,0,0,[]⟩)/\Hid (uD W wr g go f.pa f.pn f.pc f.pool UW x))
 case atStart=>exact⟨0,Vh,_,by omega,by omega,by go_num,Z' (by simp),Z' rfl,Yb⟩
 clear Yb c3;obtain⟨j,UW,x,hj,rfl,rfl,Ni,Kz,Zc⟩:=hrel;by_cases ZX:j<f.fn
 ·have WH:x.fields.length=j:=by
   have h1:=congrArg (fun u=>u.fields.length) Kz.out;have h2:=HR.out.fields.1;simp only[UU.p,List.length_map,List.length_take]at h1;omega
  have Yf:x.fn=j:=by
   obtain⟨a9,c9,e9,h9,_⟩:=Ss.ofOwn UF.cells_length (by decide) Zc.out.w.fields
   cases e9
   rw[<-WH];exact h9.1.symm
  have Ft:=Z' Yf;have HS:=Z' (HR.out.below (Xj.out wr Zc.out.k)).fields;have XZ:(j:Int)<f.fn:=by omega
  have hfn:f.fn<=64:=Ac.out;obtain⟨bq,off,d,Ym,Zu,hs,q⟩:=HS.out.getC j ZX;have q0:=q 0 (by omega);have q1:=q 1 (by omega);have q2:=q 2 (by omega);rw[Nat.add_zero]at q0;simp only[KD.cells,List.getElem?_cons_zero,List.getElem?_cons_succ]at q0 q1 q2
  have YW:=Z' (show f.fields.take (j+1)=f.fields.take j++[d] by
   have YP:=(Z4 hs).1;rw[List.take_succ_eq_append_getElem YP,(Z4 hs).2])
  clear hs q ZX HS WH Yf
  go_upto_region 11 with fail
  have Xr:Below wr.heap.size wr (wr.alloc (.cells #[.int .i64 d.fl,.int .i64 d.nm,.int .i64 d.ds] 75)):=yV _ _;have YB:=Z' (Zc.out.below Xr);have VJ:=Z9 ((wr.alloc (.cells #[.int .i64 d.fl,.int .i64 d.nm,.int .i64 d.ds] 75)).heap[wr.heap.size]? =some (.cells d.cells.toArray 75 (0,0))) (heap_alloc_last wr (.cells #[.int .i64 d.fl,.int .i64 d.nm,.int .i64 d.ds] 75));have hggd:g<wr.heap.size:=Zc.out.l.lt;clear Xr Zc q0 q1 q2 Ym Zu;generalize wr.alloc _=w7 at*;generalize wr.heap.size=gd at*;obtain⟨sb,SW⟩:=Z8 (decide (d.fl=8));have esb:(d.fl==8)=sb:=by rw[SW,Bool.eq_iff_iff,beq_iff_eq,decide_eq_true_iff]
  obtain⟨NM,Uv⟩:=Z8 (yN f.pool d.nm);obtain⟨DS,Tj⟩:=Z8 (yN f.pool d.ds);have Y3:=Z' (fun(V:World) (hV:LfS V g f.pa f.pn f.pc f.pool UW)=>qw V g f.pa f.pn f.pc f.pool UW d.nm hV);have Y':=Z' (fun(V:World) (hV:LfS V g f.pa f.pn f.pc f.pool UW)=>qw V g f.pa f.pn f.pc f.pool UW d.ds hV);rw[<-Uv]at Y3;rw[<-Tj]at Y';have Vc:=Z' (show NM.length<=65536 by rw[Uv];exact ua Yn.out _);have Pb:=Z' (show DS.length<=65536 by rw[Tj];exact ua Yn.out _);have KA:=Z' (show vt f.pool d=⟨sb,NM,DS⟩ by rw[SW,Uv,Tj];rfl);have Ma:=Z' (show ve f.pool d=(yk NM&&typeB DS) by rw[Uv,Tj];rfl);clear SW Uv Tj
  go_cut [9] (fun s9 wx=>∃(gx:Nat),s9= .pointer (some ⟨gx,0,none⟩)/\w7.heap.size<=gx/\Hid (LfS wx g f.pa f.pn f.pc f.pool UW)/\Hid (yZ (fun k=>k=g\/w7.heap.size<=k) w7 wx)/\Hid (wx.heap[gx]? =some (.cells (UF.cells ⟨sb,NM,DS⟩).toArray 52 (0,0))))
  case first=>
   have Uz:=Z' (YB.out.l.below ((Below.refl w7.heap.size w7).drew));have YX:=Z9 (yZ (fun k=>k=g\/w7.heap.size<=k) w7 w7.drew) (yZ.of ((Below.refl w7.heap.size w7).drew));have Z3:QF gd d w7.drew:=VJ.out;have l0:=fun z (h:QF gd d z)=>y8 h 0 rfl
   have l1:=fun z (h:QF gd d z)=>y8 h 1 rfl
   have l2:=fun z (h:QF gd d z)=>y8 h 2 rfl
   dsimp only[KD.cells]at l0 l1 l2
   refine ye (QF gd d) (.of [(0,true),(1,true),(2,true),(3,true),(4,true),(5,true),(7,true),(8,true),(9,true)] (.fork 6 (.fork 10 (.of [(11,true),(12,false),(13,false)] (.stir [])) 12 (.of [(10,false),(11,true),(13,false)] (.stir []))) 12 (.of [(6,false),(10,false),(11,true),(13,false)] (.stir [])))) (by kernel_rfl) (by kernel_rfl) (fun c a d v w h=>by cases d<;>exact h) ?_
   obtain⟨V0,N6⟩:∃V,V=w7.drew:=⟨_,rfl⟩;rw[<-N6]at Uz YX Z3⊢;clear N6
   iterate 9
    refine yY fun K hK=>tkF ?_
    go_simp
    try go_bits
    refine hK _ _ ?_;clear hK K
   refine uR ?_ ?_
   ·intro K hK;refine alF ?_;go_step;refine(Y3.out V0 Uz.out).mono ?_;rintro e V9 ⟨rfl,Ue⟩;replace Ue:=Ue.symm;subst Ue;go_simp
    first|refine⟨Z3,hK _ _ ?_⟩|refine hK _ _ ?_
    clear hK K;refine uR ?_ ?_
    ·intro K hK;refine alF ?_;go_step;refine(Y'.out V0 Uz.out).mono ?_;rintro e V9 ⟨rfl,Ue⟩;replace Ue:=Ue.symm;subst Ue;go_simp
     first|refine⟨Z3,hK _ _ ?_⟩|refine hK _ _ ?_
     clear hK K
     iterate 1
      refine yY fun K hK=>tkF ?_
      go_simp
      try go_bits
      refine hK _ _ ?_;clear hK K
     refine yY fun K hK=>alF ?_
     go_step;have ZY:Below V0.heap.size V0 (V0.alloc (.cells #[.bool false,.string ⟨#[]⟩,.string ⟨#[]⟩] 52)):=yV _ _;have ZZ:QF gd d (V0.alloc (.cells #[.bool false,.string ⟨#[]⟩,.string ⟨#[]⟩] 52)):=yW Z3 ZY;refine⟨ZZ,hK _ _ ?_⟩;clear hK K Z3;have Z3:=ZZ;have XA:=Z' (Uz.out.below ZY);have Za:=Z' (YX.out.trans (yZ.of ZY));have Uw:=Z9 ((V0.alloc (.cells #[.bool false,.string ⟨#[]⟩,.string ⟨#[]⟩] 52)).heap[V0.heap.size]? =some (.cells (UF.cells ⟨false,[],[]⟩).toArray 52 (0,0))) (heap_alloc_last V0 (.cells #[.bool false,.string ⟨#[]⟩,.string ⟨#[]⟩] 52));have Yu:w7.heap.size<=V0.heap.size:=YX.out.size;have Nq:g<V0.heap.size:=Uz.out.lt;clear ZZ ZY Uz YX;generalize V0.alloc _=V1 at*;generalize V0.heap.size=gx at*;refine yY fun K hK=>alF ?_
     refine wp_store_row 52 _ _ rfl gx (UF.cells ⟨sb,NM,DS⟩).toArray rfl rfl 52 (UF.cells ⟨false,[],[]⟩).toArray Uw.out pp rfl (ny _) ?_;have QC:W.heap.size<=gx:=Nat.le_trans YB.out.k.size Yu;have Wh:=Z' (VN.out.newer XA.out Z5 ((yZ.refl _ _).setrow (.inl QC) (UF.cells ⟨sb,NM,DS⟩).toArray));have Wv:=Z' (Za.out.setrow (.inl (.inr Yu)) (UF.cells ⟨sb,NM,DS⟩).toArray);have Vu:=Z' (setRow_heap V1 gx _ (UF.cells ⟨sb,NM,DS⟩).toArray _ _ Uw.out);have Kw:gd<w7.heap.size:=yG VJ.out;have ZZ:QF gd d (V1.setRow gx (UF.cells ⟨sb,NM,DS⟩).toArray):=Wv.out.row VJ.out (by omega);refine⟨ZZ,hK _ _ ?_⟩;clear hK K XA Za Uw Z3;refine yA (wV (V1.setRow gx (UF.cells ⟨sb,NM,DS⟩).toArray)) (fun y hy=>by obtain rfl:y=V1.setRow gx (UF.cells ⟨sb,NM,DS⟩).toArray:=hy;exact ZZ) rfl ?_;refine yE (fun y hy=> ?_);obtain rfl:y=V1.setRow gx (UF.cells ⟨sb,NM,DS⟩).toArray:=hy;clear ZZ
     go_wp2_with fail
     go_meet;exact⟨gx,rfl,Yu,Wh,Wv,Vu⟩
    intro K hK;refine alF ?_;go_step;have ZY:Below V0.heap.size V0 (V0.alloc (.cells #[.bool false,.string ⟨#[]⟩,.string ⟨#[]⟩] 52)):=yV _ _;have ZZ:QF gd d (V0.alloc (.cells #[.bool false,.string ⟨#[]⟩,.string ⟨#[]⟩] 52)):=yW Z3 ZY;refine⟨ZZ,hK _ _ ?_⟩;clear hK K Z3;have Z3:=ZZ;have XA:=Z' (Uz.out.below ZY);have Za:=Z' (YX.out.trans (yZ.of ZY));have Uw:=Z9 ((V0.alloc (.cells #[.bool false,.string ⟨#[]⟩,.string ⟨#[]⟩] 52)).heap[V0.heap.size]? =some (.cells (UF.cells ⟨false,[],[]⟩).toArray 52 (0,0))) (heap_alloc_last V0 (.cells #[.bool false,.string ⟨#[]⟩,.string ⟨#[]⟩] 52));have Yu:w7.heap.size<=V0.heap.size:=YX.out.size;have Nq:g<V0.heap.size:=Uz.out.lt;clear ZZ ZY Uz YX;generalize V0.alloc _=V1 at*;generalize V0.heap.size=gx at*;refine yY fun K hK=>alF ?_
    go_step;refine(Y'.out V1 XA.out).mono ?_;rintro e V9 ⟨rfl,Ue⟩;replace Ue:=Ue.symm;subst Ue;go_simp
    first|refine⟨Z3,hK _ _ ?_⟩|refine hK _ _ ?_
    clear hK K
    iterate 1
     refine yY fun K hK=>tkF ?_
     go_simp
     try go_bits
     refine hK _ _ ?_;clear hK K
    refine yY fun K hK=>alF ?_
    refine wp_store_row 52 _ _ rfl gx (UF.cells ⟨sb,NM,DS⟩).toArray rfl rfl 52 (UF.cells ⟨false,[],[]⟩).toArray Uw.out pp rfl (ny _) ?_;have QC:W.heap.size<=gx:=Nat.le_trans YB.out.k.size Yu;have Wh:=Z' (VN.out.newer XA.out Z5 ((yZ.refl _ _).setrow (.inl QC) (UF.cells ⟨sb,NM,DS⟩).toArray));have Wv:=Z' (Za.out.setrow (.inl (.inr Yu)) (UF.cells ⟨sb,NM,DS⟩).toArray);have Vu:=Z' (setRow_heap V1 gx _ (UF.cells ⟨sb,NM,DS⟩).toArray _ _ Uw.out);have Kw:gd<w7.heap.size:=yG VJ.out;have ZZ:QF gd d (V1.setRow gx (UF.cells ⟨sb,NM,DS⟩).toArray):=Wv.out.row VJ.out (by omega);refine⟨ZZ,hK _ _ ?_⟩;clear hK K XA Za Uw Z3;refine yA (wV (V1.setRow gx (UF.cells ⟨sb,NM,DS⟩).toArray)) (fun y hy=>by obtain rfl:y=V1.setRow gx (UF.cells ⟨sb,NM,DS⟩).toArray:=hy;exact ZZ) rfl ?_;refine yE (fun y hy=> ?_);obtain rfl:y=V1.setRow gx (UF.cells ⟨sb,NM,DS⟩).toArray:=hy;clear ZZ
    go_wp2_with fail
    go_meet;exact⟨gx,rfl,Yu,Wh,Wv,Vu⟩
   intro K hK;refine alF ?_;go_step;have ZY:Below V0.heap.size V0 (V0.alloc (.cells #[.bool false,.string ⟨#[]⟩,.string ⟨#[]⟩] 52)):=yV _ _;have ZZ:QF gd d (V0.alloc (.cells #[.bool false,.string ⟨#[]⟩,.string ⟨#[]⟩] 52)):=yW Z3 ZY;refine⟨ZZ,hK _ _ ?_⟩;clear hK K Z3;have Z3:=ZZ;have XA:=Z' (Uz.out.below ZY);have Za:=Z' (YX.out.trans (yZ.of ZY));have Uw:=Z9 ((V0.alloc (.cells #[.bool false,.string ⟨#[]⟩,.string ⟨#[]⟩] 52)).heap[V0.heap.size]? =some (.cells (UF.cells ⟨false,[],[]⟩).toArray 52 (0,0))) (heap_alloc_last V0 (.cells #[.bool false,.string ⟨#[]⟩,.string ⟨#[]⟩] 52));have Yu:w7.heap.size<=V0.heap.size:=YX.out.size;have Nq:g<V0.heap.size:=Uz.out.lt;clear ZZ ZY Uz YX;generalize V0.alloc _=V1 at*;generalize V0.heap.size=gx at*;refine yY fun K hK=>alF ?_
   go_step;refine(Y3.out V1 XA.out).mono ?_;rintro e V9 ⟨rfl,Ue⟩;replace Ue:=Ue.symm;subst Ue;go_simp
   first|refine⟨Z3,hK _ _ ?_⟩|refine hK _ _ ?_
   clear hK K;refine yY fun K hK=>alF ?_
   go_step;refine(Y'.out V1 XA.out).mono ?_;rintro e V9 ⟨rfl,Ue⟩;replace Ue:=Ue.symm;subst Ue;go_simp
   first|refine⟨Z3,hK _ _ ?_⟩|refine hK _ _ ?_
   clear hK K
   iterate 1
    refine yY fun K hK=>tkF ?_
    go_simp
    try go_bits
    refine hK _ _ ?_;clear hK K
   refine yY fun K hK=>alF ?_
   refine wp_store_row 52 _ _ rfl gx (UF.cells ⟨sb,NM,DS⟩).toArray rfl rfl 52 (UF.cells ⟨false,[],[]⟩).toArray Uw.out pp rfl (ny _) ?_;have QC:W.heap.size<=gx:=Nat.le_trans YB.out.k.size Yu;have Wh:=Z' (VN.out.newer XA.out Z5 ((yZ.refl _ _).setrow (.inl QC) (UF.cells ⟨sb,NM,DS⟩).toArray));have Wv:=Z' (Za.out.setrow (.inl (.inr Yu)) (UF.cells ⟨sb,NM,DS⟩).toArray);have Vu:=Z' (setRow_heap V1 gx _ (UF.cells ⟨sb,NM,DS⟩).toArray _ _ Uw.out);have Kw:gd<w7.heap.size:=yG VJ.out;have ZZ:QF gd d (V1.setRow gx (UF.cells ⟨sb,NM,DS⟩).toArray):=Wv.out.row VJ.out (by omega);refine⟨ZZ,hK _ _ ?_⟩;clear hK K XA Za Uw Z3;refine yA (wV (V1.setRow gx (UF.cells ⟨sb,NM,DS⟩).toArray)) (fun y hy=>by obtain rfl:y=V1.setRow gx (UF.cells ⟨sb,NM,DS⟩).toArray:=hy;exact ZZ) rfl ?_;refine yE (fun y hy=> ?_);obtain rfl:y=V1.setRow gx (UF.cells ⟨sb,NM,DS⟩).toArray:=hy;clear ZZ
   go_wp2_with fail
   go_meet;exact⟨gx,rfl,Yu,Wh,Wv,Vu⟩
  obtain⟨gx,rfl,Yu,SG,Qr,U0⟩:=hcut
  go_upto_region 12 with fail
  obtain⟨b1,ZQ⟩:∃b,b=yk NM:=⟨_,rfl⟩;obtain⟨b2,ZN⟩:∃b,b=typeB DS:=⟨_,rfl⟩;rw[<-ZQ,<-ZN]at Ma;have Y9:=Z' (fun W hv=>sF W NM Vc.out hv);have Zj:=Z' (fun W hv=>ub W DS Pb.out hv);rw[<-ZQ]at Y9;rw[<-ZN]at Zj;have SB:=Z' (fun W ok (hW:LfS W g f.pa f.pn f.pc f.pool UW)=>tH W g f.pa f.pn f.pc f.pool UW ok 8 hW);have hgg7:g<w7.heap.size:=YB.out.l.lt;clear ZQ ZN
  go_cut [] (fun wx=>∃QR:Int,Hid (QR=0↔UW=0/\(b1&&b2)=true)/\Hid (LfS wx g f.pa f.pn f.pc f.pool QR)/\Hid (yZ (fun k=>k=g\/w7.heap.size<=k) w7 wx)/\Hid (wx.heap[gx]? =some (.cells (UF.cells ⟨sb,NM,DS⟩).toArray 52 (0,0))))
  case first=>
   have z1:=y8 U0.out 1 rfl;dsimp only[UF.cells]at z1
   go_wp2_with fail
   refine(Y9.out wc SG.out.vw).mono ?_;rintro e w9 ⟨rfl,ZK⟩;have S2:=Z' (SG.out.below ZK);have WT:=Z' (Qr.out.trans (yZ.of ZK));have Pk:=Z' (yW U0.out ZK);clear ZK z1
   cases b1
   ·go_wp2_with fail
    refine(SB.out w9 false S2.out).mono ?_;rintro e wa ⟨rfl,hl,hk⟩;have EE:=Z' hl;have FB:=Z' (WT.out.trans (hk.weak (q:=fun k=>k=g\/w7.heap.size<=k) fun _ _ e=> .inl e));have Fc:=Z' (hk.row Pk.out (by omega));clear hl hk
    go_wp2_with fail
    go_meet;exact⟨_,Z' (by rw[wh (by decide)];simp),EE,FB,Fc⟩
   have z2:=y8 Pk.out 2 rfl;dsimp only[UF.cells]at z2
   go_wp2_with fail
   refine(Zj.out w9 S2.out.vw).mono ?_;rintro e wb ⟨rfl,ZK⟩;have As:=Z' (S2.out.below ZK);have Am:=Z' (WT.out.trans (yZ.of ZK));have zV:=Z' (yW Pk.out ZK);clear ZK z2
   go_wp2_with fail
   refine(SB.out wb b2 As.out).mono ?_;rintro e wa ⟨rfl,hl,hk⟩;have EE:=Z' hl;have FB:=Z' (Am.out.trans (hk.weak (q:=fun k=>k=g\/w7.heap.size<=k) fun _ _ e=> .inl e));have Fc:=Z' (hk.row zV.out (by omega));clear hl hk
   go_wp2_with fail
   go_meet;exact⟨_,Z' (by rw[wh (by decide)];simp),EE,FB,Fc⟩
  clear SG Qr U0;obtain⟨QR,P3,SG,Qr,U0⟩:=hcut;have ZB:=Z' (YB.out.new SG.out Qr.out R2 (by omega));have z0:=y8 U0.out 0 rfl;have z1:=y8 U0.out 1 rfl;have z2:=y8 U0.out 2 rfl;have o2:=y8 ZB.out.o 2 rfl;dsimp only[UF.cells,UU.cells]at z0 z1 z2 o2;have PG:x.fn<=255:=by rw[Ft.out];omega
  go_wp2_with (at_builtin;refine wU eX rfl _ _ rfl W.heap.size _ x.fn _ rfl ZB.out.w.fields _ 1 _ _ rfl rfl rfl rfl (by omega) (by unfold maxLen;omega) ZB.out.k.size ?_;intro v9 w9 Z0 ZA ZK;have ZU:=yd.app ZB.out.w.fields ZA;have ZW:w9.ownsRow W.heap.size 52 3 v9 (x.fn+1) ((x.fields++[(⟨sb,NM,DS⟩:UF)]).flatMap UF.cells):=(by rw[List.flatMap_append];exact Z0);obtain⟨a9,c9,rfl,-,-⟩:=Ss.ofOwn UF.cells_length (by decide) ZW;have Yc:yZ (fun k=>W.heap.size<=k) wc w9:=yZ.ofB ZK (Nat.le_trans (by simp) ZA.size);have ZC:=Z' (VN.out.appU ZB.out Yc ZU (ZB.out.w.fields1 ZU ZW) M8 (by omega) (by omega) R7.out);have fo:=xQ ZC.out.2.1 2;have lto:=yG ZC.out.2.1;have co:=y8 ZC.out.2.1 2 rfl;dsimp only[UU.cells]at co;clear Z0 ZW ZA ZK ZU Yc)
  have YE:=Z' (ZC.out.2.2 2 (.slice a9 (x.fn+1) c9) rfl);have YM:=Z' (UU.p_fields1 Kz.out a9 (x.fn+1) c9 (⟨sb,NM,DS⟩:UF))
  have XX:=Z' (show UU.p {x with fa:=a9,fn:=x.fn+1,fc:=c9,fields:=x.fields++[(⟨sb,NM,DS⟩:UF)]}=⟨CN,SN,none,0,0,(f.fields.take (j+1)).map (vt f.pool),none,0,0,[]⟩ by
   rw[YM.out,YW.out,List.map_append,List.map_singleton,KA.out])
  have XP:=Z' (show QR=0↔Vh=0/\(f.fields.take (j+1)).all (ve f.pool)=true by
   rw[P3.out,Ni.out,YW.out,List.all_append];simp[Ma.out,and_assoc])
  clear YM ZC Kz Ni P3 ZB YB SG Qr U0 VJ fo lto co z0 z1 z2 o2;go_roundg (f.fn-(j+1))
  case measure=>omega
  exact⟨j+1,QR,_,by omega,rfl,by go_num,XP,XX,YE⟩
 have ZV:f.fields.take j=f.fields:=List.take_of_length_le (by rw[HR.out.fields.1];omega);rw[ZV]at Ni Kz;have Wt:¬((j:Int)<f.fn):=by omega
 have c4:=y8 (P1.out wr Zc.out.k) 4 rfl;dsimp only[KF.cells]at c4
 go_wp2_with fail
 go_loopg [74] f.mn (fun gn i wr=>∃(jm:Nat) (VU:Int) (x9:UU),jm<=f.mn/\gn=f.mn-jm/\i= .int .i64 jm/\Hid (VU=0↔UW=0/\(f.methods.take jm).all (vL f.pool)=true)/\Hid (x9.p=⟨CN,SN,none,0,0,f.fields.map (vt f.pool),none,0,0,(f.methods.take jm).map (vC f.pool)⟩)/\Hid (uD W wr g go f.pa f.pn f.pc f.pool VU x9))
 case atStart=>exact⟨0,UW,x,by omega,by omega,by go_num,Z' (by simp),Z' (by rw[Kz.out];rfl),Zc⟩
 clear Zc c4;obtain⟨jm,VU,x9,A',rfl,rfl,TG,TZ,ZC⟩:=hrel;by_cases ZX:jm<f.mn
 ·have WH:x9.methods.length=jm:=by
   have h1:=congrArg (fun u=>u.methods.length) TZ.out;have h2:=HR.out.methods.1;simp only[UU.p,List.length_map,List.length_take]at h1;omega
  have Yf:x9.mn=jm:=by
   obtain⟨a9,c9,e9,h9,_⟩:=Ss.ofOwn UM.cells_length (by decide) ZC.out.w.methods
   cases e9
   rw[<-WH];exact h9.1.symm
  have Fw:=Z' Yf;have HS:=Z' (HR.out.below (Xj.out wr ZC.out.k)).methods;have XZ:(jm:Int)<f.mn:=by omega
  have Rn:f.mn<=64:=AB.out;obtain⟨bq,off,m,Ym,Zu,hs,q⟩:=HS.out.getC jm ZX;have q0:=q 0 (by omega);have q1:=q 1 (by omega);have q2:=q 2 (by omega);have q3:=q 3 (by omega);have q4:=q 4 (by omega);have q5:=q 5 (by omega);have q6:=q 6 (by omega);have q7:=q 7 (by omega);rw[Nat.add_zero]at q0;simp only[KM.cells,List.getElem?_cons_zero,List.getElem?_cons_succ]at q0 q1 q2 q3 q4 q5 q6 q7
  have YW:=Z' (show f.methods.take (jm+1)=f.methods.take jm++[m] by
   have YP:=(Z4 hs).1;rw[List.take_succ_eq_append_getElem YP,(Z4 hs).2])
  have Pq:=Z' (List.mem_of_getElem? hs);clear hs q ZX HS WH Yf
  go_upto_region 18 with fail
  have Yy:Below wr.heap.size wr (wr.alloc (.cells #[.int .i64 m.fl,.int .i64 m.nm,.int .i64 m.ds,.int .i64 m.st,.int .i64 m.lo,.slice m.ca m.cn m.cc,.slice m.ta m.tn m.tc,.slice m.ma m.mn m.mc] 65)):=yV _ _;have YB:=Z' ((ZC.out.below Yy).below (Z6.drew));have Ur:=Z9 ((wr.alloc (.cells #[.int .i64 m.fl,.int .i64 m.nm,.int .i64 m.ds,.int .i64 m.st,.int .i64 m.lo,.slice m.ca m.cn m.cc,.slice m.ta m.tn m.tc,.slice m.ma m.mn m.mc] 65)).drew.heap[wr.heap.size]? =some (.cells m.cells.toArray 65 (0,0))) (heap_alloc_last wr (.cells #[.int .i64 m.fl,.int .i64 m.nm,.int .i64 m.ds,.int .i64 m.st,.int .i64 m.lo,.slice m.ca m.cn m.cc,.slice m.ta m.tn m.tc,.slice m.ma m.mn m.mc] 65));have hggm:g<wr.heap.size:=ZC.out.l.lt;have E':W.heap.size<=wr.heap.size:=ZC.out.k.size;clear Yy ZC q0 q1 q2 q3 q4 q5 q6 q7 Ym Zu;generalize wr.heap.size=gm at*;have Z3:Q18 go gm m (.slice x9.ma x9.mn x9.mc) (wr.alloc (.cells #[.int .i64 m.fl,.int .i64 m.nm,.int .i64 m.ds,.int .i64 m.st,.int .i64 m.lo,.slice m.ca m.cn m.cc,.slice m.ta m.tn m.tc,.slice m.ma m.mn m.mc] 65)).drew:=⟨Ur.out,y8 YB.out.o 3 rfl⟩;have l0:=fun z (h:Q18 go gm m (.slice x9.ma x9.mn x9.mc) z)=>y8 h.1 0 rfl
  have l1:=fun z (h:Q18 go gm m (.slice x9.ma x9.mn x9.mc) z)=>y8 h.1 1 rfl
  have l2:=fun z (h:Q18 go gm m (.slice x9.ma x9.mn x9.mc) z)=>y8 h.1 2 rfl
  have l3:=fun z (h:Q18 go gm m (.slice x9.ma x9.mn x9.mc) z)=>y8 h.1 3 rfl
  have l4:=fun z (h:Q18 go gm m (.slice x9.ma x9.mn x9.mc) z)=>y8 h.1 4 rfl
  have l5:=fun z (h:Q18 go gm m (.slice x9.ma x9.mn x9.mc) z)=>y8 h.1 5 rfl
  have l6:=fun z (h:Q18 go gm m (.slice x9.ma x9.mn x9.mc) z)=>y8 h.1 6 rfl
  have l7:=fun z (h:Q18 go gm m (.slice x9.ma x9.mn x9.mc) z)=>y8 h.1 7 rfl
  have l8:=fun z (h:Q18 go gm m (.slice x9.ma x9.mn x9.mc) z)=>h.2
  dsimp only[KM.cells]at l0 l1 l2 l3 l4 l5 l6 l7
  refine tq (Q18 go gm m (.slice x9.ma x9.mn x9.mc)) 8 [(0,true),(1,true),(2,true),(3,true),(4,false),(5,false),(6,false),(7,true)] (by kernel_rfl) (by kernel_rfl) (fun c a d v w h=>by cases d<;>exact h) ?_
  generalize(wr.alloc (.cells #[.int .i64 m.fl,.int .i64 m.nm,.int .i64 m.ds,.int .i64 m.st,.int .i64 m.lo,.slice m.ca m.cn m.cc,.slice m.ta m.tn m.tc,.slice m.ma m.mn m.mc] 65)).drew=w7 at*
  iterate 4
   refine xU fun K hK=>tkF ?_
   go_simp
   try go_bits
   refine hK _ _ ?_;clear hK K
  have M1:=Z' (br w7 w g f.pa f.pn f.pc f.pool VU m YB.out.l (HR.out.each m Pq.out) (Xj.out w7 YB.out.k) Cf.out (Mj.out m Pq.out));refine xU fun K hK=>alF ?_
  go_step;refine M1.out.mono ?_;rintro e V1 ⟨y,JQ,J5,rfl,⟨erb,JC,hl⟩,hk⟩;have HY:=Z' JQ;have KY:=Z' JC;have Yv:=Z' (YB.out.call hl hk R2 (by omega));have J1:=Z' (J5.mono (show W.heap.size<=w7.heap.size from YB.out.k.size));have XQ:Q18 go gm m (.slice x9.ma x9.mn x9.mc) V1:=⟨hk.row Z3.1 (by omega),y8 Yv.out.o 3 rfl⟩;clear hl hk Z3 JC JQ J5 YB M1;have Z3:=XQ;clear XQ;dsimp only[UM.cells];go_simp
  first|refine⟨Z3,hK _ _ ?_⟩|refine hK _ _ ?_
  clear hK K;refine xU fun K hK=>alF ?_
  go_step;have ZY:Below V1.heap.size V1 (V1.alloc (.cells #[.bool y.st,.string ⟨y.nm.toArray⟩,.string ⟨y.ds.toArray⟩,.int .i64 y.sk,.int .i64 y.lo,.slice y.ca y.cn y.cc,.slice y.ta y.tn y.tc,.slice y.ma y.mn y.mc] yT)):=yV _ _;have XQ:Q18 go gm m (.slice x9.ma x9.mn x9.mc) (V1.alloc (.cells #[.bool y.st,.string ⟨y.nm.toArray⟩,.string ⟨y.ds.toArray⟩,.int .i64 y.sk,.int .i64 y.lo,.slice y.ca y.cn y.cc,.slice y.ta y.tn y.tc,.slice y.ma y.mn y.mc] yT)):=⟨yW Z3.1 ZY,yF ZY Z3.2⟩;refine⟨XQ,hK _ _ ?_⟩;clear hK K XQ ZY;have La:=Z' Z3.1;clear Z3;refine xU fun K hK=>alF ?_
  change Oper.wp _ _ _ _ _ _;have PG:x9.mn<=255:=by rw[Fw.out];omega
  refine rP kH (ops:= #[]) rfl _ _ _ rfl W.heap.size _ x9.mn _ rfl (Yv.out.w.methods.alloc _) _ 1 _ rfl (Src.litS (m:=1) rfl rfl kH.1) (by omega) (by unfold maxLen;omega) (Nat.le_trans Yv.out.k.size (by simp)) ?_;intro v9 w9 Z0 ZA ZK;have ZU:=yd.app Yv.out.w.methods ZA;have ZW:w9.ownsRow W.heap.size yT 8 v9 (x9.mn+1) ((x9.methods++[y]).flatMap UM.cells):=(by rw[List.flatMap_append];exact Z0);have DP:=J1.out.keptT ZU (by decide) (by decide) (by decide) (by decide);obtain⟨a9,c9,rfl,-,-⟩:=Ss.ofOwn UM.cells_length (by decide) ZW;have Yc:yZ (fun k=>W.heap.size<=k) V1 w9:=(yZ.of (yV _ _)).trans (yZ.ofB ZK (by have:=ZA.size;simpa using this));have Sn:=Z' (VN.out.appU Yv.out Yc ZU (Yv.out.w.methods1 ZU ZW DP) M8 (by omega) (by omega) R7.out);have Z3:Q18 go gm m (.slice x9.ma x9.mn x9.mc) w9:=⟨ZU.2 _ _ _ _ La.out (by decide),y8 Sn.out.2.1 3 rfl⟩;clear Z0 ZW ZA ZK ZU Yc La Yv J1 DP Ur;refine⟨Z3,hK _ _ ?_⟩;clear hK K
  iterate 1
   refine xU fun K hK=>tkF ?_
   go_simp
   try go_bits
   refine hK _ _ ?_;clear hK K
  have fo:=xQ Sn.out.2.1 3;have lto:=yG Sn.out.2.1;have co:=y8 Sn.out.2.1 3 rfl;dsimp only[UU.cells]at co;refine tm (laF ?_);go_step;have YE:=Z' (Sn.out.2.2 3 (.slice a9 (x9.mn+1) c9) rfl);have YM:=Z' (UU.p_methods1 TZ.out a9 (x9.mn+1) c9 y)
  have XX:=Z' (show UU.p {x9 with ma:=a9,mn:=x9.mn+1,mc:=c9,methods:=x9.methods++[y]}=⟨CN,SN,none,0,0,f.fields.map (vt f.pool),none,0,0,(f.methods.take (jm+1)).map (vC f.pool)⟩ by
   rw[YM.out,YW.out,List.map_append,List.map_singleton,HY.out])
  have XP:=Z' (show erb=0↔UW=0/\(f.methods.take (jm+1)).all (vL f.pool)=true by
   rw[KY.out,TG.out,YW.out,List.all_append];simp[and_assoc])
  clear YM Sn TZ TG KY HY Z3 fo lto co l0 l1 l2 l3 l4 l5 l6 l7 l8
  go_wp2_with fail
  go_roundg (f.mn-(jm+1))
  case measure=>omega
  exact⟨jm+1,erb,_,by omega,rfl,by go_num,XP,XX,YE⟩
 have ZV:f.methods.take jm=f.methods:=List.take_of_length_le (by rw[HR.out.methods.1];omega);rw[ZV]at TG TZ;have Wt:¬((jm:Int)<f.mn):=by omega
 have ce:wr.cell? ⟨g,1,none⟩=some (.int .i64 VU):=y8 ZC.out.l.k 1 rfl
 have UB:=Z' (show VU=0↔vK f=true by
  rw[TG.out,Ni.out,T5.out,zq.out];unfold vK;rw[<-Yh.out];simp[and_assoc])
 have LQ:=Z' (show x9.p=ue f by
  rw[TZ.out];unfold ue;rw[<-Wz.out,<-Ze.out])
 have Pk:=Z' (YC.out wr ZC.out.k);have Ut:=Z' (Xj.out wr ZC.out.k);have E':W.heap.size<=wr.heap.size:=ZC.out.k.size;by_cases h0:VU=0
 ·have e0:(VU !=0)=false:=by simp[h0]
  have HH:=Z' h0;clear h0
  go_upto_region 22 with fail
  refine wp_region_lit ?_;refine xN rfl _ _ rfl _ rfl _ _ _ _ ZC.out.o underlying32 rfl vD ?_;refine wpList_store_row rfl _ _ _ rfl _ _ rfl rfl _ _ Pk.out vD rfl (sN _) ?_
  go_wp2_with fail
  refine bodyPost_ret (x8 rfl _ _ (w.heap.size+1) yq (UU.cells _).toArray (0,0) _ rfl (setRow_heap _ _ _ _ _ _ Pk.out) underlying32 rfl vD) rfl ?_;have Qt:yZ (fun k=>k=w.heap.size+1) wr (wr.setRow (w.heap.size+1) x9.cells.toArray):=yZ.setrow (yZ.refl (fun k=>k=w.heap.size+1) _) (.inl rfl) _
  exact⟨x9,0,rfl,⟨fun _=>UB.out.1 HH.out,fun _=>rfl⟩,fun _=>LQ.out,fun h=>absurd rfl h,fun h=>(by rw[<-Yh.out]at h;cases h),(ZC.out.w.keepP Qt (fun y hy=> .inl (by omega))).mono (by omega),Qt.below Ut.out Z5 (fun k hk=>by omega)⟩
 have e0:(VU !=0)=true:=by simp[h0]
 have HH:=Z' h0;clear h0
 go_upto_region 21 with fail
 have Qt:yZ (fun k=>k=w.heap.size+1) wr (wr.drew.setRow (w.heap.size+1) u0.cells.toArray):=yZ.setrow (yZ.of (p:=fun k=>k=w.heap.size+1) (Z6.drew)) (.inl rfl) _;have Xu:=Z' Qt;have Z3:QE g VU wr.drew:=ce;have l0:∀z,QE g VU z->z.cell? ⟨g,1,none⟩=some (.int .i64 VU):=fun z h=>h
 refine ye (QE g VU) (.of [(0,true),(1,true),(2,true),(3,true),(4,true),(5,false)] (.stir [(6,true)])) (by kernel_rfl) (by kernel_rfl) (fun c a d v w h=>by cases d<;>exact h) ?_
 iterate 5
  refine yY fun K hK=>tkF ?_
  go_simp
  try go_bits
  refine hK _ _ ?_;clear hK K
 refine yY fun K hK=>alF ?_
 have NK:wr.drew.heap[w.heap.size+1]? =some (.cells u0.cells.toArray yq (0,0)):=Pk.out;refine wp_store_row yq _ _ rfl (w.heap.size+1) u0.cells.toArray rfl rfl yq u0.cells.toArray NK vD rfl (sN _) ?_
 have ZZ:QE g VU (wr.drew.setRow (w.heap.size+1) u0.cells.toArray):=by
  have:=Xu.out.row ZC.out.l.k (show ¬g=w.heap.size+1 by omega);exact y8 this 1 rfl
 refine⟨ZZ,hK _ _ ?_⟩;clear hK K Z3 Qt;refine yA (fun y=>y=wr.drew.setRow (w.heap.size+1) u0.cells.toArray) (fun y hy=>hy▸ZZ) rfl ?_
 iterate 1
  refine yH fun K hK=>tkX ?_
  go_simp
  try go_bits
  refine hK _ ?_;clear hK K
 refine yE (fun y hy=> ?_);subst hy
 go_wp2_with fail
 refine bodyPost_ret (x8 rfl _ _ (w.heap.size+1) yq u0.cells.toArray (0,0) _ rfl (setRow_heap _ _ _ _ _ _ NK) underlying32 rfl vD) rfl ?_
 exact⟨u0,VU,rfl,UB.out,fun h=>absurd h HH.out,fun _=>rfl,fun h=>(by rw[<-Yh.out]at h;cases h),eA _ _,Xu.out.below Ut.out Z5 (fun k hk=>by omega)⟩
def vv(L:List RW)(p:Int):Int:=match L.findIdx? (fun r=>r.pos==p)with|some k=>(k:Nat)|none=> -1
theorem gZ{L:List RW}{r:RW}{p:Int}{j:Nat}(hr:L[j]? =some r)(h:r.pos=p)(hb:∀(k:Nat) r,k<j->L[k]? =some r->r.pos≠p):vv L p=(j:Nat):=by
 obtain⟨hj,he⟩:=Z4 hr;unfold vv;rw[List.findIdx?_eq_some_iff_getElem.2 ⟨hj,by rw[he];simp[h],fun k hk=>by simpa using hb k _ hk (List.getElem?_eq_getElem (by omega))⟩]
theorem iM{L:List RW}{p:Int}(h:∀(k:Nat) r,L[k]? =some r->r.pos≠p):vv L p= -1:=by
 unfold vv
 rw[List.findIdx?_eq_none_iff.2 (fun x hx=>by
  obtain⟨k,hk,rfl⟩:=List.getElem_of_mem hx;simpa using h k _ (List.getElem?_eq_getElem hk))]
theorem qF(w:World)(a:Option Addr)(n cap:Nat)(L:List RW)(p:Int)(hs:Rs w a n L)(hn:n<=65536):Calls prog 68 #[.slice a n cap,.int .i64 p] w (rh (.int .i64 (vv L p)) w):=by
 have HS:=Z' hs;have Zd:=Z' hs.1;clear hs;go_enter func68,ntmps68
 go_wp2_with fail
 go_loopg [9] n (fun gn i wr=>∃j:Nat,j<=n/\gn=n-j/\i= .int .i64 j/\Hid (∀(k:Nat) r,k<j->L[k]? =some r->r.pos≠p)/\Hid (Below w.heap.size w wr))
 case atStart=>exact⟨0,by omega,by omega,by go_num,Z' (fun k r h=>by omega),Z' Z6⟩
 obtain⟨j,hj,rfl,rfl,HG,HB⟩:=hrel;by_cases ZX:j<n
 ·obtain⟨b,off,r,rfl,_,hr,q⟩:=(HS.out.below HB.out).at j ZX;obtain⟨q0,q1,q2,q3⟩:=q;have Pn:=Z' (fun h=>gZ (p:=p) hr h (fun k r' hk WW=>HG.out k r' hk WW))
  have YL:=Z9 (r.pos≠p->∀(k:Nat) r,k<j+1->L[k]? =some r->r.pos≠p) (fun h k r' hk WW=>by
   rcases Nat.lt_or_ge k j with h1|h1
   ·exact HG.out k r' h1 WW
   obtain rfl:k=j:=by omega
   rw[hr]at WW
   cases WW
   exact h)
  have j1:(j:Int)<n:=by omega
  obtain⟨x,o,y,z⟩:=r;simp only at q0 q1 q2 q3 Pn YL;clear hr;by_cases hx:x=p
  ·subst hx;have HR:=Z' (Pn.out rfl);clear Pn YL
   go_wp2_with fail
   go_ret;exact⟨by rw[HR.out];rfl,HB.out.alloc HB.out.size _⟩
  have ex:(x==p)=false:=by simp[hx]
  have HQ:=Z' (YL.out hx);clear hx Pn YL
  go_wp2_with fail
  go_roundg (n-(j+1))
  case measure=>omega
  exact⟨j+1,by omega,rfl,by go_num,HQ,Z' (HB.out.alloc HB.out.size _)⟩
 obtain rfl:j=n:=by omega
 have HR:=Z' (iM (L:=L) (p:=p) (fun k r hk=>HG.out k r (by have:=(Z4 hk).1;rw[Zd.out]at this;exact this) hk))
 go_wp2_with fail
 go_ret;exact⟨by rw[HR.out];rfl,HB.out⟩
theorem E0j{K:List KV}{i:Int}(h:(yQ K i).2=false):(yQ K i).1=[]:=by
 unfold yQ at h⊢;split at h
 ·next h7=>
  simp only[h7,if_true]at h⊢;unfold yN;rw[h];rfl
 next h7=>rw[if_neg h7]
theorem aA:classB []=false:=by rfl
theorem D1x:x6 []=false:=by rfl
theorem qA(K:List KV)(i:Int)(arr:Bool):aclsB K i arr=(classB (yQ K i).1||(arr&&x6 (yQ K i).1)):=by
 unfold aclsB
 cases h:(yQ K i).2
 ·rw[E0j h,aA,D1x]
  cases arr<;>rfl
 rfl
def eB(K:List KV)(zn:Nat)(l:List KS)(w:World)(e:Ending)(w':World):Prop:=
 Below w.heap.size w w'/\((l.all (xa K)=false/\e= .returned (.tuple #[.slice none 0 0,.bool false]))\/
  (l.all (xa K)=true/\∃oa oc,e= .returned (.tuple #[.slice oa zn oc,.bool true])/\w'.ownsRow w.heap.size 9 1 (.slice oa zn oc) zn ((l.map (yD K)).map xX)))
theorem jr(w:World)(a:Option Addr)(n cap:Nat)(K:List KV)(za:Option Addr)(zn zc:Nat)(l:List KS)(hs:Ks w a n K)(hn:n<=65536)(hx:∀i:Int,(kAt K i).s.length<=65536)(hz:Ss 2 KS.cells w za zn l)(Jh:zn<=1000000)(ht:∀s∈l,uH s):
  Calls prog 69 #[.slice a n cap,.slice za zn zc] w (eB K zn l w):=by
 have Xu:=Z' hs;have Zg:=Z' hn;have Yn:=Z' hx;have HZ:=Z' hz;have M9:=Z' hz.1;have LH:=Z' ht;clear hs hn hx hz ht;go_enter func69,ntmps69
 go_wp2_with fail
 go_loopg [6,14] zn (fun gn ov i wr=>∃(j:Nat) (oa:Option Addr) (oc:Nat),j<=zn/\gn=zn-j/\ov= .slice oa j oc/\i= .int .i64 j/\Hid ((l.take j).all (xa K)=true)/\Hid (Below w.heap.size w wr)/\Hid (wr.ownsRow w.heap.size 9 1 (.slice oa j oc) j (((l.take j).map (yD K)).map xX)))
 case atStart=>exact⟨0,none,0,by omega,by omega,rfl,by go_num,Z' (by simp),Z' Z6,Z' (World.ownsRow_nil _ _ _ _)⟩
 obtain⟨j,oa,oc,hj,rfl,rfl,rfl,HE,HB,Vg⟩:=hrel;by_cases ZX:j<zn
 ·have U9:=HZ.out.below HB.out;obtain⟨b,off,s,rfl,Zu,hs,q⟩:=U9.getC j ZX;have q0:=q 0 (by omega);have q1:=q 1 (by omega);rw[Nat.add_zero]at q0;have XZ:(j:Int)<zn:=by omega
  have Rq:=LH.out s (List.mem_of_getElem? hs)
  have YW:=Z' (show l.take (j+1)=l.take j++[s] by
   have YP:=(Z4 hs).1;rw[List.take_succ_eq_append_getElem YP,(Z4 hs).2])
  have T6:=Z9 (xa K s=false->l.all (xa K)=false) (fun h=>by
   rw[List.all_eq_false];exact⟨s,List.mem_of_getElem? hs,by simp[h]⟩)
  obtain⟨tag,sa⟩:=s;simp only[KS.cells,List.getElem?_cons_zero,List.getElem?_cons_succ]at q0 q1;unfold uH at Rq;simp only at Rq;have j0:j<1000000:=by omega
  clear U9 q hs ZX;have ZM:=Z' (HB.out.alloc HB.out.size (.cells #[.int .i64 tag,.int .i64 sa] 174));have XL:=Z' (wE Vg.out (yV wr (.cells #[.int .i64 tag,.int .i64 sa] 174)))
  rcases Rq with rfl|rfl|rfl|rfl|rfl
  ·obtain⟨tx,Zb⟩:=Z8 (wG 0);have XT:=Z' (show(l.take (j+1)).map (yD K)=(l.take j).map (yD K)++[tx] by rw[YW.out,List.map_append,List.map_singleton,(vE K ⟨0,sa⟩ (by simp)).1,Zb]);have WV:=Z' (show(l.take (j+1)).all (xa K)=true by rw[YW.out,List.all_append,HE.out];simp[(vE K ⟨0,sa⟩ (by simp)).2]);have Ys:=ZM;subst Zb;rw[show wG 0=[84]from rfl]at XT;obtain⟨tx,Zb⟩:∃tx:List UInt8,tx=[84]:=⟨_,rfl⟩;rw[<-Zb]at XT;have FN:=Z' Zb;subst Zb
   go_wp2_with (at_builtin;refine um uN rfl _ _ rfl w.heap.size _ j _ rfl XL.out _ 1 _ _ rfl (by simp) rfl rfl (by omega) (by unfold maxLen;omega) Ys.out.size ?_;intro v9 w9 Z0 ZA ZK;obtain⟨a9,c9,rfl,-,-⟩:=Sl.ofOwn (enc:=xX) (xs:=((l.take j).map (yD K))++[[84]]) (by rw[List.map_append];exact Z0);have X3:=Z' (show w9.ownsRow w.heap.size 9 1 (.slice a9 (j+1) c9) (j+1) ((((l.take j).map (yD K))++[[84]]).map xX) by rw[List.map_append];exact Z0);have Ut:=Z' (Ys.out.trans ZK);clear Z0 ZA ZK)
   go_roundg (zn-(j+1))
   case measure=>omega
   exact⟨j+1,_,_,by omega,rfl,rfl,by go_num,WV,Ut,Z' (by rw[XT.out];exact X3.out)⟩
  ·obtain⟨tx,Zb⟩:=Z8 (wG 1);have XT:=Z' (show(l.take (j+1)).map (yD K)=(l.take j).map (yD K)++[tx] by rw[YW.out,List.map_append,List.map_singleton,(vE K ⟨1,sa⟩ (by simp)).1,Zb]);have WV:=Z' (show(l.take (j+1)).all (xa K)=true by rw[YW.out,List.all_append,HE.out];simp[(vE K ⟨1,sa⟩ (by simp)).2]);have Ys:=ZM;subst Zb;rw[show wG 1=[73]from rfl]at XT;obtain⟨tx,Zb⟩:∃tx:List UInt8,tx=[73]:=⟨_,rfl⟩;rw[<-Zb]at XT;have FN:=Z' Zb;subst Zb
   go_wp2_with (at_builtin;refine um uN rfl _ _ rfl w.heap.size _ j _ rfl XL.out _ 1 _ _ rfl (by simp) rfl rfl (by omega) (by unfold maxLen;omega) Ys.out.size ?_;intro v9 w9 Z0 ZA ZK;obtain⟨a9,c9,rfl,-,-⟩:=Sl.ofOwn (enc:=xX) (xs:=((l.take j).map (yD K))++[[73]]) (by rw[List.map_append];exact Z0);have X3:=Z' (show w9.ownsRow w.heap.size 9 1 (.slice a9 (j+1) c9) (j+1) ((((l.take j).map (yD K))++[[73]]).map xX) by rw[List.map_append];exact Z0);have Ut:=Z' (Ys.out.trans ZK);clear Z0 ZA ZK)
   go_roundg (zn-(j+1))
   case measure=>omega
   exact⟨j+1,_,_,by omega,rfl,rfl,by go_num,WV,Ut,Z' (by rw[XT.out];exact X3.out)⟩
  ·obtain⟨tx,Zb⟩:=Z8 (wG 4);have XT:=Z' (show(l.take (j+1)).map (yD K)=(l.take j).map (yD K)++[tx] by rw[YW.out,List.map_append,List.map_singleton,(vE K ⟨4,sa⟩ (by simp)).1,Zb]);have WV:=Z' (show(l.take (j+1)).all (xa K)=true by rw[YW.out,List.all_append,HE.out];simp[(vE K ⟨4,sa⟩ (by simp)).2]);have Ys:=ZM;subst Zb;rw[show wG 4=[74]from rfl]at XT;obtain⟨tx,Zb⟩:∃tx:List UInt8,tx=[74]:=⟨_,rfl⟩;rw[<-Zb]at XT;have FN:=Z' Zb;subst Zb
   go_wp2_with (at_builtin;refine um uN rfl _ _ rfl w.heap.size _ j _ rfl XL.out _ 1 _ _ rfl (by simp) rfl rfl (by omega) (by unfold maxLen;omega) Ys.out.size ?_;intro v9 w9 Z0 ZA ZK;obtain⟨a9,c9,rfl,-,-⟩:=Sl.ofOwn (enc:=xX) (xs:=((l.take j).map (yD K))++[[74]]) (by rw[List.map_append];exact Z0);have X3:=Z' (show w9.ownsRow w.heap.size 9 1 (.slice a9 (j+1) c9) (j+1) ((((l.take j).map (yD K))++[[74]]).map xX) by rw[List.map_append];exact Z0);have Ut:=Z' (Ys.out.trans ZK);clear Z0 ZA ZK)
   go_roundg (zn-(j+1))
   case measure=>omega
   exact⟨j+1,_,_,by omega,rfl,rfl,by go_num,WV,Ut,Z' (by rw[XT.out];exact X3.out)⟩
  ·obtain⟨tx,Zb⟩:=Z8 (wG 5);have XT:=Z' (show(l.take (j+1)).map (yD K)=(l.take j).map (yD K)++[tx] by rw[YW.out,List.map_append,List.map_singleton,(vE K ⟨5,sa⟩ (by simp)).1,Zb]);have WV:=Z' (show(l.take (j+1)).all (xa K)=true by rw[YW.out,List.all_append,HE.out];simp[(vE K ⟨5,sa⟩ (by simp)).2]);have Ys:=ZM;subst Zb;rw[show wG 5=[78]from rfl]at XT;obtain⟨tx,Zb⟩:∃tx:List UInt8,tx=[78]:=⟨_,rfl⟩;rw[<-Zb]at XT;have FN:=Z' Zb;subst Zb
   go_wp2_with (at_builtin;refine um uN rfl _ _ rfl w.heap.size _ j _ rfl XL.out _ 1 _ _ rfl (by simp) rfl rfl (by omega) (by unfold maxLen;omega) Ys.out.size ?_;intro v9 w9 Z0 ZA ZK;obtain⟨a9,c9,rfl,-,-⟩:=Sl.ofOwn (enc:=xX) (xs:=((l.take j).map (yD K))++[[78]]) (by rw[List.map_append];exact Z0);have X3:=Z' (show w9.ownsRow w.heap.size 9 1 (.slice a9 (j+1) c9) (j+1) ((((l.take j).map (yD K))++[[78]]).map xX) by rw[List.map_append];exact Z0);have Ut:=Z' (Ys.out.trans ZK);clear Z0 ZA ZK)
   go_roundg (zn-(j+1))
   case measure=>omega
   exact⟨j+1,_,_,by omega,rfl,rfl,by go_num,WV,Ut,Z' (by rw[XT.out];exact X3.out)⟩
  have RG:=rc K sa;rw[qA]at RG;have VT:=uj Yn.out sa;have Y4:=Z' (fun W (hK:Ks W a n K)=>rV W a n cap K sa hK Zg.out);unfold uK at Y4;have ND:=Z' (fun W=>jK W (yQ K sa).1 VT);have RL:=Z' (fun W=>tu W (yQ K sa).1 (by omega));obtain⟨ib,Tk⟩:=Z8 (x6 (yQ K sa).1);obtain⟨ic,G5⟩:=Z8 (classB (yQ K sa).1);rw[<-Tk]at RG ND;rw[<-G5]at RG RL;generalize(yQ K sa).2=c2 at*;generalize(yQ K sa).1=c at*;have TJ:=Z' RG;clear RG Tk G5
  go_wp2_with fail
  refine(Y4.out _ (Xu.out.below ZM.out)).mono ?_;rintro e w5 ⟨rfl,rfl⟩;have Ys:=ZM;clear Y4
  go_wp2_with fail
  refine(ND.out _).mono ?_;rintro e w6 ⟨rfl,Mw⟩;replace Mw:=Mw.symm;subst Mw
  cases ib
  ·go_wp2_with fail
   refine(RL.out _).mono ?_;rintro e w6 ⟨rfl,Mw⟩;replace Mw:=Mw.symm;subst Mw
   cases ic
   ·have HR:=Z' (T6.out (by rw[TJ.out.2];rfl))
    go_wp2_with fail
    go_ret2;exact⟨Ys.out,.inl ⟨HR.out,rfl⟩⟩
   have he:((⟨#[76]⟩:ByteArray)++(⟨c.toArray⟩:ByteArray))++(⟨#[59]⟩:ByteArray)=⟨(uT c).toArray⟩:=by
    rw[show(⟨#[76]⟩:ByteArray)=⟨[76].toArray⟩from rfl,show(⟨#[59]⟩:ByteArray)=⟨[59].toArray⟩from rfl,nQ,nQ];rfl
   have n1:¬9223372036854775807<1+c.length:=by omega
   have n2:¬9223372036854775807<1+c.length+1:=by omega
   have XT:=Z' (show(l.take (j+1)).map (yD K)=(l.take j).map (yD K)++[uT c] by rw[YW.out,List.map_append,List.map_singleton,TJ.out.1];simp);have WV:=Z' (show(l.take (j+1)).all (xa K)=true by rw[YW.out,List.all_append,HE.out];simp[TJ.out.2]);generalize uT c=tx at*
   go_wp2_with (at_builtin;refine um uN rfl _ _ rfl w.heap.size _ j _ rfl XL.out _ 1 _ _ rfl (by simp) rfl rfl (by omega) (by unfold maxLen;omega) Ys.out.size ?_;intro v9 w9 Z0 ZA ZK;obtain⟨a9,c9,rfl,-,-⟩:=Sl.ofOwn (enc:=xX) (xs:=((l.take j).map (yD K))++[tx]) (by rw[List.map_append];exact Z0);have X3:=Z' (show w9.ownsRow w.heap.size 9 1 (.slice a9 (j+1) c9) (j+1) ((((l.take j).map (yD K))++[tx]).map xX) by rw[List.map_append];exact Z0);have Ut:=Z' (Ys.out.trans ZK);clear Z0 ZA ZK)
   go_roundg (zn-(j+1))
   case measure=>omega
   exact⟨j+1,_,_,by omega,rfl,rfl,by go_num,WV,Ut,Z' (by rw[XT.out];exact X3.out)⟩
  have XT:=Z' (show(l.take (j+1)).map (yD K)=(l.take j).map (yD K)++[c] by rw[YW.out,List.map_append,List.map_singleton,TJ.out.1];simp);have WV:=Z' (show(l.take (j+1)).all (xa K)=true by rw[YW.out,List.all_append,HE.out];simp[TJ.out.2])
  go_wp2_with (at_builtin;refine um uN rfl _ _ rfl w.heap.size _ j _ rfl XL.out _ 1 _ _ rfl (by simp) rfl rfl (by omega) (by unfold maxLen;omega) Ys.out.size ?_;intro v9 w9 Z0 ZA ZK;obtain⟨a9,c9,rfl,-,-⟩:=Sl.ofOwn (enc:=xX) (xs:=((l.take j).map (yD K))++[c]) (by rw[List.map_append];exact Z0);have X3:=Z' (show w9.ownsRow w.heap.size 9 1 (.slice a9 (j+1) c9) (j+1) ((((l.take j).map (yD K))++[c]).map xX) by rw[List.map_append];exact Z0);have Ut:=Z' (Ys.out.trans ZK);clear Z0 ZA ZK)
  go_roundg (zn-(j+1))
  case measure=>omega
  exact⟨j+1,_,_,by omega,rfl,rfl,by go_num,WV,Ut,Z' (by rw[XT.out];exact X3.out)⟩
 obtain rfl:j=zn:=by omega
 have ZV:l.take j=l:=List.take_of_length_le (by rw[M9.out];exact Nat.le_refl _);rw[ZV]at HE Vg;clear ZX
 go_wp2_with fail
 go_ret2;exact⟨HB.out,.inr ⟨HE.out,_,_,rfl,Vg.out⟩⟩
theorem mi(p:Int):∀(L:List RW) (i:Nat) (acc:Option Nat),(∀r∈L,r.pos≠p)->ixF p L i acc=acc
 |[],i,acc,_=>rfl
 |r::L,i,acc,h=>by
  rw[ixF,if_neg (h r List.mem_cons_self)];exact mi p L (i+1) acc (fun x hx=>h x (List.mem_cons_of_mem _ hx))
theorem kJ(p:Int):∀(L:List RW) (i k:Nat) (acc:Option Nat) (r:RW),L[k]? =some r->r.pos=p->(∀(j:Nat) r',k<j->L[j]? =some r'->r'.pos≠p)->ixF p L i acc=some (i+k)
 |[],i,k,acc,r,h,_,_=>by simp at h
 |q::L,i,0,acc,r,h,hr,hn=>by
  simp at h;subst h;rw[ixF,if_pos hr];refine mi p L (i+1) _ (fun x hx=> ?_);obtain⟨j,hj⟩:=List.getElem?_of_mem hx;exact hn (j+1) x (by omega) (by rw[List.getElem?_cons_succ];exact hj)
 |q::L,i,k+1,acc,r,h,hr,hn=>by
  rw[List.getElem?_cons_succ]at h;rw[ixF,kJ p L (i+1) k _ r h hr (fun j r' hj WW=>hn (j+1) r' (by omega) (by rw[List.getElem?_cons_succ];exact WW))];congr 1;omega
def pZ(L:List RW):Prop:=∀(i j:Nat) r q,L[i]? =some r->L[j]? =some q->r.pos=q.pos->i=j
theorem pZ.first{L:List RW}(h:pZ L)(p:Int):(∃k:Nat,k<L.length/\vv L p=(k:Nat)/\wF L p=some k)\/(vv L p= -1/\wF L p=none):=by
 rcases Classical.em (∃(k:Nat) (r:RW),L[k]? =some r/\r.pos=p)with⟨k,r,hr,hp⟩|hn
 ·refine .inl ⟨k,(Z4 hr).1,gZ hr hp (fun j q hj hq e=> ?_),?_⟩
  ·have:=h j k q r hq hr (by rw[e,hp]);omega
  have h1:=kJ p L 0 k none r hr hp (fun j q hj hq e=>by
   have:=h j k q r hq hr (by rw[e,hp]);omega)
  rw[Nat.zero_add]at h1;exact h1
 exact .inr ⟨iM (fun k r hr e=>hn ⟨k,r,hr,e⟩),mi p L 0 none (fun r hr e=>by
  obtain⟨k,hk⟩:=List.getElem?_of_mem hr;exact hn ⟨k,r,hk,e⟩)⟩
def dU(L:List RW)(r:RW):Prop:=yX r.op=7->vv L r.a=(((wF L r.a).getD 0:Nat):Int)
theorem sB{bs:List UInt8}{L:List RW}(h:xW bs=(0,L)):(∀(k:Nat) r,L[k]? =some r->r.pos=((ym (L.take k)).length:Nat)/\yz r (yX r.op)=true)/\wL L=true/\ym L=bs/\bs.length<=4096:=by
 have he:=dt bs L h;unfold xt at he;split at he
 ·cases he
 next h1=>
 split at he
 ·cases he
 next h2=>
 split at he
 ·cases he
 next h3=>
 have h4:ym L=bs:=(Prod.mk.inj he).2;refine⟨fun k r hr=> ?_,by simpa using h2,h4,by rw[<-h4];omega⟩;have hk:=(Z4 hr).1;have h5:(List.range L.length).all (xd L)=true:=by simpa using h1
 have h6:=List.all_eq_true.1 h5 k (List.mem_range.2 hk);rw[mL L k r hr]at h6;simp only[Bool.and_eq_true,decide_eq_true_eq]at h6;exact⟨h6.2,h6.1⟩
theorem gi{bs:List UInt8}{L:List RW}(h:xW bs=(0,L)):∀r∈L,yX r.op≠0:=by
 intro r hr h0;obtain⟨k,hk⟩:=List.getElem?_of_mem hr;have h1:=((sB h).1 k r hk).2;rw[h0,iL]at h1
 cases h1
theorem ng(L:List RW):∀(d i:Nat),i+d+1<=L.length->(ym (L.take i)).length<(ym (L.take (i+d+1))).length
 |0,i,h=>by
  have hr:L[i]? =some L[i]:=List.getElem?_eq_getElem (by omega);rw[Nat.add_zero,pf L i _ hr,List.length_append];have:1<=(wC L[i]).length:=by unfold wC;simp
  omega
 |d+1,i,h=>by
  have h1:=ng L d i (by omega);have hr:L[i+d+1]? =some L[i+d+1]:=List.getElem?_eq_getElem (by omega);rw[show i+(d+1)+1=(i+d+1)+1 by omega,pf L (i+d+1) _ hr,List.length_append];omega
theorem fg{bs:List UInt8}{L:List RW}(h:xW bs=(0,L)):pZ L:=by
 intro i j r q hr hq e;have h1:=((sB h).1 i r hr).1;have h2:=((sB h).1 j q hq).1;have hi:=(Z4 hr).1;have hj:=(Z4 hq).1
 rcases Nat.lt_trichotomy i j with h3|h3|h3
 ·have:=ng L (j-i-1) i (by omega);rw[show i+(j-i-1)+1=j by omega]at this;omega
 ·exact h3
 have:=ng L (i-j-1) j (by omega);rw[show j+(i-j-1)+1=i by omega]at this;omega
theorem E6n{bs:List UInt8}{L:List RW}(h:xW bs=(0,L)):∀r∈L,dU L r:=by
 intro r hr h7;have hg:=(sB h).2.1;unfold wL at hg;have h2:=List.all_eq_true.1 hg r hr;rw[h7]at h2;simp only[beq_self_eq_true,Bool.not_true,Bool.false_or]at h2;unfold thereB at h2;obtain⟨q,hq,h3⟩:=List.any_eq_true.1 h2
 rcases(fg h).first r.a with⟨k,_,h4,h5⟩|⟨h4,h5⟩
 ·rw[h4,h5];rfl
 obtain⟨k,hk⟩:=List.getElem?_of_mem hq;exfalso
 have h6:vv L r.a≠-1:=by
  intro e;unfold vv at e
  cases hx:L.findIdx? (fun r'=>r'.pos==r.a)with
  |some i=>rw[hx]at e;simp only at e;omega
  |none=>
  have:=List.findIdx?_eq_none_iff.1 hx q hq;rw[h3]at this
  cases this
 exact h6 h4
end
end Go.Proofs.YtclpkipaehpkdaaGreatDoor
