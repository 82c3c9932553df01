/- asm -/
import Derived.Test.YtclpkipaehpkdaaGreatDoorQ17AsmBack
set_option linter.unusedVariables false
set_option linter.unusedSimpArgs false
set_option maxRecDepth 100000
set_option maxHeartbeats 64000000
open Go.Proofs.Tryz
namespace Go.Proofs.YtclpkipaehpkdaaGreatDoor
section
open Go.ChangeShapes Go.WideShapes Go.ChangeAt Go.RowKit Go.Maps
def BxM(gk gm g:Nat)(m:UM)(z:World):Prop:=z.heap[gk]? =some (.cells #[.pointer (some ⟨g,0,none⟩)] PLT (0,0))/\z.heap[gm]? =some (.cells m.cells.toArray yT (0,0))
theorem BxM.of{w V:World}{B g gk gm gz:Nat}{m:UM}{s:LW}(h:MtH w V B g gk gm gz m s):BxM gk gm g m V:=⟨h.k,h.m⟩
theorem LoS.vw{w:World}{B g:Nat}{s:LW}(h:LoS w B g s):VW w:=by
 obtain⟨a,cap,b,h⟩:=h;exact h.vw
theorem MtH.made{w V:World}{B g gk gm gz go:Nat}{m:UM}{s:LW}(h:MtH w V B g gk gm gz m s)(ho:V.heap[go]? =some (.cells #[.int .i64 0,.int .i64 0,.int .i64 0,.int .i64 0,.int .i64 0,.slice none 0 0,.slice none 0 0,.slice none 0 0] FMT (0,0)))(hw:w.heap.size<=go)(h0:0<go)(ZF:gz≠go)(a b c d e:Int):
  MtJ w (V.setRow go ((⟨a,b,c,d,e,none,0,0,[],none,0,0,[],none,0,0,[]⟩:KM).cells.toArray)) B g gk gm gz go m ⟨a,b,c,d,e,none,0,0,[],none,0,0,[],none,0,0,[]⟩ s:=by
 have Zt:=sH (cs':=(⟨a,b,c,d,e,none,0,0,[],none,0,0,[],none,0,0,[]⟩:KM).cells.toArray) ho
 exact⟨⟨h.hs.setR ho (by decide) (by decide) h0 _,h.hk.thenB (below_setRow hw _),Zt.2 _ _ _ _ h.k (by decide),Zt.2 _ _ _ _ h.m (by decide),(setRow_other V go gz _ ZF).trans h.z⟩,
  setRow_heap V go _ _ _ _ ho,⟨.inl (World.ownsRow_nil _ _ _ _),World.ownsRow_nil _ _ _ _,World.ownsRow_nil _ _ _ _,fun p hp=>by cases hp⟩⟩
theorem yR.belowO{B B0:Nat}{w0 w w':World}(h:yR B w w')(hb:Below B0 w0 w)(hB:B0<=w0.heap.size)(h0:B0<=B):Below B0 w0 w':=
 ⟨h.os.trans hb.os,h.tape.trans hb.tape,h.output.trans hb.output,Nat.le_trans hb.size h.size,fun k hk=>by
  rw[h.block k (Nat.lt_of_lt_of_le (Nat.lt_of_lt_of_le hk hB) hb.size) (.inl (Nat.lt_of_lt_of_le hk h0))];exact hb.block k hk⟩
structure MtA(V:World)(ga gat:Nat)(m:UM):Prop where
 a:V.heap[ga]? =some (.cells #[.slice (some ⟨gat,0,none⟩) (m.cn+1) (m.cn+1)] 138 (0,0))
 r:wm V gat (xf m.code m.code.length)
theorem MtA.keepL{V V':World}{B ga gat:Nat}{m:UM}(h:MtA V ga gat m)(hk:yR B V V'):MtA V' ga gat m:=⟨hk.row h.a (by decide) (by decide),h.r.keepL hk⟩
theorem MtA.below{V V':World}{ga gat:Nat}{m:UM}(h:MtA V ga gat m)(hb:Below V.heap.size V V'):MtA V' ga gat m:=⟨yW h.a hb,h.r.below hb⟩
theorem MtA.keptT{V V':World}{ga gat:Nat}{m:UM}{e:TypeId}(h:MtA V ga gat m)(hk:yd e V V')(h1:138≠e)(h2:3≠e):MtA V' ga gat m:=⟨hk.2 _ _ _ _ h.a h1,hk.2 _ _ _ _ h.r h2⟩
theorem MtH.put{w V:World}{B g gk gm gz go:Nat}{m:UM}{x x':KM}{s:LW}(h:MtH w V B g gk gm gz m s)(ho:V.heap[go]? =some (.cells x.cells.toArray FMT (0,0)))(hw:w.heap.size<=go)(h0:0<go)(ZF:gz≠go)(o:Nat)(v:Value)(he:x.cells.toArray.setIfInBounds o v=x'.cells.toArray)(hx:x'.Ow V w.heap.size):
  MtJ w (V.setCell ⟨go,o,none⟩ v) B g gk gm gz go m x' s:=by
 have Zt:=uz ho o v
 exact⟨⟨h.hs.setO ho (by decide) (by decide) h0 o v,h.hk.thenB (Z6.setCell hw v),Zt.2 _ _ _ _ h.k (by decide),Zt.2 _ _ _ _ h.m (by decide),wQ h.z ZF o v⟩,
  by rw[<-he];exact wZ ho o v,hx.keptT Zt (by decide) (by decide) (by decide) (by decide)⟩
theorem KM.Ow.tn{x:KM}{V:World}{B:Nat}(h:x.Ow V B):x.traps.length=x.tn:=by
 have h1:=h.traps.1;rw[td KT.cells_length]at h1;omega
theorem KM.Ow.mn{x:KM}{V:World}{B:Nat}(h:x.Ow V B):x.maps.length=x.mn:=by
 have h1:=h.maps.1;rw[td KP.cells_length]at h1;omega
theorem iq(s:LW)(c:List IN)(l:List UT):(s.traps c l).2.length=l.length:=by
 induction l generalizing s with
 |nil=>rfl
 |cons x l ih=>rw[LW.traps,List.length_cons,List.length_cons,ih]
theorem gD(s:LW)(c:List IN)(l:List UP):(s.maps c l).2.length=l.length:=by
 induction l generalizing s with
 |nil=>rfl
 |cons x l ih=>rw[LW.maps,List.length_cons,List.length_cons,ih]
def BxT(gx gm:Nat)(t:UT)(m:UM)(z:World):Prop:=z.heap[gx]? =some (.cells t.cells.toArray 85 (0,0))/\z.heap[gm]? =some (.cells m.cells.toArray yT (0,0))
theorem MtJ.other{w V V':World}{B g gk gm gz go gt:Nat}{m:UM}{x:KM}{s:LW}(h:MtJ w V B g gk gm gz go m x s)(Zt:yd TrT V V')(hb:Below w.heap.size V V')(hs:LoS V' B g s)(Sm:V.heap.size<=gt\/∀k,(Value.slice x.ta x.tn x.tc).ownBlock=some k->k≠gt)(ho:∀i,i≠gt->V'.heap[i]? =V.heap[i]?):
  MtJ w V' B g gk gm gz go m x s:=by
 refine⟨⟨hs,h.h.hk.thenB hb,Zt.2 _ _ _ _ h.h.k (by decide),Zt.2 _ _ _ _ h.h.m (by decide),Zt.2 _ _ _ _ h.h.z (by decide)⟩,Zt.2 _ _ _ _ h.o (by decide),h.w.code.keptT Zt (by decide),?_,xA h.w.maps Zt (by decide),fun p hp=>(h.w.each p hp).keptT Zt (by decide)⟩;refine⟨h.w.traps.1,?_⟩
 rcases h.w.traps.2 with h1|⟨b,cap,cur,hv,hB,hc,r⟩
 ·exact .inl h1
 refine .inr ⟨b,cap,cur,hv,hB,?_,r⟩
 rw[ho b (by
  intro e
  rcases Sm with h2|h2
  ·have:=yG hc;omega
  ·exact h2 b (by rw[hv];rfl) e)]
 exact hc
theorem KM.lp_traps1{x:KM}{a b c d e:Int}{cd:List UInt8}{T:List KT}{M:List KP}(h:x.lp=⟨a,b,c,d,e,none,0,0,cd,none,0,0,T,none,0,0,M⟩)(ta:Option Addr)(tn tc:Nat)(k:KT):
  KM.lp {x with ta:=ta,tn:=tn,tc:=tc,traps:=x.traps++[k]}=⟨a,b,c,d,e,none,0,0,cd,none,0,0,T++[k],none,0,0,M⟩:=by
 simp only[KM.lp,KM.mk.injEq]at h⊢;obtain⟨e1,e2,e3,e4,e5,-,-,-,e6,-,-,-,e7,-,-,-,e8⟩:=h;exact⟨e1,e2,e3,e4,e5,trivial,trivial,trivial,e6,trivial,trivial,trivial,by rw[e7],trivial,trivial,trivial,e8⟩
theorem KM.lp_maps1{x:KM}{a b c d e:Int}{cd:List UInt8}{T:List KT}{M:List KP}(h:x.lp=⟨a,b,c,d,e,none,0,0,cd,none,0,0,T,none,0,0,M⟩)(ma:Option Addr)(mn mc:Nat)(k:KP):
  KM.lp {x with ma:=ma,mn:=mn,mc:=mc,maps:=x.maps++[k]}=⟨a,b,c,d,e,none,0,0,cd,none,0,0,T,none,0,0,M++[k.lp]⟩:=by
 simp only[KM.lp,KM.mk.injEq]at h⊢;obtain⟨e1,e2,e3,e4,e5,-,-,-,e6,-,-,-,e7,-,-,-,e8⟩:=h;exact⟨e1,e2,e3,e4,e5,trivial,trivial,trivial,e6,trivial,trivial,trivial,e7,trivial,trivial,trivial,by rw[List.map_append,e8];rfl⟩
def BxP(gx gk gm go g:Nat)(p:UP)(m:UM)(v:Value)(z:World):Prop:=z.heap[gx]? =some (.cells p.cells.toArray 88 (0,0))/\z.heap[gm]? =some (.cells m.cells.toArray yT (0,0))/\z.heap[gk]? =some (.cells #[.pointer (some ⟨g,0,none⟩)] PLT (0,0))/\z.cell? ⟨go,7,none⟩=some v
def nV(B g:Nat)(s:LW)(m:UM)(w:World)(e:Ending)(w':World):Prop:=
 ∃x:KM,e= .returned (.agg x.cells.toArray)/\x.lp=(s.method m).2/\x.Ow w' w.heap.size/\LoS w' B g (s.method m).1/\yR B w w'
theorem dm(w w0:World)(B g:Nat)(s:LW)(m:UM)(h:LoS w B g s)(hm:m.Rd w0)(hw:Below w0.heap.size w0 w)(PU:w0.heap.size<=B)(hf:m.Fit)(hsz:s.l.length<=999900000000)(hB:B<=w.heap.size)(N9:0<B):
  Calls prog 36 #[.pointer (some ⟨g,0,none⟩),.agg m.cells.toArray] w (nV B g s m w):=by
 have VB:0<w.heap.size:=by omega
 have Ya:g<w.heap.size:=h.lt;have Zn:Below w.heap.size w (((w.alloc (.cells #[.pointer (some ⟨g,0,none⟩)] PLT)).alloc (.cells #[.bool m.st,.string ⟨m.nm.toArray⟩,.string ⟨m.ds.toArray⟩,.int .i64 m.sk,.int .i64 m.lo,.slice m.ca m.cn m.cc,.slice m.ta m.tn m.tc,.slice m.ma m.mn m.mc] yT)).alloc (.cells #[.int .i64 0,.int .i64 0,.int .i64 0,.int .i64 0,.int .i64 0,.slice none 0 0,.slice none 0 0,.slice none 0 0] FMT)):=(((Below.refl w.heap.size w).alloc Z5 _).alloc (by simp) _).alloc (by simp;omega) _
 have RZ:=Z9 (MtH w (((w.alloc (.cells #[.pointer (some ⟨g,0,none⟩)] PLT)).alloc (.cells #[.bool m.st,.string ⟨m.nm.toArray⟩,.string ⟨m.ds.toArray⟩,.int .i64 m.sk,.int .i64 m.lo,.slice m.ca m.cn m.cc,.slice m.ta m.tn m.tc,.slice m.ma m.mn m.mc] yT)).alloc (.cells #[.int .i64 0,.int .i64 0,.int .i64 0,.int .i64 0,.int .i64 0,.slice none 0 0,.slice none 0 0,.slice none 0 0] FMT)) B g w.heap.size (w.heap.size+1) (w.heap.size+1+1) m s) (⟨h.below Zn,yR.of Zn,by
  rw[Below.heap_alloc _ _ _ (by simp;omega),Below.heap_alloc _ _ _ (by simp)];exact heap_alloc_last w _,by
  rw[Below.heap_alloc _ _ _ (by simp)];have h9:=heap_alloc_last (w.alloc (.cells #[.pointer (some ⟨g,0,none⟩)] PLT)) (.cells #[.bool m.st,.string ⟨m.nm.toArray⟩,.string ⟨m.ds.toArray⟩,.int .i64 m.sk,.int .i64 m.lo,.slice m.ca m.cn m.cc,.slice m.ta m.tn m.tc,.slice m.ma m.mn m.mc] yT);rw[show(w.alloc (.cells #[.pointer (some ⟨g,0,none⟩)] PLT)).heap.size=w.heap.size+1 by simp]at h9;exact h9,by
  have h9:=heap_alloc_last ((w.alloc (.cells #[.pointer (some ⟨g,0,none⟩)] PLT)).alloc (.cells #[.bool m.st,.string ⟨m.nm.toArray⟩,.string ⟨m.ds.toArray⟩,.int .i64 m.sk,.int .i64 m.lo,.slice m.ca m.cn m.cc,.slice m.ta m.tn m.tc,.slice m.ma m.mn m.mc] yT)) (.cells #[.int .i64 0,.int .i64 0,.int .i64 0,.int .i64 0,.int .i64 0,.slice none 0 0,.slice none 0 0,.slice none 0 0] FMT);rw[show((w.alloc (.cells #[.pointer (some ⟨g,0,none⟩)] PLT)).alloc (.cells #[.bool m.st,.string ⟨m.nm.toArray⟩,.string ⟨m.ds.toArray⟩,.int .i64 m.sk,.int .i64 m.lo,.slice m.ca m.cn m.cc,.slice m.ta m.tn m.tc,.slice m.ma m.mn m.mc] yT)).heap.size=w.heap.size+1+1 by simp]at h9;exact h9⟩)
 have HM:=Z' hm;have HF:=Z' hf;have Um:=Z' hw;have D':=Z' (show(((w.alloc (.cells #[.pointer (some ⟨g,0,none⟩)] PLT)).alloc (.cells #[.bool m.st,.string ⟨m.nm.toArray⟩,.string ⟨m.ds.toArray⟩,.int .i64 m.sk,.int .i64 m.lo,.slice m.ca m.cn m.cc,.slice m.ta m.tn m.tc,.slice m.ma m.mn m.mc] yT)).alloc (.cells #[.int .i64 0,.int .i64 0,.int .i64 0,.int .i64 0,.int .i64 0,.slice none 0 0,.slice none 0 0,.slice none 0 0] FMT)).heap.size=w.heap.size+3 by simp)
 have Wb:=Z9 (s.method m=(let n:=(s.need (yk m.nm&&xY m.ds) 8).text m.nm;let d:=n.1.text m.ds;let c:=(d.1.text wJ).1;let c2:=if m.maps=[]then c else(c.text wH).1;let k:=c2.code m.code;let t:=k.1.traps m.code m.traps;let p:=t.1.maps m.code m.maps;(p.1,⟨xJ m.st,(n.2:Nat),(d.2:Nat),m.sk,m.lo,none,0,0,k.2,none,0,0,t.2,none,0,0,p.2⟩))) rfl
 clear h hm hw hf Zn;change Calls prog 36 #[.pointer (some ⟨g,0,none⟩),.agg #[.bool m.st,.string ⟨m.nm.toArray⟩,.string ⟨m.ds.toArray⟩,.int .i64 m.sk,.int .i64 m.lo,.slice m.ca m.cn m.cc,.slice m.ta m.tn m.tc,.slice m.ma m.mn m.mc]] w (nV B g s m w);go_enter func36,ntmps36
 go_upto_region 1 with fail
 generalize(((w.alloc (.cells #[.pointer (some ⟨g,0,none⟩)] PLT)).alloc (.cells #[.bool m.st,.string ⟨m.nm.toArray⟩,.string ⟨m.ds.toArray⟩,.int .i64 m.sk,.int .i64 m.lo,.slice m.ca m.cn m.cc,.slice m.ta m.tn m.tc,.slice m.ma m.mn m.mc] yT)).alloc (.cells #[.int .i64 0,.int .i64 0,.int .i64 0,.int .i64 0,.int .i64 0,.slice none 0 0,.slice none 0 0,.slice none 0 0] FMT))=W at*;have Fv:W.heap.size=w.heap.size+3:=D'.out;obtain⟨b1,ZQ⟩:∃b,b=yk m.nm:=⟨_,rfl⟩;obtain⟨b2,ZN⟩:∃b,b=xY m.ds:=⟨_,rfl⟩;have Y9:=Z' (fun W hv=>sF W m.nm HF.out.nm hv);have Zj:=Z' (fun W hv=>rx W m.ds HF.out.ds hv);rw[<-ZQ]at Y9 Wb;rw[<-ZN]at Zj Wb;clear ZQ ZN
 go_cut [] (fun wx=>Hid (MtH w wx B g w.heap.size (w.heap.size+1) (w.heap.size+1+1) m (s.need (b1&&b2) 8)))
 case first=>
  have HD:=Z' (RZ.out.below (Z6.drew));have Z3:BxM w.heap.size (w.heap.size+1) g m W.drew:=BxM.of HD.out;have l0:∀z,BxM w.heap.size (w.heap.size+1) g m z->z.cell? ⟨w.heap.size,0,none⟩=some (.pointer (some ⟨g,0,none⟩)):=fun z h=>y8 h.1 0 rfl
  have l1:∀z,BxM w.heap.size (w.heap.size+1) g m z->z.cell? ⟨w.heap.size+1,1,none⟩=some (.string ⟨m.nm.toArray⟩):=fun z h=>y8 h.2 1 rfl
  have l2:∀z,BxM w.heap.size (w.heap.size+1) g m z->z.cell? ⟨w.heap.size+1,2,none⟩=some (.string ⟨m.ds.toArray⟩):=fun z h=>y8 h.2 2 rfl
  refine ye (BxM w.heap.size (w.heap.size+1) g m) (.of [(0,true),(1,true),(2,true),(3,false),(4,true),(5,true),(6,true),(7,false),(8,true),(9,false)] (.stir [])) (by kernel_rfl) (by kernel_rfl) (fun c a d v w h=>by cases d<;>exact h) ?_
  generalize W.drew=V0 at*
  iterate 3
   refine yY fun K hK=>tkF ?_
   go_simp
   try go_bits
   refine hK _ _ ?_;clear hK K
  refine yY fun K hK=>alF ?_
  go_step;refine(Y9.out V0 HD.out.hs.vw).mono ?_;rintro e V1 ⟨rfl,ZQ⟩;have H1:=Z' (HD.out.below ZQ);have ZZ:BxM w.heap.size (w.heap.size+1) g m V1:=BxM.of H1.out;clear ZQ HD Z3;have Z3:=ZZ;clear ZZ;go_simp
  first|refine⟨Z3,hK _ _ ?_⟩|refine hK _ _ ?_
  clear hK K
  iterate 1
   refine yY fun K hK=>tkF ?_
   go_simp
   try go_bits
   refine hK _ _ ?_;clear hK K
  have SB:=Z' (fun V ok (h:LoS V B g s)=>xk V B g s ok 8 h)
  cases b1
  ·iterate 3
    refine yY fun K hK=>skF ?_
    go_simp;refine hK _ _ ?_;clear hK K
   iterate 1
    refine yY fun K hK=>tkF ?_
    go_simp
    try go_bits
    refine hK _ _ ?_;clear hK K
   refine yY fun K hK=>alF ?_
   go_step;refine(SB.out V1 false H1.out.hs).mono ?_;rintro e V8 ⟨rfl,R8,Sd⟩;have H8:=Z' (H1.out.call R8 Sd);have ZZ:BxM w.heap.size (w.heap.size+1) g m V8:=BxM.of H8.out;clear R8 Sd;go_simp
   first|refine⟨ZZ,hK _ _ ?_⟩|refine hK _ _ ?_
   clear hK K;refine yA (fun y=>y=V8) (fun y hy=>hy▸ZZ) rfl ?_;refine yE (fun y hy=> ?_);replace hy:=hy.symm;subst hy
   go_wp2_with fail
   go_meet;exact H8
  iterate 2
   refine yY fun K hK=>tkF ?_
   go_simp
   try go_bits
   refine hK _ _ ?_;clear hK K
  refine yY fun K hK=>alF ?_
  go_step;refine(Zj.out V1 H1.out.hs.vw).mono ?_;rintro e V2 ⟨rfl,ZN⟩;have H2:=Z' (H1.out.below ZN);have ZZ:BxM w.heap.size (w.heap.size+1) g m V2:=BxM.of H2.out;clear ZN H1 Z3;have Z3:=ZZ;clear ZZ;go_simp
  first|refine⟨Z3,hK _ _ ?_⟩|refine hK _ _ ?_
  clear hK K
  iterate 1
   refine yY fun K hK=>tkF ?_
   go_simp
   try go_bits
   refine hK _ _ ?_;clear hK K
  refine yY fun K hK=>alF ?_
  go_step;refine(SB.out V2 b2 H2.out.hs).mono ?_;rintro e V8 ⟨rfl,R8,Sd⟩;have H8:=Z' (H2.out.call R8 Sd);have ZZ:BxM w.heap.size (w.heap.size+1) g m V8:=BxM.of H8.out;clear R8 Sd;go_simp
  first|refine⟨ZZ,hK _ _ ?_⟩|refine hK _ _ ?_
  clear hK K;refine yA (fun y=>y=V8) (fun y hy=>hy▸ZZ) rfl ?_;refine yE (fun y hy=> ?_);replace hy:=hy.symm;subst hy
  go_wp2_with fail
  go_meet;exact H8
 have RD:=hcut;clear hcut RZ Y9 Zj;have Xf:((s.need (b1&&b2) 8).text m.nm).1.l.length<=s.l.length+2:=wq (s.need (b1&&b2) 8) m.nm;have Rv:((s.need (b1&&b2) 8).text m.nm).2<=s.l.length:=sg (s.need (b1&&b2) 8) _;have Y3:=Z' (fun V hs Yc=>uC V B g (s.need (b1&&b2) 8) m.nm hs HF.out.nm (show s.l.length<=_ by omega) Yc);generalize(s.need (b1&&b2) 8).text m.nm=n2 at*;obtain⟨s2,i2⟩:=n2;dsimp only at Xf Rv Y3 Wb;have RE:(s2.text m.ds).1.l.length<=s2.l.length+2:=wq s2 m.ds;have MK:(s2.text m.ds).2<=s2.l.length:=sg s2 _;have Y':=Z' (fun V hs Yc=>uC V B g s2 m.ds hs HF.out.ds (by omega) Yc);generalize s2.text m.ds=n3 at*;obtain⟨s3,i3⟩:=n3;dsimp only at RE MK Y' Wb
 go_upto_region 2 with fail
 go_cut [5] (fun r wx=>∃go:Nat,r= .pointer (some ⟨go,0,none⟩)/\w.heap.size+3<=go/\Hid (MtJ w wx B g w.heap.size (w.heap.size+1) (w.heap.size+1+1) go m (⟨xJ m.st,(i2:Nat),(i3:Nat),m.sk,m.lo,none,0,0,[],none,0,0,[],none,0,0,[]⟩:KM) s3))
 case first=>
  have HD:=Z' (RD.out.below (Z6.drew));have Z3:BxM w.heap.size (w.heap.size+1) g m wc.drew:=BxM.of HD.out;have l0:∀z,BxM w.heap.size (w.heap.size+1) g m z->z.cell? ⟨w.heap.size,0,none⟩=some (.pointer (some ⟨g,0,none⟩)):=fun z h=>y8 h.1 0 rfl
  have l1:∀z,BxM w.heap.size (w.heap.size+1) g m z->z.cell? ⟨w.heap.size+1,0,none⟩=some (.bool m.st):=fun z h=>y8 h.2 0 rfl
  have l2:∀z,BxM w.heap.size (w.heap.size+1) g m z->z.cell? ⟨w.heap.size+1,1,none⟩=some (.string ⟨m.nm.toArray⟩):=fun z h=>y8 h.2 1 rfl
  have l3:∀z,BxM w.heap.size (w.heap.size+1) g m z->z.cell? ⟨w.heap.size+1,2,none⟩=some (.string ⟨m.ds.toArray⟩):=fun z h=>y8 h.2 2 rfl
  have l4:∀z,BxM w.heap.size (w.heap.size+1) g m z->z.cell? ⟨w.heap.size+1,3,none⟩=some (.int .i64 m.sk):=fun z h=>y8 h.2 3 rfl
  have l5:∀z,BxM w.heap.size (w.heap.size+1) g m z->z.cell? ⟨w.heap.size+1,4,none⟩=some (.int .i64 m.lo):=fun z h=>y8 h.2 4 rfl
  refine ye (BxM w.heap.size (w.heap.size+1) g m) (.of [(0,true),(1,true),(3,true),(4,true),(5,true),(7,true),(8,true),(9,true),(11,true),(12,true),(13,true),(14,true)] (.fork 2 (.fork 6 (.fork 10 (.of [(15,true),(16,false),(17,false)] (.stir [])) 16 (.of [(10,false),(15,true),(17,false)] (.stir []))) 16 (.of [(6,false),(10,false),(15,true),(17,false)] (.stir []))) 16 (.of [(2,false),(6,false),(10,false),(15,true),(17,false)] (.stir [])))) (by kernel_rfl) (by kernel_rfl) (fun c a d v w h=>by cases d<;>exact h) ?_
  generalize wc.drew=V0 at*
  iterate 12
   refine yY fun K hK=>tkF ?_
   go_simp
   try go_bits
   refine hK _ _ ?_;clear hK K
  refine uR ?_ ?_
  ·intro K hK;refine alF ?_;go_step;refine(ni V0 m.st).mono ?_;rintro e V9 ⟨rfl,hq⟩;replace hq:=hq.symm;subst hq;go_simp
   first|refine⟨Z3,hK _ _ ?_⟩|refine hK _ _ ?_
   clear hK K;refine uR ?_ ?_
   ·intro K hK;refine alF ?_;go_step;refine(Y3.out V0 HD.out.hs (HD.out.hk.bnd hB)).mono ?_;rintro e W2 ⟨rfl,YV,ZU⟩;have H2:=Z' (HD.out.call YV ZU);have ZZ:BxM w.heap.size (w.heap.size+1) g m W2:=BxM.of H2.out;clear YV ZU Z3;have Z3:=ZZ;clear ZZ;go_simp
    first|refine⟨Z3,hK _ _ ?_⟩|refine hK _ _ ?_
    clear hK K;refine uR ?_ ?_
    ·intro K hK;refine alF ?_;go_step;refine(Y'.out W2 H2.out.hs (H2.out.hk.bnd hB)).mono ?_;rintro e W3 ⟨rfl,YV,ZU⟩;have H3:=Z' (H2.out.call YV ZU);have ZZ:BxM w.heap.size (w.heap.size+1) g m W3:=BxM.of H3.out;clear YV ZU Z3;have Z3:=ZZ;clear ZZ;go_simp
     first|refine⟨Z3,hK _ _ ?_⟩|refine hK _ _ ?_
     clear hK K
     iterate 1
      refine yY fun K hK=>tkF ?_
      go_simp
      try go_bits
      refine hK _ _ ?_;clear hK K
     refine yY fun K hK=>alF ?_
     go_step;have ZY:=yV W3 (.cells #[.int .i64 0,.int .i64 0,.int .i64 0,.int .i64 0,.int .i64 0,.slice none 0 0,.slice none 0 0,.slice none 0 0] FMT);have H4:=Z' (H3.out.below ZY);have HO:=Z' (heap_alloc_last W3 (.cells #[.int .i64 0,.int .i64 0,.int .i64 0,.int .i64 0,.int .i64 0,.slice none 0 0,.slice none 0 0,.slice none 0 0] FMT));have WX:w.heap.size+3<=W3.heap.size:=Nat.succ_le_of_lt (yG H3.out.z);have ZZ:BxM w.heap.size (w.heap.size+1) g m (W3.alloc (.cells #[.int .i64 0,.int .i64 0,.int .i64 0,.int .i64 0,.int .i64 0,.slice none 0 0,.slice none 0 0,.slice none 0 0] FMT)):=BxM.of H4.out;refine⟨ZZ,hK _ _ ?_⟩;clear hK K Z3 ZY;have Z3:=ZZ;clear ZZ;generalize W3.alloc _=W4 at*;generalize W3.heap.size=go at*;refine yY fun K hK=>alF ?_
     refine wp_store_row FMT _ _ rfl go ((⟨xJ m.st,(i2:Nat),(i3:Nat),m.sk,m.lo,none,0,0,[],none,0,0,[],none,0,0,[]⟩:KM).cells.toArray) rfl rfl FMT _ HO.out rL rfl (pX _) ?_;have QK:=Z' (H4.out.made HO.out (show w.heap.size<=go by omega) (by omega) (by omega) (xJ m.st) (i2:Nat) (i3:Nat) m.sk m.lo);have ZZ:BxM w.heap.size (w.heap.size+1) g m (W4.setRow go ((⟨xJ m.st,(i2:Nat),(i3:Nat),m.sk,m.lo,none,0,0,[],none,0,0,[],none,0,0,[]⟩:KM).cells.toArray)):=BxM.of QK.out.h;refine⟨ZZ,hK _ _ ?_⟩;clear hK K Z3 HO;generalize W4.setRow go ((⟨xJ m.st,(i2:Nat),(i3:Nat),m.sk,m.lo,none,0,0,[],none,0,0,[],none,0,0,[]⟩:KM).cells.toArray)=V9 at*;refine yA (fun y=>y=V9) (fun y hy=>hy▸ZZ) rfl ?_;refine yE (fun y hy=> ?_);replace hy:=hy.symm;subst hy
     go_wp2_with fail
     go_meet;exact⟨go,rfl,by omega,QK⟩
    intro K hK;refine alF ?_;go_step;have ZY:=yV W2 (.cells #[.int .i64 0,.int .i64 0,.int .i64 0,.int .i64 0,.int .i64 0,.slice none 0 0,.slice none 0 0,.slice none 0 0] FMT);have Ws:=Z' (H2.out.below ZY);have HO:=Z' (heap_alloc_last W2 (.cells #[.int .i64 0,.int .i64 0,.int .i64 0,.int .i64 0,.int .i64 0,.slice none 0 0,.slice none 0 0,.slice none 0 0] FMT));have WX:w.heap.size+3<=W2.heap.size:=Nat.succ_le_of_lt (yG H2.out.z);have ZZ:BxM w.heap.size (w.heap.size+1) g m (W2.alloc (.cells #[.int .i64 0,.int .i64 0,.int .i64 0,.int .i64 0,.int .i64 0,.slice none 0 0,.slice none 0 0,.slice none 0 0] FMT)):=BxM.of Ws.out;refine⟨ZZ,hK _ _ ?_⟩;clear hK K Z3 ZY;have Z3:=ZZ;clear ZZ;generalize W2.alloc _=A3 at*;generalize W2.heap.size=go at*;refine yY fun K hK=>alF ?_
    go_step;refine(Y'.out A3 Ws.out.hs (Ws.out.hk.bnd hB)).mono ?_;rintro e A6 ⟨rfl,YV,ZU⟩;have JK:=Z' (Ws.out.call YV ZU);have ZZ:BxM w.heap.size (w.heap.size+1) g m A6:=BxM.of JK.out;replace HO:=Z' (ZU.row HO.out (by decide) (by decide));clear YV ZU Z3;have Z3:=ZZ;clear ZZ;go_simp
    first|refine⟨Z3,hK _ _ ?_⟩|refine hK _ _ ?_
    clear hK K
    iterate 1
     refine yY fun K hK=>tkF ?_
     go_simp
     try go_bits
     refine hK _ _ ?_;clear hK K
    refine yY fun K hK=>alF ?_
    refine wp_store_row FMT _ _ rfl go ((⟨xJ m.st,(i2:Nat),(i3:Nat),m.sk,m.lo,none,0,0,[],none,0,0,[],none,0,0,[]⟩:KM).cells.toArray) rfl rfl FMT _ HO.out rL rfl (pX _) ?_;have QK:=Z' (JK.out.made HO.out (show w.heap.size<=go by omega) (by omega) (by omega) (xJ m.st) (i2:Nat) (i3:Nat) m.sk m.lo);have ZZ:BxM w.heap.size (w.heap.size+1) g m (A6.setRow go ((⟨xJ m.st,(i2:Nat),(i3:Nat),m.sk,m.lo,none,0,0,[],none,0,0,[],none,0,0,[]⟩:KM).cells.toArray)):=BxM.of QK.out.h;refine⟨ZZ,hK _ _ ?_⟩;clear hK K Z3 HO;generalize A6.setRow go ((⟨xJ m.st,(i2:Nat),(i3:Nat),m.sk,m.lo,none,0,0,[],none,0,0,[],none,0,0,[]⟩:KM).cells.toArray)=V9 at*;refine yA (fun y=>y=V9) (fun y hy=>hy▸ZZ) rfl ?_;refine yE (fun y hy=> ?_);replace hy:=hy.symm;subst hy
    go_wp2_with fail
    go_meet;exact⟨go,rfl,by omega,QK⟩
   intro K hK;refine alF ?_;go_step;have ZY:=yV V0 (.cells #[.int .i64 0,.int .i64 0,.int .i64 0,.int .i64 0,.int .i64 0,.slice none 0 0,.slice none 0 0,.slice none 0 0] FMT);have WP:=Z' (HD.out.below ZY);have HO:=Z' (heap_alloc_last V0 (.cells #[.int .i64 0,.int .i64 0,.int .i64 0,.int .i64 0,.int .i64 0,.slice none 0 0,.slice none 0 0,.slice none 0 0] FMT));have WX:w.heap.size+3<=V0.heap.size:=Nat.succ_le_of_lt (yG HD.out.z);have ZZ:BxM w.heap.size (w.heap.size+1) g m (V0.alloc (.cells #[.int .i64 0,.int .i64 0,.int .i64 0,.int .i64 0,.int .i64 0,.slice none 0 0,.slice none 0 0,.slice none 0 0] FMT)):=BxM.of WP.out;refine⟨ZZ,hK _ _ ?_⟩;clear hK K Z3 ZY;have Z3:=ZZ;clear ZZ;generalize V0.alloc _=A2 at*;generalize V0.heap.size=go at*;refine yY fun K hK=>alF ?_
   go_step;refine(Y3.out A2 WP.out.hs (WP.out.hk.bnd hB)).mono ?_;rintro e A4 ⟨rfl,YV,ZU⟩;have Sw:=Z' (WP.out.call YV ZU);have ZZ:BxM w.heap.size (w.heap.size+1) g m A4:=BxM.of Sw.out;replace HO:=Z' (ZU.row HO.out (by decide) (by decide));clear YV ZU Z3;have Z3:=ZZ;clear ZZ;go_simp
   first|refine⟨Z3,hK _ _ ?_⟩|refine hK _ _ ?_
   clear hK K;refine yY fun K hK=>alF ?_
   go_step;refine(Y'.out A4 Sw.out.hs (Sw.out.hk.bnd hB)).mono ?_;rintro e A5 ⟨rfl,YV,ZU⟩;have Qh:=Z' (Sw.out.call YV ZU);have ZZ:BxM w.heap.size (w.heap.size+1) g m A5:=BxM.of Qh.out;replace HO:=Z' (ZU.row HO.out (by decide) (by decide));clear YV ZU Z3;have Z3:=ZZ;clear ZZ;go_simp
   first|refine⟨Z3,hK _ _ ?_⟩|refine hK _ _ ?_
   clear hK K
   iterate 1
    refine yY fun K hK=>tkF ?_
    go_simp
    try go_bits
    refine hK _ _ ?_;clear hK K
   refine yY fun K hK=>alF ?_
   refine wp_store_row FMT _ _ rfl go ((⟨xJ m.st,(i2:Nat),(i3:Nat),m.sk,m.lo,none,0,0,[],none,0,0,[],none,0,0,[]⟩:KM).cells.toArray) rfl rfl FMT _ HO.out rL rfl (pX _) ?_;have QK:=Z' (Qh.out.made HO.out (show w.heap.size<=go by omega) (by omega) (by omega) (xJ m.st) (i2:Nat) (i3:Nat) m.sk m.lo);have ZZ:BxM w.heap.size (w.heap.size+1) g m (A5.setRow go ((⟨xJ m.st,(i2:Nat),(i3:Nat),m.sk,m.lo,none,0,0,[],none,0,0,[],none,0,0,[]⟩:KM).cells.toArray)):=BxM.of QK.out.h;refine⟨ZZ,hK _ _ ?_⟩;clear hK K Z3 HO;generalize A5.setRow go ((⟨xJ m.st,(i2:Nat),(i3:Nat),m.sk,m.lo,none,0,0,[],none,0,0,[],none,0,0,[]⟩:KM).cells.toArray)=V9 at*;refine yA (fun y=>y=V9) (fun y hy=>hy▸ZZ) rfl ?_;refine yE (fun y hy=> ?_);replace hy:=hy.symm;subst hy
   go_wp2_with fail
   go_meet;exact⟨go,rfl,by omega,QK⟩
  intro K hK;refine alF ?_;go_step;have ZY:=yV V0 (.cells #[.int .i64 0,.int .i64 0,.int .i64 0,.int .i64 0,.int .i64 0,.slice none 0 0,.slice none 0 0,.slice none 0 0] FMT);have Wm:=Z' (HD.out.below ZY);have HO:=Z' (heap_alloc_last V0 (.cells #[.int .i64 0,.int .i64 0,.int .i64 0,.int .i64 0,.int .i64 0,.slice none 0 0,.slice none 0 0,.slice none 0 0] FMT));have WX:w.heap.size+3<=V0.heap.size:=Nat.succ_le_of_lt (yG HD.out.z);have ZZ:BxM w.heap.size (w.heap.size+1) g m (V0.alloc (.cells #[.int .i64 0,.int .i64 0,.int .i64 0,.int .i64 0,.int .i64 0,.slice none 0 0,.slice none 0 0,.slice none 0 0] FMT)):=BxM.of Wm.out;refine⟨ZZ,hK _ _ ?_⟩;clear hK K Z3 ZY;have Z3:=ZZ;clear ZZ;generalize V0.alloc _=A1 at*;generalize V0.heap.size=go at*;refine yY fun K hK=>alF ?_
  go_step;refine(ni A1 m.st).mono ?_;rintro e V9 ⟨rfl,hq⟩;replace hq:=hq.symm;subst hq;go_simp
  first|refine⟨Z3,hK _ _ ?_⟩|refine hK _ _ ?_
  clear hK K;refine yY fun K hK=>alF ?_
  go_step;refine(Y3.out A1 Wm.out.hs (Wm.out.hk.bnd hB)).mono ?_;rintro e A3 ⟨rfl,YV,ZU⟩;have Ws:=Z' (Wm.out.call YV ZU);have ZZ:BxM w.heap.size (w.heap.size+1) g m A3:=BxM.of Ws.out;replace HO:=Z' (ZU.row HO.out (by decide) (by decide));clear YV ZU Z3;have Z3:=ZZ;clear ZZ;go_simp
  first|refine⟨Z3,hK _ _ ?_⟩|refine hK _ _ ?_
  clear hK K;refine yY fun K hK=>alF ?_
  go_step;refine(Y'.out A3 Ws.out.hs (Ws.out.hk.bnd hB)).mono ?_;rintro e A4 ⟨rfl,YV,ZU⟩;have Sw:=Z' (Ws.out.call YV ZU);have ZZ:BxM w.heap.size (w.heap.size+1) g m A4:=BxM.of Sw.out;replace HO:=Z' (ZU.row HO.out (by decide) (by decide));clear YV ZU Z3;have Z3:=ZZ;clear ZZ;go_simp
  first|refine⟨Z3,hK _ _ ?_⟩|refine hK _ _ ?_
  clear hK K
  iterate 1
   refine yY fun K hK=>tkF ?_
   go_simp
   try go_bits
   refine hK _ _ ?_;clear hK K
  refine yY fun K hK=>alF ?_
  refine wp_store_row FMT _ _ rfl go ((⟨xJ m.st,(i2:Nat),(i3:Nat),m.sk,m.lo,none,0,0,[],none,0,0,[],none,0,0,[]⟩:KM).cells.toArray) rfl rfl FMT _ HO.out rL rfl (pX _) ?_;have QK:=Z' (Sw.out.made HO.out (show w.heap.size<=go by omega) (by omega) (by omega) (xJ m.st) (i2:Nat) (i3:Nat) m.sk m.lo);have ZZ:BxM w.heap.size (w.heap.size+1) g m (A4.setRow go ((⟨xJ m.st,(i2:Nat),(i3:Nat),m.sk,m.lo,none,0,0,[],none,0,0,[],none,0,0,[]⟩:KM).cells.toArray)):=BxM.of QK.out.h;refine⟨ZZ,hK _ _ ?_⟩;clear hK K Z3 HO;generalize A4.setRow go ((⟨xJ m.st,(i2:Nat),(i3:Nat),m.sk,m.lo,none,0,0,[],none,0,0,[],none,0,0,[]⟩:KM).cells.toArray)=V9 at*;refine yA (fun y=>y=V9) (fun y hy=>hy▸ZZ) rfl ?_;refine yE (fun y hy=> ?_);replace hy:=hy.symm;subst hy
  go_wp2_with fail
  go_meet;exact⟨go,rfl,by omega,QK⟩
 obtain⟨go,rfl,WX,HJ⟩:=hcut;clear Y3 Y' RD;have VH:=Z9 (Calls prog 35 #[.pointer (some ⟨g,0,none⟩),.string ⟨#[67,111,100,101]⟩] wc (uf (.int .i64 ((s3.text wJ).2:Nat)) B g (s3.text wJ).1 wc)) (uC wc B g s3 wJ HJ.out.h.hs (by decide) (by omega) (HJ.out.h.hk.bnd hB));have N7:(s3.text wJ).1.l.length<=s3.l.length+2:=wq s3 _;generalize s3.text wJ=n4 at*;obtain⟨s4,i4⟩:=n4;dsimp only at N7 VH Wb;have k0:wc.cell? ⟨w.heap.size,0,none⟩=some (.pointer (some ⟨g,0,none⟩)):=y8 HJ.out.h.k 0 rfl
 go_wp2_with fail
 refine VH.out.mono ?_;rintro e V4 ⟨rfl,YN,YJ⟩;have X8:=Z' (HJ.out.call YN YJ);clear YN YJ VH HJ k0;have m7:V4.cell? ⟨w.heap.size+1,7,none⟩=some (.slice m.ma m.mn m.mc):=y8 X8.out.h.m 7 rfl
 obtain⟨s5,X'⟩:=Z8 (if m.maps=[]then s4 else(s4.text wH).1)
 rw[<-X']at Wb
 have Q':s5.l.length<=s4.l.length+2:=by
  rw[X'];split
  ·omega
  exact wq s4 _
 have QX:=Z' X';clear X';obtain⟨bm,MU⟩:=Z8 (decide (0<m.mn));have e0:decide (0<m.mn)=bm:=MU.symm;have e1:decide (0<(m.mn:Int))=bm:=by rw[MU];exact decide_eq_decide.2 (by omega)
 have F7:=Z' MU;clear MU
 go_upto_if 45 with fail
 go_cut [] (fun wx=>Hid (MtJ w wx B g w.heap.size (w.heap.size+1) (w.heap.size+1+1) go m (⟨xJ m.st,(i2:Nat),(i3:Nat),m.sk,m.lo,none,0,0,[],none,0,0,[],none,0,0,[]⟩:KM) s5))
 case first=>
  have UH:m.maps.length=m.mn:=HM.out.maps.1
  cases bm
  ·have Rn:m.maps=[]:=List.length_eq_zero_iff.1 (by have:=of_decide_eq_false F7.out.symm;omega);have HQ:=Z' (show s5=s4 by rw[QX.out,if_pos Rn]);clear UH Rn e0 e1
   go_wp2_with fail
   go_meet;exact Z' (by rw[HQ.out];exact X8.out)
  have Rn:¬m.maps=[]:=fun h=>by
   have h1:=of_decide_eq_true F7.out.symm;rw[h]at UH;simp at UH;omega
  have HQ:=Z' (show s5=(s4.text wH).1 by rw[QX.out,if_neg Rn]);have Rk:=Z9 (Calls prog 35 #[.pointer (some ⟨g,0,none⟩),.string ⟨#[83,116,97,99,107,77,97,112]⟩] V4 (uf (.int .i64 ((s4.text wH).2:Nat)) B g (s4.text wH).1 V4)) (uC V4 B g s4 wH X8.out.h.hs (by decide) (by omega) (X8.out.h.hk.bnd hB));have k0:V4.cell? ⟨w.heap.size,0,none⟩=some (.pointer (some ⟨g,0,none⟩)):=y8 X8.out.h.k 0 rfl;clear UH Rn e0 e1
  go_wp2_with fail
  refine Rk.out.mono ?_;rintro e V5 ⟨rfl,X',X5⟩
  go_wp2_with fail
  go_meet;exact Z' (by rw[HQ.out];exact X8.out.call X' X5)
 have Yb:=hcut;clear hcut X8 m7 QX e0 e1 F7;have RJ:=Yb.out.h.hk.belowO Um.out Z5 PU;have Vf:=Z' (HM.out.below RJ);have UB:=Z' HM.out.code.1;have XM:m.code.length<=4096:=HF.out.code;have Xc:=Z' (aG wc B g s5 m.ca m.cn m.cc m.code Yb.out.h.hs Vf.out.code (HM.out.code.lowA PU) HF.out.ins (by rw[<-UB.out];exact XM) (by omega) (Yb.out.h.hk.bnd hB) N9);unfold mA at Xc;have T3:=fY s5 m.code;generalize s5.code m.code=n6 at*;obtain⟨s6,bs⟩:=n6;dsimp only at T3 Xc Wb;have k0:wc.cell? ⟨w.heap.size,0,none⟩=some (.pointer (some ⟨g,0,none⟩)):=y8 Yb.out.h.k 0 rfl;have m5:wc.cell? ⟨w.heap.size+1,5,none⟩=some (.slice m.ca m.cn m.cc):=y8 Yb.out.h.m 5 rfl;have Ap:w.heap.size<=wc.heap.size:=Yb.out.h.hk.size;clear RJ Vf
 go_wp2_with fail
 refine Xc.out.mono ?_;rintro e V6 ⟨ba,bn,bc,gat,rfl,J7,VT,ST,Yw,Sm,XR,Y2⟩;have Zc:=Z' (Yb.out.call XR Y2);have PV:=Z' (J7.mono Ap);have Zi:=Z' Yw;clear J7 VT ST Yw XR Y2 Xc Yb k0 m5 Sm
 go_upto_region 7 with fail
 have ZY:=yV V6 (.cells #[.slice (some ⟨gat,0,none⟩) (m.cn+1) (m.cn+1)] 138);have YB:=Z' (Zc.out.below ZY);have NG:=Z9 (MtA (V6.alloc (.cells #[.slice (some ⟨gat,0,none⟩) (m.cn+1) (m.cn+1)] 138)) V6.heap.size gat m) (⟨heap_alloc_last V6 _,Zi.out.below ZY⟩);have Lp:=Z' (PV.out.below ZY);clear ZY Zc PV Zi;generalize V6.alloc _=V7 at*;generalize V6.heap.size=ga at*;have fo:=xQ YB.out.o 5;have lo:=yG YB.out.o;have co:=y8 YB.out.o 5 rfl;dsimp only[KM.cells]at co
 go_upto_region 8 with fail
 have ZB:=Z9 (MtJ w (V7.setCell ⟨go,5,none⟩ (.slice ba bn bc)) B g w.heap.size (w.heap.size+1) (w.heap.size+1+1) go m (⟨xJ m.st,(i2:Nat),(i3:Nat),m.sk,m.lo,ba,bn,bc,bs,none,0,0,[],none,0,0,[]⟩:KM) s6) (
  YB.out.put (by omega) (by omega) (by omega) 5 _ rfl (YB.out.w.code1 Lp.out))
 have B8:=Z' (NG.out.keptT (uz YB.out.o 5 (.slice ba bn bc)) (by decide) (by decide));clear YB NG Lp fo lo co;generalize V7.setCell ⟨go,5,none⟩ (.slice ba bn bc)=V8 at*;have m6:V8.cell? ⟨w.heap.size+1,6,none⟩=some (.slice m.ta m.tn m.tc):=y8 ZB.out.h.m 6 rfl;have Qq:=Z' HM.out.traps.1;have Gu:=HF.out.traps;rw[Qq.out]at Gu;have Yf:m.cn<=4096:=by rw[<-UB.out];exact XM
 go_wp2_with fail
 go_loopg [61] m.tn (fun gn i wr=>∃(j:Nat) (x:KM),j<=m.tn/\gn=m.tn-j/\i= .int .i64 j/\Hid (x.lp=⟨xJ m.st,(i2:Nat),(i3:Nat),m.sk,m.lo,none,0,0,bs,none,0,0,(s6.traps m.code (m.traps.take j)).2,none,0,0,[]⟩)/\Hid (MtJ w wr B g w.heap.size (w.heap.size+1) (w.heap.size+1+1) go m x (s6.traps m.code (m.traps.take j)).1)/\Hid (MtA wr ga gat m))
 case atStart=>exact⟨0,_,by omega,by omega,by go_num,Z' rfl,ZB,B8⟩
 clear ZB B8 m6;obtain⟨j,x,hj,rfl,rfl,HX,HJ,HA⟩:=hrel;by_cases ZX:j<m.tn
 ·have Uu:=Z' ((HM.out.below (HJ.out.h.hk.belowO Um.out Z5 PU)).traps);obtain⟨bq,off,t,Ym,Zu,ht,q⟩:=Uu.out.getC j ZX;have q0:=q 0 (by omega);have q1:=q 1 (by omega);have q2:=q 2 (by omega);have q3:=q 3 (by omega);rw[Nat.add_zero]at q0;simp only[UT.cells,List.getElem?_cons_zero,List.getElem?_cons_succ]at q0 q1 q2 q3;have XZ:(j:Int)<m.tn:=by omega
  have P4:=Z' (HF.out.tr t (List.mem_of_getElem? ht))
  have Ze:=Z' (show s6.traps m.code (m.traps.take (j+1))=((((s6.traps m.code (m.traps.take j)).1).trap m.code t).1,(s6.traps m.code (m.traps.take j)).2++[(((s6.traps m.code (m.traps.take j)).1).trap m.code t).2]) by
   have YP:=(Z4 ht).1;rw[List.take_succ_eq_append_getElem YP,(Z4 ht).2,aC])
  have Wp:=mT s6 m.code (m.traps.take j);rw[List.length_take,Qq.out,Nat.min_eq_left hj]at Wp
  have Qn:x.tn=j:=by
   have h1:=congrArg (fun y=>y.traps.length) HX.out;have h2:=HJ.out.w.tn;have h3:=iq s6 m.code (m.traps.take j);rw[List.length_take,Qq.out,Nat.min_eq_left hj]at h3;dsimp only[KM.lp]at h1;omega
  generalize s6.traps m.code (m.traps.take j)=SJ at*;obtain⟨sj,lj⟩:=SJ;dsimp only at HX HJ Ze Wp;have N3:=Z' Qn;clear ht q Qn
  go_upto_region 12 with fail
  have ZY:=yV wr (.cells #[.int .i64 t.fr,.int .i64 t.tt,.int .i64 t.pl,.string ⟨t.cl.toArray⟩] 85);have Y3:=Z9 ((wr.alloc (.cells #[.int .i64 t.fr,.int .i64 t.tt,.int .i64 t.pl,.string ⟨t.cl.toArray⟩] 85)).heap[wr.heap.size]? =some (.cells t.cells.toArray 85 (0,0))) (heap_alloc_last wr _);have Yv:=Z' (HJ.out.below ZY);have Wm:=Z' (HA.out.below ZY);clear ZY q0 q1 q2 q3 Ym Zu HJ HA Uu;generalize wr.alloc _=W at*;generalize wr.heap.size=gx at*;have Xs:=Z' (fun V hs hk (ha:MtA V ga gat m)=>pL V B g w.heap.size ga gat sj m.code t.fr ((m.code.length:Int) -1) hs hk (by rw[UB.out];exact ha.a) ha.r XM (by omega));have Wx:=Z' (fun V hs hk (ha:MtA V ga gat m)=>pL V B g w.heap.size ga gat (sj.place m.code t.fr (m.code.length-1)).1 m.code t.tt (m.code.length:Int) hs hk (by rw[UB.out];exact ha.a) ha.r XM (by omega));have WC:=Z' (fun V hs hk (ha:MtA V ga gat m)=>pL V B g w.heap.size ga gat ((sj.place m.code t.fr (m.code.length-1)).1.place m.code t.tt m.code.length).1 m.code t.pl ((m.code.length:Int) -1) hs hk (by rw[UB.out];exact ha.a) ha.r XM (by omega));have Qg:(((sj.place m.code t.fr (m.code.length-1)).1.place m.code t.tt m.code.length).1.place m.code t.pl (m.code.length-1)).1.l.length=sj.l.length:=by simp only[qn]
  obtain⟨RT,WM⟩:=Z8 (sj.trap m.code t);rw[<-WM]at Ze;unfold LW.trap at WM;dsimp only at WM;rw[UB.out]at Xs Wx WC WM Qg;generalize sj.place m.code t.fr ((m.cn:Int) -1)=p1 at*;obtain⟨t1,v1⟩:=p1;dsimp only at Xs Wx WC WM Qg;generalize t1.place m.code t.tt (m.cn:Int)=p2 at*;obtain⟨t2,v2⟩:=p2;dsimp only at Wx WC WM Qg;generalize t2.place m.code t.pl ((m.cn:Int) -1)=p3 at*;obtain⟨t3,v3⟩:=p3;dsimp only at WC WM Qg;have Uu:=Z' WM;clear WM
  go_cut [11] (fun r wx=>∃gt:Nat,r= .pointer (some ⟨gt,0,none⟩)/\w.heap.size+3<=gt/\Hid (∀k,(Value.slice x.ta x.tn x.tc).ownBlock=some k->k≠gt)/\Hid (wx.heap[gt]? =some (.cells (⟨v1,v2,v3,0⟩:KT).cells.toArray TrT (0,0)))/\Hid (wx.heap[gx]? =some (.cells t.cells.toArray 85 (0,0)))/\Hid (MtJ w wx B g w.heap.size (w.heap.size+1) (w.heap.size+1+1) go m x t3)/\Hid (MtA wx ga gat m))
  case first=>
   have Xh:=Z' (Yv.out.below (Z6.drew));have PF:=Z' (Wm.out.below (Z6.drew));have T7:=Z' (yW Y3.out ((Below.refl _ W).drew));have Z3:BxT gx (w.heap.size+1) t m W.drew:=⟨T7.out,Xh.out.h.m⟩;have l0:∀z,BxT gx (w.heap.size+1) t m z->z.cell? ⟨gx,0,none⟩=some (.int .i64 t.fr):=fun z h=>y8 h.1 0 rfl
   have l1:∀z,BxT gx (w.heap.size+1) t m z->z.cell? ⟨gx,1,none⟩=some (.int .i64 t.tt):=fun z h=>y8 h.1 1 rfl
   have l2:∀z,BxT gx (w.heap.size+1) t m z->z.cell? ⟨gx,2,none⟩=some (.int .i64 t.pl):=fun z h=>y8 h.1 2 rfl
   have l3:∀z,BxT gx (w.heap.size+1) t m z->z.cell? ⟨w.heap.size+1,5,none⟩=some (.slice m.ca m.cn m.cc):=fun z h=>y8 h.2 5 rfl
   refine ye (BxT gx (w.heap.size+1) t m) (.of [(0,true),(1,true),(2,true),(3,true),(4,true),(5,true),(6,true),(8,true),(9,true),(10,true),(11,true),(12,true),(13,true),(15,true),(16,true),(17,true),(18,true),(19,true),(20,true),(21,true)] (.fork 7 (.fork 14 (.fork 22 (.of [(23,true),(24,false),(25,false)] (.stir [])) 24 (.of [(22,false),(23,true),(25,false)] (.stir []))) 24 (.of [(14,false),(22,false),(23,true),(25,false)] (.stir []))) 24 (.of [(7,false),(14,false),(22,false),(23,true),(25,false)] (.stir [])))) (by kernel_rfl) (by kernel_rfl) (fun c a d v w h=>by cases d<;>exact h) ?_
   generalize W.drew=V0 at*
   iterate 20
    refine yY fun K hK=>tkF ?_
    go_simp
    try go_bits
    refine hK _ _ ?_;clear hK K
   refine uR ?_ ?_
   ·intro K hK;refine alF ?_;go_step;refine(Xs.out V0 Xh.out.h.hs Xh.out.h.k PF.out).mono ?_;rintro e W1 ⟨rfl,YV,ZU⟩;have U3:=Z' (Xh.out.call YV ZU);have Re:=Z' (PF.out.keepL ZU);have RU:=Z' (ZU.row T7.out (by decide) (by decide));have ZZ:BxT gx (w.heap.size+1) t m W1:=⟨RU.out,U3.out.h.m⟩;clear YV ZU Z3 Xh PF T7;have Z3:=ZZ;clear ZZ;go_simp
    first|refine⟨Z3,hK _ _ ?_⟩|refine hK _ _ ?_
    clear hK K;refine uR ?_ ?_
    ·intro K hK;refine alF ?_;go_step;refine(Wx.out W1 U3.out.h.hs U3.out.h.k Re.out).mono ?_;rintro e W2 ⟨rfl,YV,ZU⟩;have UQ:=Z' (U3.out.call YV ZU);have Q0:=Z' (Re.out.keepL ZU);have Sa:=Z' (ZU.row RU.out (by decide) (by decide));have ZZ:BxT gx (w.heap.size+1) t m W2:=⟨Sa.out,UQ.out.h.m⟩;clear YV ZU Z3 U3 Re RU;have Z3:=ZZ;clear ZZ;go_simp
     first|refine⟨Z3,hK _ _ ?_⟩|refine hK _ _ ?_
     clear hK K;refine uR ?_ ?_
     ·intro K hK;refine alF ?_;go_step;refine(WC.out W2 UQ.out.h.hs UQ.out.h.k Q0.out).mono ?_;rintro e W3 ⟨rfl,YV,ZU⟩;have R0:=Z' (UQ.out.call YV ZU);have Ke:=Z' (Q0.out.keepL ZU);have PE:=Z' (ZU.row Sa.out (by decide) (by decide));have ZZ:BxT gx (w.heap.size+1) t m W3:=⟨PE.out,R0.out.h.m⟩;clear YV ZU Z3 UQ Q0 Sa;have Z3:=ZZ;clear ZZ;go_simp
      first|refine⟨Z3,hK _ _ ?_⟩|refine hK _ _ ?_
      clear hK K
      iterate 1
       refine yY fun K hK=>tkF ?_
       go_simp
       try go_bits
       refine hK _ _ ?_;clear hK K
      refine yY fun K hK=>alF ?_
      go_step;have ZY:=yV W3 (.cells #[.int .i64 0,.int .i64 0,.int .i64 0,.int .i64 0] TrT);have N':=Z' (R0.out.below ZY);have Ju:=Z' (Ke.out.below ZY);have MN:=Z' (yW PE.out ZY);have HO:=Z' (heap_alloc_last W3 (.cells #[.int .i64 0,.int .i64 0,.int .i64 0,.int .i64 0] TrT));have Sm:w.heap.size+3<=W3.heap.size:=Nat.le_trans (Nat.le_trans WX (Nat.le_of_lt (yG R0.out.o))) Z5;have XN:=Z' (fun k (h:(Value.slice x.ta x.tn x.tc).ownBlock=some k)=>Nat.ne_of_lt (R0.out.w.traps.lt k h).2);have Ge:W3.heap.size≠go:=Nat.ne_of_gt (yG R0.out.o);have Yu:W3.heap.size≠gx:=Nat.ne_of_gt (yG PE.out);have ZZ:BxT gx (w.heap.size+1) t m (W3.alloc (.cells #[.int .i64 0,.int .i64 0,.int .i64 0,.int .i64 0] TrT)):=⟨MN.out,N'.out.h.m⟩;refine⟨ZZ,hK _ _ ?_⟩;clear hK K Z3 ZY;have Z3:=ZZ;clear ZZ R0 Ke PE;generalize W3.alloc _=W4 at*;generalize W3.heap.size=gt at*;refine yY fun K hK=>alF ?_
      refine wp_store_row TrT _ _ rfl gt ((⟨v1,v2,v3,0⟩:KT).cells.toArray) rfl rfl TrT _ HO.out nK rfl (nD _) ?_;have UX:Below w.heap.size W4 (W4.setRow gt ((⟨v1,v2,v3,0⟩:KT).cells.toArray)):=below_setRow (by omega) _;have Zt:=sH (cs':=((⟨v1,v2,v3,0⟩:KT).cells.toArray)) HO.out;have ZC:=Z' (N'.out.other Zt UX (N'.out.h.hs.setR HO.out (by decide) (by decide) (by omega) _) (.inr (fun k h=>(XN.out k h))) (fun g h=>setRow_other W4 gt g _ h));have RV:=Z' (Ju.out.keptT Zt (by decide) (by decide));have Qv:=Z' (Zt.2 _ _ _ _ MN.out (by decide));have X3:=Z' (setRow_heap W4 gt _ ((⟨v1,v2,v3,0⟩:KT).cells.toArray) _ _ HO.out);have ZZ:BxT gx (w.heap.size+1) t m (W4.setRow gt ((⟨v1,v2,v3,0⟩:KT).cells.toArray)):=⟨Qv.out,ZC.out.h.m⟩;refine⟨ZZ,hK _ _ ?_⟩;clear hK K Z3 HO UX Zt N' Ju MN;generalize W4.setRow gt ((⟨v1,v2,v3,0⟩:KT).cells.toArray)=V9 at*;refine yA (fun y=>y=V9) (fun y hy=>hy▸ZZ) rfl ?_;refine yE (fun y hy=> ?_);replace hy:=hy.symm;subst hy
      go_wp2_with fail
      go_meet;exact⟨gt,rfl,by omega,XN,X3,Qv,ZC,RV⟩
     intro K hK;refine alF ?_;go_step;have ZY:=yV W2 (.cells #[.int .i64 0,.int .i64 0,.int .i64 0,.int .i64 0] TrT);have Vi:=Z' (UQ.out.below ZY);have SL:=Z' (Q0.out.below ZY);have Te:=Z' (yW Sa.out ZY);have HO:=Z' (heap_alloc_last W2 (.cells #[.int .i64 0,.int .i64 0,.int .i64 0,.int .i64 0] TrT));have Sm:w.heap.size+3<=W2.heap.size:=Nat.le_trans (Nat.le_trans WX (Nat.le_of_lt (yG UQ.out.o))) Z5;have XN:=Z' (fun k (h:(Value.slice x.ta x.tn x.tc).ownBlock=some k)=>Nat.ne_of_lt (UQ.out.w.traps.lt k h).2);have Ge:W2.heap.size≠go:=Nat.ne_of_gt (yG UQ.out.o);have Yu:W2.heap.size≠gx:=Nat.ne_of_gt (yG Sa.out);have ZZ:BxT gx (w.heap.size+1) t m (W2.alloc (.cells #[.int .i64 0,.int .i64 0,.int .i64 0,.int .i64 0] TrT)):=⟨Te.out,Vi.out.h.m⟩;refine⟨ZZ,hK _ _ ?_⟩;clear hK K Z3 ZY;have Z3:=ZZ;clear ZZ UQ Q0 Sa;generalize W2.alloc _=A3 at*;generalize W2.heap.size=gt at*;refine yY fun K hK=>alF ?_
     go_step;refine(WC.out A3 Vi.out.h.hs Vi.out.h.k SL.out).mono ?_;rintro e A6 ⟨rfl,YV,ZU⟩;have PX:=Z' (Vi.out.call YV ZU);have Ka:=Z' (SL.out.keepL ZU);have Nt:=Z' (ZU.row Te.out (by decide) (by decide));have ZZ:BxT gx (w.heap.size+1) t m A6:=⟨Nt.out,PX.out.h.m⟩;replace HO:=Z' (ZU.row HO.out (by decide) (by decide));clear YV ZU Z3 Vi SL Te;have Z3:=ZZ;clear ZZ;go_simp
     first|refine⟨Z3,hK _ _ ?_⟩|refine hK _ _ ?_
     clear hK K
     iterate 1
      refine yY fun K hK=>tkF ?_
      go_simp
      try go_bits
      refine hK _ _ ?_;clear hK K
     refine yY fun K hK=>alF ?_
     refine wp_store_row TrT _ _ rfl gt ((⟨v1,v2,v3,0⟩:KT).cells.toArray) rfl rfl TrT _ HO.out nK rfl (nD _) ?_;have UX:Below w.heap.size A6 (A6.setRow gt ((⟨v1,v2,v3,0⟩:KT).cells.toArray)):=below_setRow (by omega) _;have Zt:=sH (cs':=((⟨v1,v2,v3,0⟩:KT).cells.toArray)) HO.out;have ZC:=Z' (PX.out.other Zt UX (PX.out.h.hs.setR HO.out (by decide) (by decide) (by omega) _) (.inr (fun k h=>(XN.out k h))) (fun g h=>setRow_other A6 gt g _ h));have RV:=Z' (Ka.out.keptT Zt (by decide) (by decide));have Qv:=Z' (Zt.2 _ _ _ _ Nt.out (by decide));have X3:=Z' (setRow_heap A6 gt _ ((⟨v1,v2,v3,0⟩:KT).cells.toArray) _ _ HO.out);have ZZ:BxT gx (w.heap.size+1) t m (A6.setRow gt ((⟨v1,v2,v3,0⟩:KT).cells.toArray)):=⟨Qv.out,ZC.out.h.m⟩;refine⟨ZZ,hK _ _ ?_⟩;clear hK K Z3 HO UX Zt PX Ka Nt;generalize A6.setRow gt ((⟨v1,v2,v3,0⟩:KT).cells.toArray)=V9 at*;refine yA (fun y=>y=V9) (fun y hy=>hy▸ZZ) rfl ?_;refine yE (fun y hy=> ?_);replace hy:=hy.symm;subst hy
     go_wp2_with fail
     go_meet;exact⟨gt,rfl,by omega,XN,X3,Qv,ZC,RV⟩
    intro K hK;refine alF ?_;go_step;have ZY:=yV W1 (.cells #[.int .i64 0,.int .i64 0,.int .i64 0,.int .i64 0] TrT);have Vm:=Z' (U3.out.below ZY);have Tf:=Z' (Re.out.below ZY);have Ti:=Z' (yW RU.out ZY);have HO:=Z' (heap_alloc_last W1 (.cells #[.int .i64 0,.int .i64 0,.int .i64 0,.int .i64 0] TrT));have Sm:w.heap.size+3<=W1.heap.size:=Nat.le_trans (Nat.le_trans WX (Nat.le_of_lt (yG U3.out.o))) Z5;have XN:=Z' (fun k (h:(Value.slice x.ta x.tn x.tc).ownBlock=some k)=>Nat.ne_of_lt (U3.out.w.traps.lt k h).2);have Ge:W1.heap.size≠go:=Nat.ne_of_gt (yG U3.out.o);have Yu:W1.heap.size≠gx:=Nat.ne_of_gt (yG RU.out);have ZZ:BxT gx (w.heap.size+1) t m (W1.alloc (.cells #[.int .i64 0,.int .i64 0,.int .i64 0,.int .i64 0] TrT)):=⟨Ti.out,Vm.out.h.m⟩;refine⟨ZZ,hK _ _ ?_⟩;clear hK K Z3 ZY;have Z3:=ZZ;clear ZZ U3 Re RU;generalize W1.alloc _=A2 at*;generalize W1.heap.size=gt at*;refine yY fun K hK=>alF ?_
    go_step;refine(Wx.out A2 Vm.out.h.hs Vm.out.h.k Tf.out).mono ?_;rintro e A4 ⟨rfl,YV,ZU⟩;have U4:=Z' (Vm.out.call YV ZU);have R1:=Z' (Tf.out.keepL ZU);have S4:=Z' (ZU.row Ti.out (by decide) (by decide));have ZZ:BxT gx (w.heap.size+1) t m A4:=⟨S4.out,U4.out.h.m⟩;replace HO:=Z' (ZU.row HO.out (by decide) (by decide));clear YV ZU Z3 Vm Tf Ti;have Z3:=ZZ;clear ZZ;go_simp
    first|refine⟨Z3,hK _ _ ?_⟩|refine hK _ _ ?_
    clear hK K;refine yY fun K hK=>alF ?_
    go_step;refine(WC.out A4 U4.out.h.hs U4.out.h.k R1.out).mono ?_;rintro e A5 ⟨rfl,YV,ZU⟩;have PC:=Z' (U4.out.call YV ZU);have Ki:=Z' (R1.out.keepL ZU);have MQ:=Z' (ZU.row S4.out (by decide) (by decide));have ZZ:BxT gx (w.heap.size+1) t m A5:=⟨MQ.out,PC.out.h.m⟩;replace HO:=Z' (ZU.row HO.out (by decide) (by decide));clear YV ZU Z3 U4 R1 S4;have Z3:=ZZ;clear ZZ;go_simp
    first|refine⟨Z3,hK _ _ ?_⟩|refine hK _ _ ?_
    clear hK K
    iterate 1
     refine yY fun K hK=>tkF ?_
     go_simp
     try go_bits
     refine hK _ _ ?_;clear hK K
    refine yY fun K hK=>alF ?_
    refine wp_store_row TrT _ _ rfl gt ((⟨v1,v2,v3,0⟩:KT).cells.toArray) rfl rfl TrT _ HO.out nK rfl (nD _) ?_;have UX:Below w.heap.size A5 (A5.setRow gt ((⟨v1,v2,v3,0⟩:KT).cells.toArray)):=below_setRow (by omega) _;have Zt:=sH (cs':=((⟨v1,v2,v3,0⟩:KT).cells.toArray)) HO.out;have ZC:=Z' (PC.out.other Zt UX (PC.out.h.hs.setR HO.out (by decide) (by decide) (by omega) _) (.inr (fun k h=>(XN.out k h))) (fun g h=>setRow_other A5 gt g _ h));have RV:=Z' (Ki.out.keptT Zt (by decide) (by decide));have Qv:=Z' (Zt.2 _ _ _ _ MQ.out (by decide));have X3:=Z' (setRow_heap A5 gt _ ((⟨v1,v2,v3,0⟩:KT).cells.toArray) _ _ HO.out);have ZZ:BxT gx (w.heap.size+1) t m (A5.setRow gt ((⟨v1,v2,v3,0⟩:KT).cells.toArray)):=⟨Qv.out,ZC.out.h.m⟩;refine⟨ZZ,hK _ _ ?_⟩;clear hK K Z3 HO UX Zt PC Ki MQ;generalize A5.setRow gt ((⟨v1,v2,v3,0⟩:KT).cells.toArray)=V9 at*;refine yA (fun y=>y=V9) (fun y hy=>hy▸ZZ) rfl ?_;refine yE (fun y hy=> ?_);replace hy:=hy.symm;subst hy
    go_wp2_with fail
    go_meet;exact⟨gt,rfl,by omega,XN,X3,Qv,ZC,RV⟩
   intro K hK;refine alF ?_;go_step;have ZY:=yV V0 (.cells #[.int .i64 0,.int .i64 0,.int .i64 0,.int .i64 0] TrT);have Q4:=Z' (Xh.out.below ZY);have MH:=Z' (PF.out.below ZY);have MS:=Z' (yW T7.out ZY);have HO:=Z' (heap_alloc_last V0 (.cells #[.int .i64 0,.int .i64 0,.int .i64 0,.int .i64 0] TrT));have Sm:w.heap.size+3<=V0.heap.size:=Nat.le_trans (Nat.le_trans WX (Nat.le_of_lt (yG Xh.out.o))) Z5;have XN:=Z' (fun k (h:(Value.slice x.ta x.tn x.tc).ownBlock=some k)=>Nat.ne_of_lt (Xh.out.w.traps.lt k h).2);have Ge:V0.heap.size≠go:=Nat.ne_of_gt (yG Xh.out.o);have Yu:V0.heap.size≠gx:=Nat.ne_of_gt (yG T7.out);have ZZ:BxT gx (w.heap.size+1) t m (V0.alloc (.cells #[.int .i64 0,.int .i64 0,.int .i64 0,.int .i64 0] TrT)):=⟨MS.out,Q4.out.h.m⟩;refine⟨ZZ,hK _ _ ?_⟩;clear hK K Z3 ZY;have Z3:=ZZ;clear ZZ Xh PF T7;generalize V0.alloc _=A1 at*;generalize V0.heap.size=gt at*;refine yY fun K hK=>alF ?_
   go_step;refine(Xs.out A1 Q4.out.h.hs Q4.out.h.k MH.out).mono ?_;rintro e A2 ⟨rfl,YV,ZU⟩;have Vm:=Z' (Q4.out.call YV ZU);have Tf:=Z' (MH.out.keepL ZU);have Ti:=Z' (ZU.row MS.out (by decide) (by decide));have ZZ:BxT gx (w.heap.size+1) t m A2:=⟨Ti.out,Vm.out.h.m⟩;replace HO:=Z' (ZU.row HO.out (by decide) (by decide));clear YV ZU Z3 Q4 MH MS;have Z3:=ZZ;clear ZZ;go_simp
   first|refine⟨Z3,hK _ _ ?_⟩|refine hK _ _ ?_
   clear hK K;refine yY fun K hK=>alF ?_
   go_step;refine(Wx.out A2 Vm.out.h.hs Vm.out.h.k Tf.out).mono ?_;rintro e A3 ⟨rfl,YV,ZU⟩;have Vi:=Z' (Vm.out.call YV ZU);have SL:=Z' (Tf.out.keepL ZU);have Te:=Z' (ZU.row Ti.out (by decide) (by decide));have ZZ:BxT gx (w.heap.size+1) t m A3:=⟨Te.out,Vi.out.h.m⟩;replace HO:=Z' (ZU.row HO.out (by decide) (by decide));clear YV ZU Z3 Vm Tf Ti;have Z3:=ZZ;clear ZZ;go_simp
   first|refine⟨Z3,hK _ _ ?_⟩|refine hK _ _ ?_
   clear hK K;refine yY fun K hK=>alF ?_
   go_step;refine(WC.out A3 Vi.out.h.hs Vi.out.h.k SL.out).mono ?_;rintro e A4 ⟨rfl,YV,ZU⟩;have U4:=Z' (Vi.out.call YV ZU);have R1:=Z' (SL.out.keepL ZU);have S4:=Z' (ZU.row Te.out (by decide) (by decide));have ZZ:BxT gx (w.heap.size+1) t m A4:=⟨S4.out,U4.out.h.m⟩;replace HO:=Z' (ZU.row HO.out (by decide) (by decide));clear YV ZU Z3 Vi SL Te;have Z3:=ZZ;clear ZZ;go_simp
   first|refine⟨Z3,hK _ _ ?_⟩|refine hK _ _ ?_
   clear hK K
   iterate 1
    refine yY fun K hK=>tkF ?_
    go_simp
    try go_bits
    refine hK _ _ ?_;clear hK K
   refine yY fun K hK=>alF ?_
   refine wp_store_row TrT _ _ rfl gt ((⟨v1,v2,v3,0⟩:KT).cells.toArray) rfl rfl TrT _ HO.out nK rfl (nD _) ?_;have UX:Below w.heap.size A4 (A4.setRow gt ((⟨v1,v2,v3,0⟩:KT).cells.toArray)):=below_setRow (by omega) _;have Zt:=sH (cs':=((⟨v1,v2,v3,0⟩:KT).cells.toArray)) HO.out;have ZC:=Z' (U4.out.other Zt UX (U4.out.h.hs.setR HO.out (by decide) (by decide) (by omega) _) (.inr (fun k h=>(XN.out k h))) (fun g h=>setRow_other A4 gt g _ h));have RV:=Z' (R1.out.keptT Zt (by decide) (by decide));have Qv:=Z' (Zt.2 _ _ _ _ S4.out (by decide));have X3:=Z' (setRow_heap A4 gt _ ((⟨v1,v2,v3,0⟩:KT).cells.toArray) _ _ HO.out);have ZZ:BxT gx (w.heap.size+1) t m (A4.setRow gt ((⟨v1,v2,v3,0⟩:KT).cells.toArray)):=⟨Qv.out,ZC.out.h.m⟩;refine⟨ZZ,hK _ _ ?_⟩;clear hK K Z3 HO UX Zt U4 R1 S4;generalize A4.setRow gt ((⟨v1,v2,v3,0⟩:KT).cells.toArray)=V9 at*;refine yA (fun y=>y=V9) (fun y hy=>hy▸ZZ) rfl ?_;refine yE (fun y hy=> ?_);replace hy:=hy.symm;subst hy
   go_wp2_with fail
   go_meet;exact⟨gt,rfl,by omega,XN,X3,Qv,ZC,RV⟩
  obtain⟨gt,rfl,Sm,FC,Sx,Yn,Yb,Qh⟩:=hcut;clear Xs Wx WC Yv Wm Y3;have x3:=y8 Yn.out 3 rfl;dsimp only[UT.cells]at x3;by_cases hc:t.cl=[]
  ·have e0:(t.cl !=[])=false:=by rw[hc];rfl
   have e1:t.cl.isEmpty=true:=by rw[hc];rfl
   have ZS:=Z' (show RT=(t3,⟨v1,v2,v3,0⟩) by rw[Uu.out,if_pos hc]);have YB:=Yb;have NG:=Qh;have Xz:=Sx;clear hc Yn Yb Qh Sx;have MR:=YB.out.h.hk.size;have ct:=y8 YB.out.o 6 rfl;have y0:=y8 Xz.out 0 rfl;have y1:=y8 Xz.out 1 rfl;have y2:=y8 Xz.out 2 rfl;have y3:=y8 Xz.out 3 rfl;dsimp only[KM.cells,KT.cells]at ct y0 y1 y2 y3;have Jc:x.tn<=1024:=by rw[N3.out];omega
   go_wp2_with (at_builtin;refine wU fD rfl _ _ rfl w.heap.size _ x.tn _ rfl YB.out.w.traps _ 1 _ _ rfl (by simp) rfl rfl (by omega) (by unfold maxLen;omega) MR ?_;intro v9 w9 Z0 ZA ZK;have ZW:w9.ownsRow w.heap.size TrT 4 v9 (x.tn+1) ((x.traps++[(⟨v1,v2,v3,0⟩:KT)]).flatMap KT.cells):=(by rw[List.flatMap_append];exact Z0);obtain⟨a9,c9,rfl,-,-⟩:=Ss.ofOwn KT.cells_length (by decide) ZW;have YH:=Z' (YB.out.app VB YB.out.w.traps ZA ZK (by decide) (by decide) (by decide) (by decide) (by decide));have Vg:=Z' (YB.out.w.traps1 (yd.app YB.out.w.traps ZA) ZW);have RV:=Z' (NG.out.keptT (yd.app YB.out.w.traps ZA) (by decide) (by decide));have fo:=xQ YH.out.2 6;have lo:=yG YH.out.2;have co:=y8 YH.out.2 6 rfl;dsimp only[KM.cells]at co;clear Z0 ZW ZA ZK ct y0 y1 y2 y3)
   have ZC:=Z' (YH.out.1.put (x':={x with ta:=a9,tn:=x.tn+1,tc:=c9,traps:=x.traps++[(⟨v1,v2,v3,0⟩:KT)]}) YH.out.2 (by omega) (by omega) (by omega) 6 (.slice a9 (x.tn+1) c9) rfl Vg.out);have QJ:=Z' (RV.out.keptT (uz YH.out.2 6 (.slice a9 (x.tn+1) c9)) (by decide) (by decide));clear fo lo co YH Vg RV YB NG Xz;go_roundg (m.tn-(j+1))
   case measure=>omega
   exact⟨j+1,{x with ta:=a9,tn:=x.tn+1,tc:=c9,traps:=x.traps++[(⟨v1,v2,v3,0⟩:KT)]},by omega,rfl,by go_num,Z' (by rw[Ze.out,ZS.out];exact KM.lp_traps1 HX.out _ _ _ _),Z' (by rw[Ze.out,ZS.out];exact ZC.out),QJ⟩
  have e0:(t.cl !=[])=true:=by simpa using hc
  have e1:t.cl.isEmpty=false:=by simpa using hc
  have MA:=show RT=((t3.cls t.cl false).1,⟨v1,v2,v3,((t3.cls t.cl false).2:Nat)⟩) by rw[Uu.out,if_neg hc]
  have Y4:=Z' (sG wc B g t3 t.cl false Yb.out.h.hs P4.out (by omega) (Yb.out.h.hk.bnd hB));generalize t3.cls t.cl false=c5 at*;obtain⟨s5,i5⟩:=c5;dsimp only at MA Y4;have ZS:=Z' MA;have k0:wc.cell? ⟨w.heap.size,0,none⟩=some (.pointer (some ⟨g,0,none⟩)):=y8 Yb.out.h.k 0 rfl;clear hc MA
  go_wp2_with fail
  refine Y4.out.mono ?_;rintro e V6 ⟨rfl,XR,Y2⟩;have Zc:=Z' (Yb.out.call XR Y2);have JK:=Z' (Qh.out.keepL Y2);have Ww:=Z' (Y2.row Sx.out (by decide) (by decide));clear XR Y2 Yb Qh Sx Yn x3 k0 Y4;have XN:=Z' (fun k (h:(Value.slice x.ta x.tn x.tc).ownBlock=some k)=>FC.out k h);have fy:=xQ Ww.out 3;have ly:=yG Ww.out;have cy:=y8 Ww.out 3 rfl;dsimp only[KT.cells]at cy
  go_upto_region 15 with fail
  have Zt:=uz Ww.out 3 (.int .i64 (i5:Nat))
  have YB:=Z' (Zc.out.other Zt (Z6.setCell (show w.heap.size<=gt by omega) _) (Zc.out.h.hs.setO Ww.out (by decide) (by decide) (by omega) 3 (.int .i64 (i5:Nat))) (.inr XN.out) (fun i hi=>(by
   unfold World.setCell;simp[Array.getElem?_modify,Ne.symm hi])))
  have NG:=Z' (JK.out.keptT Zt (by decide) (by decide));have Xz:=Z9 ((V6.setCell ⟨gt,3,none⟩ (.int .i64 (i5:Nat))).heap[gt]? =some (.cells (⟨v1,v2,v3,(i5:Nat)⟩:KT).cells.toArray TrT (0,0))) (wZ Ww.out 3 _);clear Zt fy ly cy Zc JK Ww XN;generalize V6.setCell ⟨gt,3,none⟩ (.int .i64 (i5:Nat))=V7 at*;have MR:=YB.out.h.hk.size;have ct:=y8 YB.out.o 6 rfl;have y0:=y8 Xz.out 0 rfl;have y1:=y8 Xz.out 1 rfl;have y2:=y8 Xz.out 2 rfl;have y3:=y8 Xz.out 3 rfl;dsimp only[KM.cells,KT.cells]at ct y0 y1 y2 y3;have Jc:x.tn<=1024:=by rw[N3.out];omega
  go_wp2_with (at_builtin;refine wU fD rfl _ _ rfl w.heap.size _ x.tn _ rfl YB.out.w.traps _ 1 _ _ rfl (by simp) rfl rfl (by omega) (by unfold maxLen;omega) MR ?_;intro v9 w9 Z0 ZA ZK;have ZW:w9.ownsRow w.heap.size TrT 4 v9 (x.tn+1) ((x.traps++[(⟨v1,v2,v3,(i5:Nat)⟩:KT)]).flatMap KT.cells):=(by rw[List.flatMap_append];exact Z0);obtain⟨a9,c9,rfl,-,-⟩:=Ss.ofOwn KT.cells_length (by decide) ZW;have YH:=Z' (YB.out.app VB YB.out.w.traps ZA ZK (by decide) (by decide) (by decide) (by decide) (by decide));have Vg:=Z' (YB.out.w.traps1 (yd.app YB.out.w.traps ZA) ZW);have RV:=Z' (NG.out.keptT (yd.app YB.out.w.traps ZA) (by decide) (by decide));have fo:=xQ YH.out.2 6;have lo:=yG YH.out.2;have co:=y8 YH.out.2 6 rfl;dsimp only[KM.cells]at co;clear Z0 ZW ZA ZK ct y0 y1 y2 y3)
  have ZC:=Z' (YH.out.1.put (x':={x with ta:=a9,tn:=x.tn+1,tc:=c9,traps:=x.traps++[(⟨v1,v2,v3,(i5:Nat)⟩:KT)]}) YH.out.2 (by omega) (by omega) (by omega) 6 (.slice a9 (x.tn+1) c9) rfl Vg.out);have QJ:=Z' (RV.out.keptT (uz YH.out.2 6 (.slice a9 (x.tn+1) c9)) (by decide) (by decide));clear fo lo co YH Vg RV YB NG Xz;go_roundg (m.tn-(j+1))
  case measure=>omega
  exact⟨j+1,{x with ta:=a9,tn:=x.tn+1,tc:=c9,traps:=x.traps++[(⟨v1,v2,v3,(i5:Nat)⟩:KT)]},by omega,rfl,by go_num,Z' (by rw[Ze.out,ZS.out];exact KM.lp_traps1 HX.out _ _ _ _),Z' (by rw[Ze.out,ZS.out];exact ZC.out),QJ⟩
 have GP:j=m.tn:=by omega
 subst GP;have ZV:m.traps.take m.tn=m.traps:=List.take_of_length_le (by rw[Qq.out];exact Nat.le_refl _);rw[ZV]at HX HJ;have Mg:=mT s6 m.code m.traps;rw[Qq.out]at Mg;generalize s6.traps m.code m.traps=S7 at*;obtain⟨s7,trs⟩:=S7;dsimp only at HX HJ Wb Mg;obtain⟨W9,JX⟩:=Z8 (wr);subst JX;have m7:W9.cell? ⟨w.heap.size+1,7,none⟩=some (.slice m.ma m.mn m.mc):=y8 HJ.out.h.m 7 rfl;have Th:=Z' HM.out.maps.1;have Rx:=HF.out.maps;rw[Th.out]at Rx;clear ZV ZX hj
 go_wp2_with fail
 go_loopg [107] m.mn (fun gn i wx=>∃(k:Nat) (x:KM),k<=m.mn/\gn=m.mn-k/\i= .int .i64 k/\Hid (x.lp=⟨xJ m.st,(i2:Nat),(i3:Nat),m.sk,m.lo,none,0,0,bs,none,0,0,trs,none,0,0,(s7.maps m.code (m.maps.take k)).2⟩)/\Hid (MtJ w wx B g w.heap.size (w.heap.size+1) (w.heap.size+1+1) go m x (s7.maps m.code (m.maps.take k)).1)/\Hid (MtA wx ga gat m))
 case atStart=>exact⟨0,_,by omega,by omega,by go_num,HX,HJ,HA⟩
 clear HX HJ HA m7;obtain⟨k,x,hk,rfl,rfl,HX,HJ,HA⟩:=hrel;by_cases ZX:k<m.mn
 ·have RJ:=HJ.out.h.hk.belowO Um.out Z5 PU;have BB:=Z' ((HM.out.below RJ).maps);have B1:=Z' ((HM.out.below RJ).each);have Vk:=Z' HM.out.each;obtain⟨bq,off,p,Ym,Zu,hp,q⟩:=BB.out.getC k ZX;have q0:=q 0 (by omega);have q1:=q 1 (by omega);have q2:=q 2 (by omega);rw[Nat.add_zero]at q0;simp only[UP.cells,List.getElem?_cons_zero,List.getElem?_cons_succ]at q0 q1 q2;have XZ:(k:Int)<m.mn:=by omega
  have VL:=List.mem_of_getElem? hp;have Jp:=Z' (HF.out.mp p VL);have BH:=Z' (B1.out p VL);have RC:=Z9 (rZ B p.la p.ln/\rZ B p.sa p.sn) (⟨(Vk.out p VL).loc.lowA PU,(Vk.out p VL).stk.lowA PU⟩);have NJ:=Z9 (p.loc.length=p.ln/\p.stk.length=p.sn) (⟨(Vk.out p VL).loc.1,(Vk.out p VL).stk.1⟩)
  have Ze:=Z' (show s7.maps m.code (m.maps.take (k+1))=((((s7.maps m.code (m.maps.take k)).1).map m.code p).1,(s7.maps m.code (m.maps.take k)).2++[(((s7.maps m.code (m.maps.take k)).1).map m.code p).2]) by
   have YP:=(Z4 hp).1;rw[List.take_succ_eq_append_getElem YP,(Z4 hp).2,D3k])
  have Wp:=fW s7 m.code (m.maps.take k) (fun p hp=>HF.out.mp p (List.mem_of_mem_take hp));rw[List.length_take,Th.out,Nat.min_eq_left hk]at Wp
  have Qn:x.mn=k:=by
   have h1:=congrArg (fun y=>y.maps.length) HX.out;have h2:=HJ.out.w.mn;have h3:=gD s7 m.code (m.maps.take k);rw[List.length_take,Th.out,Nat.min_eq_left hk]at h3;dsimp only[KM.lp]at h1;rw[List.length_map]at h1;omega
  generalize s7.maps m.code (m.maps.take k)=SJ at*;obtain⟨sj,lj⟩:=SJ;dsimp only at HX HJ Ze Wp;have N3:=Z' Qn;clear hp q Qn VL B1 Vk BB RJ
  go_upto_region 20 with fail
  have ZY:=yV wr (.cells #[.int .i64 p.pl,.slice p.la p.ln p.lc,.slice p.sa p.sn p.sc] 88);have Y3:=Z9 ((wr.alloc (.cells #[.int .i64 p.pl,.slice p.la p.ln p.lc,.slice p.sa p.sn p.sc] 88)).heap[wr.heap.size]? =some (.cells p.cells.toArray 88 (0,0))) (heap_alloc_last wr _);have Yv:=Z' (HJ.out.below ZY);have Wm:=Z' (HA.out.below ZY);have P9:=Z' (BH.out.below ZY);clear ZY q0 q1 q2 Ym Zu HJ HA BH;generalize wr.alloc _=W at*;generalize wr.heap.size=gx at*;have Xs:=Z' (fun V hs hk (ha:MtA V ga gat m)=>pL V B g w.heap.size ga gat sj m.code p.pl ((m.code.length:Int) -1) hs hk (by rw[UB.out];exact ha.a) ha.r XM (by omega));have EH:p.ln<=1024:=by have h:=Jp.out.loc;rw[NJ.out.1]at h;exact h
  have F5:p.sn<=1024:=by have h:=Jp.out.stk;rw[NJ.out.2]at h;exact h
  obtain⟨RT,WM⟩:=Z8 (sj.map m.code p);rw[<-WM]at Ze;unfold LW.map at WM;dsimp only at WM;have Qg:(sj.place m.code p.pl (m.code.length-1)).1.l.length=sj.l.length:=by simp only[qn]
  rw[UB.out]at Xs WM Qg;generalize sj.place m.code p.pl ((m.cn:Int) -1)=p1 at*;obtain⟨t1,v1⟩:=p1;dsimp only at Xs WM Qg;have PD:=Z' (fun V hs hl Yc=>jx V B g t1 p.la p.ln p.lc p.loc hs hl RC.out.1 Jp.out.lt EH (by omega) Yc N9);unfold mE at PD;have DT:=pm t1 p.loc;rw[NJ.out.1]at DT;generalize t1.slots p.loc=p2 at*;obtain⟨t2,v2⟩:=p2;dsimp only at PD WM DT;have PK:=Z' (fun V hs hl Yc=>jx V B g t2 p.sa p.sn p.sc p.stk hs hl RC.out.2 Jp.out.st F5 (by omega) Yc N9);unfold mE at PK;generalize t2.slots p.stk=p3 at*;obtain⟨t3,v3⟩:=p3;dsimp only at PK WM;have Uu:=Z' WM;clear WM;have Xh:=Z' (Yv.out.below (Z6.drew));have PF:=Z' (Wm.out.below (Z6.drew));have T7:=Z' (yW Y3.out ((Below.refl _ W).drew));have Gb:=Z' (P9.out.below ((Below.refl _ W).drew));have Z3:BxP gx w.heap.size (w.heap.size+1) go g p m (.slice x.ma x.mn x.mc) W.drew:=⟨T7.out,Xh.out.h.m,Xh.out.h.k,y8 Xh.out.o 7 rfl⟩;have l0:=fun z (h:BxP gx w.heap.size (w.heap.size+1) go g p m (.slice x.ma x.mn x.mc) z)=>h.2.2.2
  have l1:∀z,BxP gx w.heap.size (w.heap.size+1) go g p m (.slice x.ma x.mn x.mc) z->z.cell? ⟨gx,0,none⟩=some (.int .i64 p.pl):=fun z h=>y8 h.1 0 rfl
  have l2:∀z,BxP gx w.heap.size (w.heap.size+1) go g p m (.slice x.ma x.mn x.mc) z->z.cell? ⟨gx,1,none⟩=some (.slice p.la p.ln p.lc):=fun z h=>y8 h.1 1 rfl
  have l3:∀z,BxP gx w.heap.size (w.heap.size+1) go g p m (.slice x.ma x.mn x.mc) z->z.cell? ⟨gx,2,none⟩=some (.slice p.sa p.sn p.sc):=fun z h=>y8 h.1 2 rfl
  have l4:∀z,BxP gx w.heap.size (w.heap.size+1) go g p m (.slice x.ma x.mn x.mc) z->z.cell? ⟨w.heap.size+1,5,none⟩=some (.slice m.ca m.cn m.cc):=fun z h=>y8 h.2.1 5 rfl
  have l5:∀z,BxP gx w.heap.size (w.heap.size+1) go g p m (.slice x.ma x.mn x.mc) z->z.cell? ⟨w.heap.size,0,none⟩=some (.pointer (some ⟨g,0,none⟩)):=fun z h=>y8 h.2.2.1 0 rfl
  refine tq (BxP gx w.heap.size (w.heap.size+1) go g p m (.slice x.ma x.mn x.mc)) 22 [(0,true),(1,true),(2,true),(3,true),(4,true),(5,true),(6,true),(7,true),(8,true),(10,true),(11,true),(12,true),(14,true),(15,true),(16,true),(9,false),(13,false),(17,false),(18,true),(19,false),(20,false),(21,true)] (by kernel_rfl) (by kernel_rfl) (fun c a d v w h=>by cases d<;>exact h) ?_
  generalize W.drew=V0 at*
  iterate 15
   refine xU fun K hK=>tkF ?_
   go_simp
   try go_bits
   refine hK _ _ ?_;clear hK K
  refine xU fun K hK=>alF ?_
  go_step;refine(Xs.out V0 Xh.out.h.hs Xh.out.h.k PF.out).mono ?_;rintro e V1 ⟨rfl,YV,ZU⟩;have WA:=Z' (Xh.out.call YV ZU);have WP:=Z' (PF.out.keepL ZU);have Y':=Z' (ZU.row T7.out (by decide) (by decide));have U5:=Z9 (p.Rd V1) (⟨ZU.sl Gb.out.loc RC.out.1,ZU.sl Gb.out.stk RC.out.2⟩);have ZZ:BxP gx w.heap.size (w.heap.size+1) go g p m (.slice x.ma x.mn x.mc) V1:=⟨Y'.out,WA.out.h.m,WA.out.h.k,y8 WA.out.o 7 rfl⟩;clear YV ZU Z3 Xh PF T7 Gb Xs Yv Wm Y3 P9;have Z3:=ZZ;clear ZZ;go_simp
  first|refine⟨Z3,hK _ _ ?_⟩|refine hK _ _ ?_
  clear hK K;refine xU fun K hK=>alF ?_
  go_step;refine(PD.out V1 WA.out.h.hs U5.out.loc (WA.out.h.hk.bnd hB)).mono ?_;rintro e V2 ⟨oa,oc,rfl,UE,YV,ZU⟩;have Wc:=Z' (WA.out.call YV ZU);have Ws:=Z' (WP.out.keepL ZU);have VF:=Z' (ZU.row Y'.out (by decide) (by decide));have VE:=Z9 (p.Rd V2) (⟨ZU.sl U5.out.loc RC.out.1,ZU.sl U5.out.stk RC.out.2⟩);have Xk:=Z' (wg UE WA.out.h.hk.size);have ZZ:BxP gx w.heap.size (w.heap.size+1) go g p m (.slice x.ma x.mn x.mc) V2:=⟨VF.out,Wc.out.h.m,Wc.out.h.k,y8 Wc.out.o 7 rfl⟩;clear YV ZU Z3 WA WP Y' U5 PD UE;have Z3:=ZZ;clear ZZ;go_simp
  first|refine⟨Z3,hK _ _ ?_⟩|refine hK _ _ ?_
  clear hK K;refine xU fun K hK=>alF ?_
  go_step;refine(PK.out V2 Wc.out.h.hs VE.out.stk (Wc.out.h.hk.bnd hB)).mono ?_;rintro e V3 ⟨ob,od,rfl,UE,YV,ZU⟩;have X8:=Z' (Wc.out.call YV ZU);have Sw:=Z' (Ws.out.keepL ZU);have Xq:=Z' (ZU.row VF.out (by decide) (by decide));have Ts:=Z' (yR.own Xk.out ZU (by decide) (by decide));have VX:=Z' (wg UE Wc.out.h.hk.size);have ZZ:BxP gx w.heap.size (w.heap.size+1) go g p m (.slice x.ma x.mn x.mc) V3:=⟨Xq.out,X8.out.h.m,X8.out.h.k,y8 X8.out.o 7 rfl⟩;clear YV ZU Z3 Wc Ws VF VE PK UE Xk;have Z3:=ZZ;clear ZZ;go_simp
  first|refine⟨Z3,hK _ _ ?_⟩|refine hK _ _ ?_
  clear hK K
  iterate 1
   refine xU fun K hK=>tkF ?_
   go_simp
   try go_bits
   refine hK _ _ ?_;clear hK K
  refine xU fun K hK=>alF ?_
  go_step;have ZY:Below V3.heap.size V3 (V3.alloc (.cells #[.int .i64 v1,.slice oa p.ln oc,.slice ob p.sn od] MpT)):=yV _ _;have XQ:BxP gx w.heap.size (w.heap.size+1) go g p m (.slice x.ma x.mn x.mc) (V3.alloc (.cells #[.int .i64 v1,.slice oa p.ln oc,.slice ob p.sn od] MpT)):=⟨yW Z3.1 ZY,yW Z3.2.1 ZY,yW Z3.2.2.1 ZY,yF ZY Z3.2.2.2⟩;refine⟨XQ,hK _ _ ?_⟩;clear hK K Z3 XQ ZY;refine xU fun K hK=>alF ?_
  change Oper.wp _ _ _ _ _ _;have Jc:x.mn<=1024:=by rw[N3.out];omega
  refine rP eR (ops:= #[]) rfl _ _ _ rfl w.heap.size _ x.mn _ rfl (X8.out.w.maps.alloc _) _ 1 _ rfl (Src.litS (m:=1) rfl rfl eR.1) (by omega) (by unfold maxLen;omega) (Nat.le_trans X8.out.h.hk.size (by simp)) ?_;intro v9 w9 Z0 ZA ZK;have ZW:w9.ownsRow w.heap.size MpT 3 v9 (x.mn+1) ((x.maps++[(⟨v1,oa,p.ln,oc,v2,ob,p.sn,od,v3⟩:KP)]).flatMap KP.cells):=(by rw[List.flatMap_append];exact Z0);obtain⟨a9,c9,rfl,-,-⟩:=Ss.ofOwn KP.cells_length (by decide) ZW;have Zt:=yd.app X8.out.w.maps ZA;have Wr:Below w.heap.size V3 w9:=(((Below.refl V3.heap.size V3).alloc Z5 _).mono X8.out.h.hk.size).trans ZK;have YH:=Z' (X8.out.app VB X8.out.w.maps ZA Wr (by decide) (by decide) (by decide) (by decide) (by decide));have Vg:=Z' (X8.out.w.maps1 Zt (show KP.Ow ⟨v1,oa,p.ln,oc,v2,ob,p.sn,od,v3⟩ w9 w.heap.size from⟨xA Ts.out Zt (by decide),xA VX.out Zt (by decide)⟩) ZW);have Qh:=Z' (Sw.out.keptT Zt (by decide) (by decide));have Z3:BxP gx w.heap.size (w.heap.size+1) go g p m (.slice x.ma x.mn x.mc) w9:=⟨Zt.2 _ _ _ _ Xq.out (by decide),YH.out.1.m,YH.out.1.k,y8 YH.out.2 7 rfl⟩;clear Z0 ZW ZA ZK Wr Zt X8 Sw Xq Ts VX;refine⟨Z3,hK _ _ ?_⟩;clear hK K
  iterate 1
   refine xU fun K hK=>tkF ?_
   go_simp
   try go_bits
   refine hK _ _ ?_;clear hK K
  have fo:=xQ YH.out.2 7;have lo:=yG YH.out.2;have co:=y8 YH.out.2 7 rfl;dsimp only[KM.cells]at co;refine tm (laF ?_);go_step;have ZC:=Z' (YH.out.1.put (x':={x with ma:=a9,mn:=x.mn+1,mc:=c9,maps:=x.maps++[(⟨v1,oa,p.ln,oc,v2,ob,p.sn,od,v3⟩:KP)]}) YH.out.2 (by omega) (by omega) (by omega) 7 (.slice a9 (x.mn+1) c9) rfl Vg.out);have QJ:=Z' (Qh.out.keptT (uz YH.out.2 7 (.slice a9 (x.mn+1) c9)) (by decide) (by decide));clear Z3 fo lo co YH Vg Qh l0 l1 l2 l3 l4 l5
  go_wp2_with fail
  go_roundg (m.mn-(k+1))
  case measure=>omega
  exact⟨k+1,{x with ma:=a9,mn:=x.mn+1,mc:=c9,maps:=x.maps++[(⟨v1,oa,p.ln,oc,v2,ob,p.sn,od,v3⟩:KP)]},by omega,rfl,by go_num,Z' (by rw[Ze.out,Uu.out];exact KM.lp_maps1 HX.out _ _ _ _),Z' (by rw[Ze.out,Uu.out];exact ZC.out),QJ⟩
 have Zt:k=m.mn:=by omega
 subst Zt;have ZV:m.maps.take m.mn=m.maps:=List.take_of_length_le (by rw[Th.out];exact Nat.le_refl _);rw[ZV]at HX HJ;generalize s7.maps m.code m.maps=S8 at*;obtain⟨s8,mps⟩:=S8;dsimp only at HX HJ Wb;clear ZV ZX hk
 go_upto_region 22 with fail
 refine wp_region_lit ?_;refine xN rfl _ _ rfl _ rfl _ _ _ _ HJ.out.o underlying65 rfl rL ?_;refine wpList_store_row rfl _ _ _ rfl _ _ rfl rfl _ _ HJ.out.h.z rL rfl (pX _) ?_
 go_wp2_with fail
 refine bodyPost_ret (results_cell_row rfl _ _ (w.heap.size+1+1) FMT (KM.cells _).toArray (0,0) _ rfl (setRow_heap _ _ _ _ _ _ HJ.out.h.z) underlying65 rfl rL) rfl ?_;have Zt:=sH (cs':=x.cells.toArray) HJ.out.h.z;rw[nV,Wb.out];exact⟨x,rfl,HX.out,HJ.out.w.keptT Zt (by decide) (by decide) (by decide) (by decide),HJ.out.h.hs.setR HJ.out.h.z (by decide) (by decide) (by omega) _,HJ.out.h.hk.thenB (below_setRow (by omega) _)⟩
structure UU.Fit(u:UU):Prop where
 nm:u.nm.length<=65536
 su:u.su.length<=65536
 fields:u.fields.length<=1024
 fd:∀f∈u.fields,f.nm.length<=65536/\f.ds.length<=65536
 methods:u.methods.length<=1024
 mt:∀m∈u.methods,m.Fit
theorem da(s:LW)(l:List IN)(x:IN):s.consts1 (l++[x])=if x.op=18 then((s.consts1 l).con x).1 else s.consts1 l:=by
 induction l generalizing s with
 |nil=>rfl
 |cons y l ih=>rw[List.cons_append,LW.consts1,LW.consts1,ih]
theorem jF(s:LW)(l:List IN):(s.consts1 l).l.length<=s.l.length+4*l.length:=by
 induction l generalizing s with
 |nil=>exact Nat.le_refl _
 |cons x l ih=>
  rw[LW.consts1];have h1:=nS s x
  have h2:=ih (if x.op=18 then(s.con x).1 else s)
  simp only[List.length_cons]
  split at h2<;>split<;>first|omega|contradiction
theorem cB(s:LW)(l:List UM)(x:UM):s.consts (l++[x])=(s.consts l).consts1 x.code:=by
 induction l generalizing s with
 |nil=>rfl
 |cons y l ih=>rw[List.cons_append,LW.consts,LW.consts,ih]
theorem iX(s:LW)(l:List UM)(h:∀m∈l,m.code.length<=4096):(s.consts l).l.length<=s.l.length+16384*l.length:=by
 induction l generalizing s with
 |nil=>exact Nat.le_refl _
 |cons x l ih=>
  rw[LW.consts];have h1:=jF s x.code;have h2:=ih (s.consts1 x.code) (fun m hm=>h m (List.mem_cons_of_mem _ hm));have h3:=h x List.mem_cons_self;simp only[List.length_cons];omega
theorem cS(w w0:World)(B g:Nat)(s:LW)(u:UU)(h:LoS w B g s)(hu:u.Rd w0)(hw:Below w0.heap.size w0 w)(PU:w0.heap.size<=B)(hf:u.Fit)(hsz:s.l.length<=999900000000)(hB:B<=w.heap.size)(N9:0<B):
  Calls prog 31 #[.pointer (some ⟨g,0,none⟩),.agg u.cells.toArray] w (uf (.tuple #[]) B g (s.consts u.methods) w):=by
 have VB:0<w.heap.size:=by omega
 have ZQ:Below w.heap.size w (w.alloc (.cells u.cells.toArray 32)):=yV _ _;have ZJ:=Z' (h.below ZQ);have Za:=Z' (yR.of ZQ:yR B w (w.alloc (.cells u.cells.toArray 32)));have LL:=Z' (heap_alloc_last w (.cells u.cells.toArray 32));have HU:=Z' hu;have HF:=Z' hf;have Um:=Z' hw;have Th:=Z' hu.methods.1;have Rx:=hf.methods;rw[Th.out]at Rx;clear h hu hw hf ZQ;change Calls prog 31 #[.pointer (some ⟨g,0,none⟩),.agg #[.string ⟨u.nm.toArray⟩,.string ⟨u.su.toArray⟩,.slice u.fa u.fn u.fc,.slice u.ma u.mn u.mc]] w (uf (.tuple #[]) B g (s.consts u.methods) w);dsimp only[UU.cells]at ZJ Za LL;go_enter func31,ntmps31
 go_upto_region 1 with fail
 generalize w.alloc _=W at*;have u3:W.cell? ⟨w.heap.size,3,none⟩=some (.slice u.ma u.mn u.mc):=y8 LL.out 3 rfl
 go_wp2_with fail
 go_loopg [11] u.mn (fun gn i wr=>∃j:Nat,j<=u.mn/\gn=u.mn-j/\i= .int .i64 j/\Hid (LoS wr B g (s.consts (u.methods.take j)))/\Hid (yR B w wr))
 case atStart=>exact⟨0,by omega,by omega,by go_num,ZJ,Za⟩
 clear ZJ Za LL u3;obtain⟨j,hj,rfl,rfl,HS,HK⟩:=hrel;by_cases ZX:j<u.mn
 ·have RJ:=HK.out.belowO Um.out Z5 PU;have Wb:=Z' ((HU.out.below RJ).methods);obtain⟨bq,off,m,Ym,Zu,hm,q⟩:=Wb.out.getC j ZX;have q0:=q 0 (by omega);have q1:=q 1 (by omega);have q2:=q 2 (by omega);have q3:=q 3 (by omega);have q4:=q 4 (by omega);have q5:=q 5 (by omega);have q6:=q 6 (by omega);have q7:=q 7 (by omega);rw[Nat.add_zero]at q0;simp only[UM.cells,List.getElem?_cons_zero,List.getElem?_cons_succ]at q0 q1 q2 q3 q4 q5 q6 q7;have XZ:(j:Int)<u.mn:=by omega
  have Vj:=List.mem_of_getElem? hm;have Xn:=Z' (HF.out.mt m Vj);have S0:=Z' (HU.out.each m Vj)
  have Ze:=Z' (show s.consts (u.methods.take (j+1))=(s.consts (u.methods.take j)).consts1 m.code by
   have YP:=(Z4 hm).1;rw[List.take_succ_eq_append_getElem YP,(Z4 hm).2,cB])
  have Wp:=iX s (u.methods.take j) (fun m hm=>(HF.out.mt m (List.mem_of_mem_take hm)).code);rw[List.length_take,Th.out,Nat.min_eq_left hj]at Wp;generalize s.consts (u.methods.take j)=sj at*;have Y4:=Z' S0.out.code.1;have XM:m.code.length<=4096:=Xn.out.code;rw[Y4.out]at XM;clear q hm Vj Wb RJ
  go_upto_region 4 with fail
  have ZY:=yV wr (.cells #[.bool m.st,.string ⟨m.nm.toArray⟩,.string ⟨m.ds.toArray⟩,.int .i64 m.sk,.int .i64 m.lo,.slice m.ca m.cn m.cc,.slice m.ta m.tn m.tc,.slice m.ma m.mn m.mc] yT);have K8:=Z9 ((wr.alloc (.cells #[.bool m.st,.string ⟨m.nm.toArray⟩,.string ⟨m.ds.toArray⟩,.int .i64 m.sk,.int .i64 m.lo,.slice m.ca m.cn m.cc,.slice m.ta m.tn m.tc,.slice m.ma m.mn m.mc] yT)).heap[wr.heap.size]? =some (.cells m.cells.toArray yT (0,0))) (heap_alloc_last wr _);have Yg:=Z' (HS.out.below ZY);have Y0:=Z' (HK.out.trans (yR.of ZY));clear ZY q0 q1 q2 q3 q4 q5 q6 q7 Ym Zu HS HK;generalize wr.alloc _=W2 at*;generalize wr.heap.size=gm at*;have m5:W2.cell? ⟨gm,5,none⟩=some (.slice m.ca m.cn m.cc):=y8 K8.out 5 rfl
  go_wp2_with fail
  go_loopg [18] m.cn (fun gn i wr=>∃k:Nat,k<=m.cn/\gn=m.cn-k/\i= .int .i64 k/\Hid (LoS wr B g (sj.consts1 (m.code.take k)))/\Hid (yR B w wr))
  case atStart=>exact⟨0,by omega,by omega,by go_num,Yg,Y0⟩
  clear Yg Y0 K8 m5;obtain⟨k,hk,rfl,rfl,HS,HK⟩:=hrel;by_cases VM:k<m.cn
  ·have RJ:=HK.out.belowO Um.out Z5 PU;have BV:=Z' ((S0.out.below RJ).code);obtain⟨b,Zf,x,Ym,Zu,hx,q⟩:=BV.out.getC k VM;have q0:=q 0 (by omega);have q1:=q 1 (by omega);have q2:=q 2 (by omega);have q3:=q 3 (by omega);have q4:=q 4 (by omega);have q5:=q 5 (by omega);have q6:=q 6 (by omega);rw[Nat.add_zero]at q0;simp only[IN.cells,List.getElem?_cons_zero,List.getElem?_cons_succ]at q0 q1 q2 q3 q4 q5 q6;have Q3:(k:Int)<m.cn:=by omega
   have Sk:=Z' (Xn.out.ins x (List.mem_of_getElem? hx))
   have Kj:=Z' (show sj.consts1 (m.code.take (k+1))=if x.op=18 then((sj.consts1 (m.code.take k)).con x).1 else sj.consts1 (m.code.take k) by
    have YP:=(Z4 hx).1;rw[List.take_succ_eq_append_getElem YP,(Z4 hx).2,da])
   have A9:=jF sj (m.code.take k);rw[List.length_take,Y4.out,Nat.min_eq_left hk]at A9;generalize sj.consts1 (m.code.take k)=sk at*;obtain⟨op,nn,mm,cl,nm,ds,tx⟩:=x;dsimp only at q0 q1 q2 q3 q4 q5 q6 Kj;clear q hx BV RJ
   go_upto_region 7 with fail
   have ZY:=yV wr (.cells #[.int .u8 (op:Nat),.int .i64 nn,.int .i64 mm,.string ⟨cl.toArray⟩,.string ⟨nm.toArray⟩,.string ⟨ds.toArray⟩,.string ⟨tx.toArray⟩] yU);have Zh:=Z9 (yJ wr.heap.size ⟨op,nn,mm,cl,nm,ds,tx⟩ (wr.alloc (.cells #[.int .u8 (op:Nat),.int .i64 nn,.int .i64 mm,.string ⟨cl.toArray⟩,.string ⟨nm.toArray⟩,.string ⟨ds.toArray⟩,.string ⟨tx.toArray⟩] yU))) (heap_alloc_last wr _);have Vt:=Z' (HS.out.below ZY);have ZL:=Z' (HK.out.trans (yR.of ZY));clear ZY q0 q1 q2 q3 q4 q5 q6 Ym Zu HS HK;generalize wr.alloc _=W3 at*;generalize wr.heap.size=gx at*;obtain⟨j0,j1,j2,j3,j4,j5,j6,-,-,-,-,-,-⟩:=Zh.out.box;dsimp only at j0 j1 j2 j3 j4 j5 j6;by_cases PY:op=18
   ·have P5:((op:Int)==18)=true:=by rw[PY];rfl
    rw[if_pos PY]at Kj;have Xc:=Z' (mF W3 B g sk ⟨op,nn,mm,cl,nm,ds,tx⟩ Vt.out Sk.out (by omega) (ZL.out.bnd hB));dsimp only[IN.cells]at Xc;clear PY
    go_wp2_with fail
    refine Xc.out.mono ?_;rintro e V4 ⟨rfl,YN,YJ⟩;have T8:=Z' YN;have Xw:=Z' (ZL.out.trans YJ);clear YN YJ Xc Vt ZL Zh j0 j1 j2 j3 j4 j5 j6
    go_wp2_with fail
    go_roundg (m.cn-(k+1))
    case measure=>omega
    exact⟨k+1,by omega,rfl,by go_num,Z' (by rw[Kj.out];exact T8.out),Xw⟩
   have P5:((op:Int)==18)=false:=by rw[beq_eq_false_iff_ne];omega
   rw[if_neg PY]at Kj;clear PY
   go_wp2_with fail
   go_roundg (m.cn-(k+1))
   case measure=>omega
   exact⟨k+1,by omega,rfl,by go_num,Z' (by rw[Kj.out];exact Vt.out),ZL⟩
  have Zt:k=m.cn:=by omega
  subst Zt;have ZV:m.code.take m.cn=m.code:=List.take_of_length_le (by rw[Y4.out];exact Nat.le_refl _);rw[ZV]at HS;clear ZV VM hk
  go_wp2_with fail
  go_roundg (u.mn-(j+1))
  case measure=>omega
  exact⟨j+1,by omega,rfl,by go_num,Z' (by rw[Ze.out];exact HS.out),HK⟩
 have Zt:j=u.mn:=by omega
 subst Zt;have ZV:u.methods.take u.mn=u.methods:=List.take_of_length_le (by rw[Th.out];exact Nat.le_refl _);rw[ZV]at HS;clear ZV ZX hj
 go_wp2_with fail
 go_end0;exact⟨rfl,HS.out,HK.out⟩
structure LW.Good(s:LW):Prop where
 sz:s.e=0->s.l.length<=1024
 tx:∀c∈s.l,c.s.length<=65536
theorem kM{er k:Int}{ok:Bool}(h:yj er ok k=0):er=0:=by
 unfold yj at h;split at h
 ·next h1=>exact h1.2
 exact h
theorem LW.Good.need{s:LW}(h:s.Good)(ok:Bool)(k:Int):(s.need ok k).Good:=⟨fun he=>h.sz (kM he),h.tx⟩
theorem LW.Good.put{s:LW}(h:s.Good)(c:KV)(hc:c.s.length<=65536):(s.put c).1.Good:=by
 unfold LW.put;split
 ·exact h
 refine⟨fun he=> ?_,fun k hk=> ?_⟩
 ·have GK:yj s.e (decide ((xR s.l c).length<=1024)) 9=0:=he;unfold yj at GK;split at GK
  ·exact absurd GK (by decide)
  next h1=>
  show(xR s.l c).length<=1024
  rcases Decidable.em ((xR s.l c).length<=1024)with h2|h2
  ·exact h2
  exact absurd ⟨decide_eq_false h2,GK⟩ h1
 have Lx:k∈xR s.l c:=hk;unfold xR at Lx
 rcases List.mem_append.1 Lx with h1|h1
 ·rcases List.mem_append.1 h1 with h2|h2
  ·exact h.tx k h2
  rw[List.mem_singleton.1 h2];exact hc
 split at h1
 ·rw[List.mem_singleton.1 h1];decide
 cases h1
theorem LW.Good.text{s:LW}(h:s.Good)(t:List UInt8)(ht:t.length<=65536):(s.text t).1.Good:=h.put _ ht
theorem LW.Good.cls{s:LW}(h:s.Good)(t:List UInt8)(arr:Bool)(ht:t.length<=65536):(s.cls t arr).1.Good:=((h.need _ _).text t ht).put _ (by simp)
theorem LW.Good.member{s:LW}(h:s.Good)(x:IN)(tag:Int)(p:List UInt8->Bool)(hx:vd x):(s.member x tag p).1.Good:=by
 unfold LW.member;dsimp only;exact(((((h.need _ _).cls _ _ hx.cl).text _ hx.nm).text _ hx.ds).put _ (by simp)).put _ (by simp)
theorem LW.Good.con{s:LW}(h:s.Good)(x:IN)(hx:vd x):(s.con x).1.Good:=by
 unfold LW.con;split
 ·exact(h.need _ _).put _ (by simp)
 split
 ·exact(h.text _ hx.tx).put _ (by simp)
 split
 ·exact h.put _ (by simp)
 exact h.need _ _
theorem LW.Good.wide{s:LW}(h:s.Good)(x:IN)(hx:vd x):(s.wide x).1.Good:=by
 unfold LW.wide;split
 ·exact(h.need _ _).member _ _ _ hx
 split
 ·exact(h.need _ _).member _ _ _ hx
 exact(h.need _ _).cls _ _ hx.cl
theorem LW.Good.raw{s:LW}(h:s.Good)(p:Nat)(x:IN)(hx:vd x):(s.raw p x).1.Good:=by
 unfold LW.raw;split
 ·exact((h.need _ _).con x hx).need _ _
 split
 ·exact h.wide x hx
 split
 ·exact h.need _ _
 exact(h.need _ _).need _ _
theorem LW.Good.raws{s:LW}(h:s.Good)(p:Nat)(l:List IN)(hl:∀x∈l,vd x):(s.raws p l).1.Good:=by
 induction l generalizing s p with
 |nil=>exact h
 |cons x l ih=>
  rw[LW.raws];exact ih (h.raw p x (hl x List.mem_cons_self)) _ (fun y hy=>hl y (List.mem_cons_of_mem _ hy))
theorem LW.Good.goes{s:LW}(h:s.Good)(l k:List IN):(s.goes l k).Good:=by
 induction k generalizing s with
 |nil=>exact h
 |cons x k ih=>
  rw[LW.goes];split
  ·exact ih (h.need _ _)
  exact ih h
theorem LW.Good.code{s:LW}(h:s.Good)(l:List IN)(hl:∀x∈l,vd x):(s.code l).1.Good:=((h.raws 0 l hl).goes l l).need _ _
theorem LW.Good.slot{s:LW}(h:s.Good)(t:List UInt8)(ht:t.length<=65536):(s.slot t).1.Good:=by
 unfold LW.slot;split
 ·exact h
 split
 ·exact h
 split
 ·exact h
 split
 ·exact h
 split
 ·exact h.cls _ _ (Nat.le_trans (gR t) ht)
 exact(h.need _ _).cls _ _ ht
theorem LW.Good.slots{s:LW}(h:s.Good)(l:List (List UInt8))(hl:∀t∈l,t.length<=65536):(s.slots l).1.Good:=by
 induction l generalizing s with
 |nil=>exact h
 |cons x l ih=>
  rw[LW.slots];exact ih (h.slot x (hl x List.mem_cons_self)) (fun y hy=>hl y (List.mem_cons_of_mem _ hy))
theorem LW.Good.place{s:LW}(h:s.Good)(l:List IN)(n most:Int):(s.place l n most).1.Good:=by
 unfold LW.place;split
 ·exact h.need _ _
 exact h
theorem LW.Good.trap{s:LW}(h:s.Good)(l:List IN)(t:UT)(ht:t.cl.length<=65536):(s.trap l t).1.Good:=by
 unfold LW.trap;dsimp only;have h3:=((h.place l t.fr (l.length-1)).place l t.tt l.length).place l t.pl (l.length-1);split
 ·exact h3
 exact h3.cls _ _ ht
theorem LW.Good.traps{s:LW}(h:s.Good)(c:List IN)(l:List UT)(hl:∀t∈l,t.cl.length<=65536):(s.traps c l).1.Good:=by
 induction l generalizing s with
 |nil=>exact h
 |cons x l ih=>
  rw[LW.traps];exact ih (h.trap c x (hl x List.mem_cons_self)) (fun y hy=>hl y (List.mem_cons_of_mem _ hy))
theorem LW.Good.map{s:LW}(h:s.Good)(l:List IN)(t:UP)(ht:t.Fit):(s.map l t).1.Good:=((h.place l t.pl (l.length-1)).slots _ ht.lt).slots _ ht.st
theorem LW.Good.maps{s:LW}(h:s.Good)(c:List IN)(l:List UP)(hl:∀t∈l,t.Fit):(s.maps c l).1.Good:=by
 induction l generalizing s with
 |nil=>exact h
 |cons x l ih=>
  rw[LW.maps];exact ih (h.map c x (hl x List.mem_cons_self)) (fun y hy=>hl y (List.mem_cons_of_mem _ hy))
theorem LW.Good.method{s:LW}(h:s.Good)(m:UM)(hm:m.Fit):(s.method m).1.Good:=by
 unfold LW.method;dsimp only;have h1:=(((h.need (yk m.nm&&xY m.ds) 8).text _ hm.nm).text _ hm.ds).text wJ (by decide);split
 ·exact((h1.code _ hm.ins).traps _ _ hm.tr).maps _ _ hm.mp
 exact(((h1.text wH (by decide)).code _ hm.ins).traps _ _ hm.tr).maps _ _ hm.mp
theorem LW.Good.methods{s:LW}(h:s.Good)(l:List UM)(hl:∀t∈l,t.Fit):(s.methods l).1.Good:=by
 induction l generalizing s with
 |nil=>exact h
 |cons x l ih=>
  rw[LW.methods];exact ih (h.method x (hl x List.mem_cons_self)) (fun y hy=>hl y (List.mem_cons_of_mem _ hy))
theorem LW.Good.field{s:LW}(h:s.Good)(f:UF)(hf:f.nm.length<=65536/\f.ds.length<=65536):(s.field f).1.Good:=((h.need _ _).text _ hf.1).text _ hf.2
theorem LW.Good.fields{s:LW}(h:s.Good)(l:List UF)(hl:∀f∈l,f.nm.length<=65536/\f.ds.length<=65536):(s.fields l).1.Good:=by
 induction l generalizing s with
 |nil=>exact h
 |cons x l ih=>
  rw[LW.fields];exact ih (h.field x (hl x List.mem_cons_self)) (fun y hy=>hl y (List.mem_cons_of_mem _ hy))
theorem LW.Good.consts1{s:LW}(h:s.Good)(l:List IN)(hl:∀x∈l,vd x):(s.consts1 l).Good:=by
 induction l generalizing s with
 |nil=>exact h
 |cons x l ih=>
  rw[LW.consts1];split
  ·exact ih (h.con x (hl x List.mem_cons_self)) (fun y hy=>hl y (List.mem_cons_of_mem _ hy))
  exact ih h (fun y hy=>hl y (List.mem_cons_of_mem _ hy))
theorem LW.Good.consts{s:LW}(h:s.Good)(l:List UM)(hl:∀m∈l,m.Fit):(s.consts l).Good:=by
 induction l generalizing s with
 |nil=>exact h
 |cons x l ih=>
  rw[LW.consts];exact ih (h.consts1 x.code (hl x List.mem_cons_self).ins) (fun y hy=>hl y (List.mem_cons_of_mem _ hy))
theorem gq(u:UU)(h:u.Fit):(xi u).1.Good:=by
 unfold xi;dsimp only;have h0:(⟨[kz],0⟩:LW).Good:=⟨fun _=>by simp,fun c hc=>by rw[List.mem_singleton.1 hc];decide⟩;have h1:=(h0.consts u.methods h.mt).cls u.nm false h.nm;split
 ·exact(h1.fields _ h.fd).methods _ h.mt
 exact((h1.cls u.su false h.su).fields _ h.fd).methods _ h.mt
theorem D1t(s:LW)(m:UM)(hm:m.Fit):(s.method m).1.l.length<=s.l.length+10000000:=by
 unfold LW.method;dsimp only;have h0:(s.need (yk m.nm&&xY m.ds) 8).l=s.l:=rfl;have h1:=wq (s.need (yk m.nm&&xY m.ds) 8) m.nm;rw[h0]at h1;have h2:=wq ((s.need (yk m.nm&&xY m.ds) 8).text m.nm).1 m.ds;have h3:=wq (((s.need (yk m.nm&&xY m.ds) 8).text m.nm).1.text m.ds).1 wJ;generalize((((s.need (yk m.nm&&xY m.ds) 8).text m.nm).1.text m.ds).1.text wJ).1=c at*
 have hc:∀s5:LW,s5.l.length<=c.l.length+2->((((s5.code m.code).1.traps m.code m.traps).1).maps m.code m.maps).1.l.length<=s.l.length+10000000:=fun s5 h5=>by
  have h6:=fY s5 m.code;have h7:=mT (s5.code m.code).1 m.code m.traps;have h8:=fW ((s5.code m.code).1.traps m.code m.traps).1 m.code m.maps hm.mp;have a1:=hm.code;have a2:=hm.traps;have a3:=hm.maps;omega
 split
 ·exact hc _ (by omega)
 exact hc _ (wq c wH)
theorem cG(s:LW)(l:List UM)(hl:∀m∈l,m.Fit):(s.methods l).1.l.length<=s.l.length+10000000*l.length:=by
 induction l generalizing s with
 |nil=>exact Nat.le_refl _
 |cons x l ih=>
  rw[LW.methods];have h1:=D1t s x (hl x List.mem_cons_self);have h2:=ih (s.method x).1 (fun y hy=>hl y (List.mem_cons_of_mem _ hy));simp only[List.length_cons];omega
theorem D6a(s:LW)(f:UF):(s.field f).1.l.length<=s.l.length+4:=by
 unfold LW.field;dsimp only;have h0:(s.need (yk f.nm&&typeB f.ds) 8).l=s.l:=rfl;have h1:=wq (s.need (yk f.nm&&typeB f.ds) 8) f.nm;rw[h0]at h1;have h2:=wq ((s.need (yk f.nm&&typeB f.ds) 8).text f.nm).1 f.ds;omega
theorem jb(s:LW)(l:List UF):(s.fields l).1.l.length<=s.l.length+4*l.length:=by
 induction l generalizing s with
 |nil=>exact Nat.le_refl _
 |cons x l ih=>
  rw[LW.fields];have h1:=D6a s x;have h2:=ih (s.field x).1;simp only[List.length_cons];omega
theorem cM(s:LW)(l:List UF)(t:UF):s.fields (l++[t])=((((s.fields l).1).field t).1,(s.fields l).2++[(((s.fields l).1).field t).2]):=by
 induction l generalizing s with
 |nil=>rfl
 |cons x l ih=>
  rw[List.cons_append,LW.fields,LW.fields,ih];rfl
theorem cU(s:LW)(l:List UM)(t:UM):s.methods (l++[t])=((((s.methods l).1).method t).1,(s.methods l).2++[(((s.methods l).1).method t).2]):=by
 induction l generalizing s with
 |nil=>rfl
 |cons x l ih=>
  rw[List.cons_append,LW.methods,LW.methods,ih];rfl
theorem jf(s:LW)(l:List UF):(s.fields l).2.length=l.length:=by
 induction l generalizing s with
 |nil=>rfl
 |cons x l ih=>rw[LW.fields,List.length_cons,List.length_cons,ih]
theorem jH(s:LW)(l:List UM):(s.methods l).2.length=l.length:=by
 induction l generalizing s with
 |nil=>rfl
 |cons x l ih=>rw[LW.methods,List.length_cons,List.length_cons,ih]
abbrev xq:=26
abbrev r7:=75
abbrev UnT:=32
def KF.lp(f:KF):KF:=⟨none,0,0,f.pool,f.th,f.su,none,0,0,f.fields,none,0,0,f.methods.map KM.lp⟩
structure KF.Ow(x:KF)(w:World)(B:Nat):Prop where
 fields:w.ownsRow B r7 3 (.slice x.fa x.fn x.fc) x.fn (x.fields.flatMap KD.cells)
 methods:w.ownsRow B FMT 8 (.slice x.ma x.mn x.mc) x.mn (x.methods.flatMap KM.cells)
 each:∀m∈x.methods,m.Ow w B
theorem KF.Ow.keepL{x:KF}{B B':Nat}{w w':World}(h:x.Ow w B')(k:yR B w w'):x.Ow w' B':=⟨yR.own h.fields k (by decide) (by decide),yR.own h.methods k (by decide) (by decide),fun m hm=>(h.each m hm).keepL k⟩
theorem KF.Ow.keptT{x:KF}{B':Nat}{w w':World}{e:TypeId}(h:x.Ow w B')(k:yd e w w')(h0:r7≠e)(h9:FMT≠e)(h1:5≠e)(h2:TrT≠e)(h3:MpT≠e)(h4:SlT≠e):x.Ow w' B':=⟨xA h.fields k h0,xA h.methods k h9,fun m hm=>(h.each m hm).keptT k h1 h2 h3 h4⟩
theorem KF.Ow.fn'{x:KF}{V:World}{B:Nat}(h:x.Ow V B):x.fields.length=x.fn:=by
 have h1:=h.fields.1;rw[td KD.cells_length]at h1;omega
theorem KF.Ow.mn'{x:KF}{V:World}{B:Nat}(h:x.Ow V B):x.methods.length=x.mn:=by
 have h1:=h.methods.1;rw[td KM.cells_length]at h1;omega
theorem KF.Ow.fields1{x:KF}{w w':World}{B:Nat}(h:x.Ow w B)(k:yd r7 w w'){a:Option Addr}{n c:Nat}{t:KD}(ho:w'.ownsRow B r7 3 (.slice a n c) n ((x.fields++[t]).flatMap KD.cells)):KF.Ow {x with fa:=a,fn:=n,fc:=c,fields:=x.fields++[t]} w' B:=
 ⟨ho,xA h.methods k (by decide),fun m hm=>(h.each m hm).keptT k (by decide) (by decide) (by decide) (by decide)⟩
theorem KF.Ow.methods1{x:KF}{w w':World}{B:Nat}(h:x.Ow w B)(k:yd FMT w w'){a:Option Addr}{n c:Nat}{t:KM}(ht:t.Ow w' B)(ho:w'.ownsRow B FMT 8 (.slice a n c) n ((x.methods++[t]).flatMap KM.cells)):KF.Ow {x with ma:=a,mn:=n,mc:=c,methods:=x.methods++[t]} w' B:=
 ⟨xA h.fields k (by decide),ho,fun m hm=>by
  rcases List.mem_append.1 hm with hm|hm
  ·exact(h.each m hm).keptT k (by decide) (by decide) (by decide) (by decide)
  rw[List.mem_singleton.1 hm];exact ht⟩
structure FlH(w V:World)(g:Nat)(u:UU)(s:LW):Prop where
 hs:LoS V w.heap.size g s
 hk:yR w.heap.size w V
 u:V.heap[w.heap.size]? =some (.cells u.cells.toArray UnT (0,0))
 z:V.heap[w.heap.size+1]? =some (.cells #[.slice none 0 0,.int .i64 0,.int .i64 0,.slice none 0 0,.slice none 0 0] xq (0,0))
structure FlJ(w V:World)(g go:Nat)(u:UU)(x:KF)(s:LW):Prop where
 h:FlH w V g u s
 o:V.heap[go]? =some (.cells x.cells.toArray xq (0,0))
 w:x.Ow V w.heap.size
theorem FlH.call{w V V':World}{g:Nat}{u:UU}{s s':LW}(h:FlH w V g u s)(hs:LoS V' w.heap.size g s')(hk:yR w.heap.size V V'):FlH w V' g u s':=
 ⟨hs,h.hk.trans hk,hk.row h.u (by decide) (by decide),hk.row h.z (by decide) (by decide)⟩
theorem FlJ.call{w V V':World}{g go:Nat}{u:UU}{x:KF}{s s':LW}(h:FlJ w V g go u x s)(hs:LoS V' w.heap.size g s')(hk:yR w.heap.size V V'):FlJ w V' g go u x s':=
 ⟨h.h.call hs hk,hk.row h.o (by decide) (by decide),h.w.keepL hk⟩
theorem FlH.below{w V V':World}{g:Nat}{u:UU}{s:LW}(h:FlH w V g u s)(hb:Below V.heap.size V V'):FlH w V' g u s:=h.call (h.hs.below hb) (yR.of hb)
theorem FlJ.below{w V V':World}{g go:Nat}{u:UU}{x:KF}{s:LW}(h:FlJ w V g go u x s)(hb:Below V.heap.size V V'):FlJ w V' g go u x s:=h.call (h.h.hs.below hb) (yR.of hb)
theorem FlH.put{w V:World}{g go:Nat}{u:UU}{x x':KF}{s:LW}(h:FlH w V g u s)(ho:V.heap[go]? =some (.cells x.cells.toArray xq (0,0)))(hw:w.heap.size+1<go)(o:Nat)(v:Value)(he:x.cells.toArray.setIfInBounds o v=x'.cells.toArray)(hx:x'.Ow V w.heap.size):
  FlJ w (V.setCell ⟨go,o,none⟩ v) g go u x' s:=by
 have Zt:=uz ho o v
 exact⟨⟨h.hs.setO ho (by decide) (by decide) (by omega) o v,h.hk.thenB (Z6.setCell (show w.heap.size<=go by omega) v),Zt.2 _ _ _ _ h.u (by decide),wQ h.z (by omega) o v⟩,
  by rw[<-he];exact wZ ho o v,hx.keptT Zt (by decide) (by decide) (by decide) (by decide) (by decide) (by decide)⟩
theorem FlJ.app{w V w9:World}{g go:Nat}{u:UU}{x:KF}{s:LW}{ob:Obj}{e:TypeId}{size:Nat}{v:Value}{n:Nat}{xs:List Value}(h:FlJ w V g go u x s)(VB:0<w.heap.size)
  (ho:V.ownsRow w.heap.size e size v n xs) (hg:(V.alloc ob).grownBy w9 v.ownBlock) (hb:Below w.heap.size V w9) (h1:e≠x7) (h2:e≠wi) (h3:UnT≠e) (h4:xq≠e):
  FlH w w9 g u s/\w9.heap[go]? =some (.cells x.cells.toArray xq (0,0)):=by
 have Zt:=yd.app ho hg;exact⟨⟨h.h.hs.app ho hg h1 h2 VB,h.h.hk.thenB hb,Zt.2 _ _ _ _ h.h.u h3,Zt.2 _ _ _ _ h.h.z h4⟩,Zt.2 _ _ _ _ h.o h4⟩
theorem KF.lp_fields1{x:KF}{a b:Int}{P:List KV}{T:List KD}{M:List KM}(h:x.lp=⟨none,0,0,P,a,b,none,0,0,T,none,0,0,M⟩)(ta:Option Addr)(tn tc:Nat)(k:KD):
  KF.lp {x with fa:=ta,fn:=tn,fc:=tc,fields:=x.fields++[k]}=⟨none,0,0,P,a,b,none,0,0,T++[k],none,0,0,M⟩:=by
 simp only[KF.lp,KF.mk.injEq]at h⊢;obtain⟨-,-,-,e1,e2,e3,-,-,-,e4,-,-,-,e5⟩:=h;exact⟨trivial,trivial,trivial,e1,e2,e3,trivial,trivial,trivial,by rw[e4],trivial,trivial,trivial,e5⟩
theorem KF.lp_methods1{x:KF}{a b:Int}{P:List KV}{T:List KD}{M:List KM}(h:x.lp=⟨none,0,0,P,a,b,none,0,0,T,none,0,0,M⟩)(ta:Option Addr)(tn tc:Nat)(k:KM):
  KF.lp {x with ma:=ta,mn:=tn,mc:=tc,methods:=x.methods++[k]}=⟨none,0,0,P,a,b,none,0,0,T,none,0,0,M++[k.lp]⟩:=by
 simp only[KF.lp,KF.mk.injEq]at h⊢;obtain⟨-,-,-,e1,e2,e3,-,-,-,e4,-,-,-,e5⟩:=h;exact⟨trivial,trivial,trivial,e1,e2,e3,trivial,trivial,trivial,e4,trivial,trivial,trivial,by rw[List.map_append,e5];rfl⟩
theorem d7:StE 23 r7 (.agg #[.int .i64 0,.int .i64 0,.int .i64 0]) 3 24:=⟨by kernel_rfl,by kernel_rfl,rfl⟩
theorem ei:StE 24 FMT (.agg #[.int .i64 0,.int .i64 0,.int .i64 0,.int .i64 0,.int .i64 0,.slice none 0 0,.slice none 0 0,.slice none 0 0]) 8 112:=⟨by kernel_rfl,by kernel_rfl,rfl⟩
theorem rS:(prog.info? xq).map (·.size)=some 5:=by kernel_rfl
theorem kU(x:KF):x.cells.toArray.all (·.oneCell')=true:=by simp[KF.cells,Value.oneCell']
end
end Go.Proofs.YtclpkipaehpkdaaGreatDoor
