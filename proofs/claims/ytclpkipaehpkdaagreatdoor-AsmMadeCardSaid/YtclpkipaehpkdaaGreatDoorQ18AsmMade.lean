/- asm -/
import Derived.Test.YtclpkipaehpkdaaGreatDoorQ17AsmMade
set_option linter.unusedVariables false
set_option linter.unusedSimpArgs false
set_option maxRecDepth 100000
set_option maxHeartbeats 64000000
namespace Go.Proofs.YtclpkipaehpkdaaGreatDoor
section
open Go.ChangeShapes Go.WideShapes Go.ChangeAt Go.RowKit Go.Maps
def BxM(gk gm g:Nat)(m:UM)(z:World):Prop:=z.heap[gk]? =some (.cells #[.pointer (some ⟨g,0,none⟩)] PLT (0,0))/\z.heap[gm]? =some (.cells m.cells.toArray A1d (0,0))
theorem BxM.of{w V:World}{B g gk gm gz:Nat}{m:UM}{s:LW}(h:MtH w V B g gk gm gz m s):BxM gk gm g m V:=⟨h.k,h.m⟩
theorem LoS.vw{w:World}{B g:Nat}{s:LW}(h:LoS w B g s):VW w:=by
 obtain⟨a,cap,b,h⟩:=h;exact h.vw
theorem MtH.made{w V:World}{B g gk gm gz go:Nat}{m:UM}{s:LW}(h:MtH w V B g gk gm gz m s)(ho:V.heap[go]? =some (.cells #[.int .i64 0,.int .i64 0,.int .i64 0,.int .i64 0,.int .i64 0,.slice none 0 0,.slice none 0 0,.slice none 0 0] FMT (0,0)))(hw:w.heap.size<=go)(h0:0<go)(hne:gz≠go)(a b c d e:Int):
  MtJ w (V.setRow go ((⟨a,b,c,d,e,none,0,0,[],none,0,0,[],none,0,0,[]⟩:KM).cells.toArray)) B g gk gm gz go m ⟨a,b,c,d,e,none,0,0,[],none,0,0,[],none,0,0,[]⟩ s:=by
 have hkt:=A1q (cs':=(⟨a,b,c,d,e,none,0,0,[],none,0,0,[],none,0,0,[]⟩:KM).cells.toArray) ho
 exact⟨⟨h.hs.setR ho (by decide) (by decide) h0 _,h.hk.thenB (below_setRow hw _),hkt.2 _ _ _ _ h.k (by decide),hkt.2 _ _ _ _ h.m (by decide),(setRow_other V go gz _ hne).trans h.z⟩,
  setRow_heap V go _ _ _ _ ho,⟨.inl (World.ownsRow_nil _ _ _ _),World.ownsRow_nil _ _ _ _,World.ownsRow_nil _ _ _ _,fun p hp=>by cases hp⟩⟩
theorem A0u.belowO{B B0:Nat}{w0 w w':World}(h:A0u B w w')(hb:Below B0 w0 w)(hB:B0<=w0.heap.size)(h0:B0<=B):Below B0 w0 w':=
 ⟨h.os.trans hb.os,h.tape.trans hb.tape,h.output.trans hb.output,Nat.le_trans hb.size h.size,fun k hk=>by
  rw[h.block k (Nat.lt_of_lt_of_le (Nat.lt_of_lt_of_le hk hB) hb.size) (.inl (Nat.lt_of_lt_of_le hk h0))];exact hb.block k hk⟩
structure MtA(V:World)(ga gat:Nat)(m:UM):Prop where
 a:V.heap[ga]? =some (.cells #[.slice (some ⟨gat,0,none⟩) (m.cn+1) (m.cn+1)] 138 (0,0))
 r:A6g V gat (A1g m.code m.code.length)
theorem MtA.keepL{V V':World}{B ga gat:Nat}{m:UM}(h:MtA V ga gat m)(hk:A0u B V V'):MtA V' ga gat m:=⟨hk.row h.a (by decide) (by decide),h.r.keepL hk⟩
theorem MtA.below{V V':World}{ga gat:Nat}{m:UM}(h:MtA V ga gat m)(hb:Below V.heap.size V V'):MtA V' ga gat m:=⟨A0e h.a hb,h.r.below hb⟩
theorem MtA.keptT{V V':World}{ga gat:Nat}{m:UM}{e:TypeId}(h:MtA V ga gat m)(hk:A2p e V V')(h1:138≠e)(h2:3≠e):MtA V' ga gat m:=⟨hk.2 _ _ _ _ h.a h1,hk.2 _ _ _ _ h.r h2⟩
theorem MtH.put{w V:World}{B g gk gm gz go:Nat}{m:UM}{x x':KM}{s:LW}(h:MtH w V B g gk gm gz m s)(ho:V.heap[go]? =some (.cells x.cells.toArray FMT (0,0)))(hw:w.heap.size<=go)(h0:0<go)(hne:gz≠go)(o:Nat)(v:Value)(he:x.cells.toArray.setIfInBounds o v=x'.cells.toArray)(hx:x'.Ow V w.heap.size):
  MtJ w (V.setCell ⟨go,o,none⟩ v) B g gk gm gz go m x' s:=by
 have hkt:=A1p ho o v
 exact⟨⟨h.hs.setO ho (by decide) (by decide) h0 o v,h.hk.thenB (brz.setCell hw v),hkt.2 _ _ _ _ h.k (by decide),hkt.2 _ _ _ _ h.m (by decide),A1r h.z hne o v⟩,
  by rw[<-he];exact A1k ho o v,hx.keptT hkt (by decide) (by decide) (by decide) (by decide)⟩
theorem KM.Ow.tn{x:KM}{V:World}{B:Nat}(h:x.Ow V B):x.traps.length=x.tn:=by
 have h1:=h.traps.1;rw[A4y KT.cells_length]at h1;omega
theorem KM.Ow.mn{x:KM}{V:World}{B:Nat}(h:x.Ow V B):x.maps.length=x.mn:=by
 have h1:=h.maps.1;rw[A4y KP.cells_length]at h1;omega
theorem C0d(s:LW)(c:List IN)(l:List UT):(s.traps c l).2.length=l.length:=by
 induction l generalizing s with
 |nil=>rfl
 |cons x l ih=>rw[LW.traps,List.length_cons,List.length_cons,ih]
theorem C3r(s:LW)(c:List IN)(l:List UP):(s.maps c l).2.length=l.length:=by
 induction l generalizing s with
 |nil=>rfl
 |cons x l ih=>rw[LW.maps,List.length_cons,List.length_cons,ih]
def BxT(gx gm:Nat)(t:UT)(m:UM)(z:World):Prop:=z.heap[gx]? =some (.cells t.cells.toArray 85 (0,0))/\z.heap[gm]? =some (.cells m.cells.toArray A1d (0,0))
theorem MtJ.other{w V V':World}{B g gk gm gz go gt:Nat}{m:UM}{x:KM}{s:LW}(h:MtJ w V B g gk gm gz go m x s)(hkt:A2p TrT V V')(hb:Below w.heap.size V V')(hs:LoS V' B g s)(hgt:V.heap.size<=gt\/∀k,(Value.slice x.ta x.tn x.tc).ownBlock=some k->k≠gt)(ho:∀i,i≠gt->V'.heap[i]? =V.heap[i]?):
  MtJ w V' B g gk gm gz go m x s:=by
 refine⟨⟨hs,h.h.hk.thenB hb,hkt.2 _ _ _ _ h.h.k (by decide),hkt.2 _ _ _ _ h.h.m (by decide),hkt.2 _ _ _ _ h.h.z (by decide)⟩,hkt.2 _ _ _ _ h.o (by decide),h.w.code.keptT hkt (by decide),?_,A0k h.w.maps hkt (by decide),fun p hp=>(h.w.each p hp).keptT hkt (by decide)⟩
 refine⟨h.w.traps.1,?_⟩
 rcases h.w.traps.2 with h1|⟨b,cap,cur,hv,hB,hc,r⟩
 ·exact .inl h1
 refine .inr ⟨b,cap,cur,hv,hB,?_,r⟩
 rw[ho b (by
  intro e
  rcases hgt with h2|h2
  ·have:=A0r hc;omega
  ·exact h2 b (by rw[hv];rfl) e)]
 exact hc
theorem KM.lp_traps1{x:KM}{a b c d e:Int}{cd:List UInt8}{T:List KT}{M:List KP}(h:x.lp=⟨a,b,c,d,e,none,0,0,cd,none,0,0,T,none,0,0,M⟩)(ta:Option Addr)(tn tc:Nat)(k:KT):
  KM.lp {x with ta:=ta,tn:=tn,tc:=tc,traps:=x.traps++[k]}=⟨a,b,c,d,e,none,0,0,cd,none,0,0,T++[k],none,0,0,M⟩:=by
 simp only[KM.lp,KM.mk.injEq]at h⊢;obtain⟨e1,e2,e3,e4,e5,-,-,-,e6,-,-,-,e7,-,-,-,e8⟩:=h
 exact⟨e1,e2,e3,e4,e5,trivial,trivial,trivial,e6,trivial,trivial,trivial,by rw[e7],trivial,trivial,trivial,e8⟩
theorem KM.lp_maps1{x:KM}{a b c d e:Int}{cd:List UInt8}{T:List KT}{M:List KP}(h:x.lp=⟨a,b,c,d,e,none,0,0,cd,none,0,0,T,none,0,0,M⟩)(ma:Option Addr)(mn mc:Nat)(k:KP):
  KM.lp {x with ma:=ma,mn:=mn,mc:=mc,maps:=x.maps++[k]}=⟨a,b,c,d,e,none,0,0,cd,none,0,0,T,none,0,0,M++[k.lp]⟩:=by
 simp only[KM.lp,KM.mk.injEq]at h⊢;obtain⟨e1,e2,e3,e4,e5,-,-,-,e6,-,-,-,e7,-,-,-,e8⟩:=h
 exact⟨e1,e2,e3,e4,e5,trivial,trivial,trivial,e6,trivial,trivial,trivial,e7,trivial,trivial,trivial,by rw[List.map_append,e8];rfl⟩
def BxP(gx gk gm go g:Nat)(p:UP)(m:UM)(v:Value)(z:World):Prop:=z.heap[gx]? =some (.cells p.cells.toArray 88 (0,0))/\z.heap[gm]? =some (.cells m.cells.toArray A1d (0,0))/\z.heap[gk]? =some (.cells #[.pointer (some ⟨g,0,none⟩)] PLT (0,0))/\z.cell? ⟨go,7,none⟩=some v
def B3g(B g:Nat)(s:LW)(m:UM)(w:World)(e:Ending)(w':World):Prop:=
 ∃x:KM,e= .returned (.agg x.cells.toArray)/\x.lp=(s.method m).2/\x.Ow w' w.heap.size/\LoS w' B g (s.method m).1/\A0u B w w'
theorem B9q(w w0:World)(B g:Nat)(s:LW)(m:UM)(h:LoS w B g s)(hm:m.Rd w0)(hw:Below w0.heap.size w0 w)(h0B:w0.heap.size<=B)(hf:m.Fit)(hsz:s.l.length<=999900000000)(hB:B<=w.heap.size)(hB0:0<B):
  Calls Tryz.prog 36 #[.pointer (some ⟨g,0,none⟩),.agg m.cells.toArray] w (B3g B g s m w):=by
 have hw0:0<w.heap.size:=by omega
 have hgl:g<w.heap.size:=h.lt
 have hb3:Below w.heap.size w (((w.alloc (.cells #[.pointer (some ⟨g,0,none⟩)] PLT)).alloc (.cells #[.bool m.st,.string ⟨m.nm.toArray⟩,.string ⟨m.ds.toArray⟩,.int .i64 m.sk,.int .i64 m.lo,.slice m.ca m.cn m.cc,.slice m.ta m.tn m.tc,.slice m.ma m.mn m.mc] A1d)).alloc (.cells #[.int .i64 0,.int .i64 0,.int .i64 0,.int .i64 0,.int .i64 0,.slice none 0 0,.slice none 0 0,.slice none 0 0] FMT)):=(((Below.refl w.heap.size w).alloc nlz _).alloc (by simp) _).alloc (by simp;omega) _
 have HH0:=hzz (show MtH w (((w.alloc (.cells #[.pointer (some ⟨g,0,none⟩)] PLT)).alloc (.cells #[.bool m.st,.string ⟨m.nm.toArray⟩,.string ⟨m.ds.toArray⟩,.int .i64 m.sk,.int .i64 m.lo,.slice m.ca m.cn m.cc,.slice m.ta m.tn m.tc,.slice m.ma m.mn m.mc] A1d)).alloc (.cells #[.int .i64 0,.int .i64 0,.int .i64 0,.int .i64 0,.int .i64 0,.slice none 0 0,.slice none 0 0,.slice none 0 0] FMT)) B g w.heap.size (w.heap.size+1) (w.heap.size+1+1) m s from⟨h.below hb3,A0u.of hb3,by
  rw[Below.heap_alloc _ _ _ (by simp;omega),Below.heap_alloc _ _ _ (by simp)];exact heap_alloc_last w _,by
  rw[Below.heap_alloc _ _ _ (by simp)]
  have h9:=heap_alloc_last (w.alloc (.cells #[.pointer (some ⟨g,0,none⟩)] PLT)) (.cells #[.bool m.st,.string ⟨m.nm.toArray⟩,.string ⟨m.ds.toArray⟩,.int .i64 m.sk,.int .i64 m.lo,.slice m.ca m.cn m.cc,.slice m.ta m.tn m.tc,.slice m.ma m.mn m.mc] A1d)
  rw[show(w.alloc (.cells #[.pointer (some ⟨g,0,none⟩)] PLT)).heap.size=w.heap.size+1 by simp]at h9;exact h9,by
  have h9:=heap_alloc_last ((w.alloc (.cells #[.pointer (some ⟨g,0,none⟩)] PLT)).alloc (.cells #[.bool m.st,.string ⟨m.nm.toArray⟩,.string ⟨m.ds.toArray⟩,.int .i64 m.sk,.int .i64 m.lo,.slice m.ca m.cn m.cc,.slice m.ta m.tn m.tc,.slice m.ma m.mn m.mc] A1d)) (.cells #[.int .i64 0,.int .i64 0,.int .i64 0,.int .i64 0,.int .i64 0,.slice none 0 0,.slice none 0 0,.slice none 0 0] FMT)
  rw[show((w.alloc (.cells #[.pointer (some ⟨g,0,none⟩)] PLT)).alloc (.cells #[.bool m.st,.string ⟨m.nm.toArray⟩,.string ⟨m.ds.toArray⟩,.int .i64 m.sk,.int .i64 m.lo,.slice m.ca m.cn m.cc,.slice m.ta m.tn m.tc,.slice m.ma m.mn m.mc] A1d)).heap.size=w.heap.size+1+1 by simp]at h9
  exact h9⟩)
 have HM:=hzz hm;have HF:=hzz hf;have HWB:=hzz hw
 have HSZ3:=hzz (show(((w.alloc (.cells #[.pointer (some ⟨g,0,none⟩)] PLT)).alloc (.cells #[.bool m.st,.string ⟨m.nm.toArray⟩,.string ⟨m.ds.toArray⟩,.int .i64 m.sk,.int .i64 m.lo,.slice m.ca m.cn m.cc,.slice m.ta m.tn m.tc,.slice m.ma m.mn m.mc] A1d)).alloc (.cells #[.int .i64 0,.int .i64 0,.int .i64 0,.int .i64 0,.int .i64 0,.slice none 0 0,.slice none 0 0,.slice none 0 0] FMT)).heap.size=w.heap.size+3 by simp)
 have HRM:=hzz (show s.method m=(let n:=(s.need (A5e m.nm&&A3k m.ds) 8).text m.nm;let d:=n.1.text m.ds;let c:=(d.1.text A6z).1;let c2:=if m.maps=[]then c else(c.text B4t).1;let k:=c2.code m.code;let t:=k.1.traps m.code m.traps;let p:=t.1.maps m.code m.maps;(p.1,⟨A1w m.st,(n.2:Nat),(d.2:Nat),m.sk,m.lo,none,0,0,k.2,none,0,0,t.2,none,0,0,p.2⟩))from rfl)
 clear h hm hw hf hb3
 change Calls Tryz.prog 36 #[.pointer (some ⟨g,0,none⟩),.agg #[.bool m.st,.string ⟨m.nm.toArray⟩,.string ⟨m.ds.toArray⟩,.int .i64 m.sk,.int .i64 m.lo,.slice m.ca m.cn m.cc,.slice m.ta m.tn m.tc,.slice m.ma m.mn m.mc]] w (B3g B g s m w)
 go_enter Tryz.func36,Tryz.ntmps36
 go_upto_region 1 with fail
 generalize(((w.alloc (.cells #[.pointer (some ⟨g,0,none⟩)] PLT)).alloc (.cells #[.bool m.st,.string ⟨m.nm.toArray⟩,.string ⟨m.ds.toArray⟩,.int .i64 m.sk,.int .i64 m.lo,.slice m.ca m.cn m.cc,.slice m.ta m.tn m.tc,.slice m.ma m.mn m.mc] A1d)).alloc (.cells #[.int .i64 0,.int .i64 0,.int .i64 0,.int .i64 0,.int .i64 0,.slice none 0 0,.slice none 0 0,.slice none 0 0] FMT))=W at*
 have hWs:W.heap.size=w.heap.size+3:=HSZ3.out;obtain⟨b1,hb1⟩:∃b,b=A5e m.nm:=⟨_,rfl⟩;obtain⟨b2,hb2⟩:∃b,b=A3k m.ds:=⟨_,rfl⟩;have HI1:=hzz (fun W hv=>A4s W m.nm HF.out.nm hv)
 have HI2:=hzz (fun W hv=>A4t W m.ds HF.out.ds hv);rw[<-hb1]at HI1 HRM;rw[<-hb2]at HI2 HRM;clear hb1 hb2
 go_cut [] (fun wx=>Hid (MtH w wx B g w.heap.size (w.heap.size+1) (w.heap.size+1+1) m (s.need (b1&&b2) 8)))
 case first=>
  have HD:=hzz (HH0.out.below (brz.drew));have hSw:BxM w.heap.size (w.heap.size+1) g m W.drew:=BxM.of HD.out
  have l0:∀z,BxM w.heap.size (w.heap.size+1) g m z->z.cell? ⟨w.heap.size,0,none⟩=some (.pointer (some ⟨g,0,none⟩)):=fun z h=>A0a h.1 0 rfl
  have l1:∀z,BxM w.heap.size (w.heap.size+1) g m z->z.cell? ⟨w.heap.size+1,1,none⟩=some (.string ⟨m.nm.toArray⟩):=fun z h=>A0a h.2 1 rfl
  have l2:∀z,BxM w.heap.size (w.heap.size+1) g m z->z.cell? ⟨w.heap.size+1,2,none⟩=some (.string ⟨m.ds.toArray⟩):=fun z h=>A0a h.2 2 rfl
  refine A0h (BxM w.heap.size (w.heap.size+1) g m) (.of [(0,true),(1,true),(2,true),(3,false),(4,true),(5,true),(6,true),(7,false),(8,true),(9,false)] (.stir [])) (by kernel_rfl) (by kernel_rfl) (fun c a d v w h=>by cases d<;>exact h) ?_
  generalize W.drew=V0 at*
  iterate 3
   refine A0b fun K hK=>tkF ?_
   go_simp
   try go_bits
   refine hK _ _ ?_;clear hK K
  refine A0b fun K hK=>alF ?_
  go_step;refine(HI1.out V0 HD.out.hs.vw).mono ?_;rintro e V1 ⟨rfl,hb1⟩;have H1:=hzz (HD.out.below hb1);have hSn:BxM w.heap.size (w.heap.size+1) g m V1:=BxM.of H1.out;clear hb1 HD hSw;have hSw:=hSn
  clear hSn;go_simp
  first|refine⟨hSw,hK _ _ ?_⟩|refine hK _ _ ?_
  clear hK K
  iterate 1
   refine A0b fun K hK=>tkF ?_
   go_simp
   try go_bits
   refine hK _ _ ?_;clear hK K
  have HND:=hzz (fun V ok (h:LoS V B g s)=>A0v V B g s ok 8 h)
  cases b1
  ·iterate 3
    refine A0b fun K hK=>skF ?_
    go_simp;refine hK _ _ ?_;clear hK K
   iterate 1
    refine A0b fun K hK=>tkF ?_
    go_simp
    try go_bits
    refine hK _ _ ?_;clear hK K
   refine A0b fun K hK=>alF ?_
   go_step;refine(HND.out V1 false H1.out.hs).mono ?_;rintro e V8 ⟨rfl,hs8,hk8⟩;have H8:=hzz (H1.out.call hs8 hk8);have hSn:BxM w.heap.size (w.heap.size+1) g m V8:=BxM.of H8.out;clear hs8 hk8
   go_simp
   first|refine⟨hSn,hK _ _ ?_⟩|refine hK _ _ ?_
   clear hK K;refine A0m (fun y=>y=V8) (fun y hy=>hy▸hSn) rfl ?_;refine A0p (fun y hy=> ?_);replace hy:=hy.symm;subst hy
   go_wp2_with fail
   go_meet;exact H8
  iterate 2
   refine A0b fun K hK=>tkF ?_
   go_simp
   try go_bits
   refine hK _ _ ?_;clear hK K
  refine A0b fun K hK=>alF ?_
  go_step;refine(HI2.out V1 H1.out.hs.vw).mono ?_;rintro e V2 ⟨rfl,hb2⟩;have H2:=hzz (H1.out.below hb2);have hSn:BxM w.heap.size (w.heap.size+1) g m V2:=BxM.of H2.out;clear hb2 H1 hSw;have hSw:=hSn
  clear hSn;go_simp
  first|refine⟨hSw,hK _ _ ?_⟩|refine hK _ _ ?_
  clear hK K
  iterate 1
   refine A0b fun K hK=>tkF ?_
   go_simp
   try go_bits
   refine hK _ _ ?_;clear hK K
  refine A0b fun K hK=>alF ?_
  go_step;refine(HND.out V2 b2 H2.out.hs).mono ?_;rintro e V8 ⟨rfl,hs8,hk8⟩;have H8:=hzz (H2.out.call hs8 hk8);have hSn:BxM w.heap.size (w.heap.size+1) g m V8:=BxM.of H8.out;clear hs8 hk8;go_simp
  first|refine⟨hSn,hK _ _ ?_⟩|refine hK _ _ ?_
  clear hK K;refine A0m (fun y=>y=V8) (fun y hy=>hy▸hSn) rfl ?_;refine A0p (fun y hy=> ?_);replace hy:=hy.symm;subst hy
  go_wp2_with fail
  go_meet;exact H8
 have HH1:=hcut;clear hcut HH0 HI1 HI2;have hl2:((s.need (b1&&b2) 8).text m.nm).1.l.length<=s.l.length+2:=A1x (s.need (b1&&b2) 8) m.nm
 have hi2:((s.need (b1&&b2) 8).text m.nm).2<=s.l.length:=B2p (s.need (b1&&b2) 8) _
 have HT1:=hzz (fun V hs hB9=>A2i V B g (s.need (b1&&b2) 8) m.nm hs HF.out.nm (show s.l.length<=_ by omega) hB9);generalize(s.need (b1&&b2) 8).text m.nm=n2 at*;obtain⟨s2,i2⟩:=n2
 dsimp only at hl2 hi2 HT1 HRM;have hl3:(s2.text m.ds).1.l.length<=s2.l.length+2:=A1x s2 m.ds;have hi3:(s2.text m.ds).2<=s2.l.length:=B2p s2 _
 have HT2:=hzz (fun V hs hB9=>A2i V B g s2 m.ds hs HF.out.ds (by omega) hB9);generalize s2.text m.ds=n3 at*;obtain⟨s3,i3⟩:=n3;dsimp only at hl3 hi3 HT2 HRM
 go_upto_region 2 with fail
 go_cut [5] (fun r wx=>∃go:Nat,r= .pointer (some ⟨go,0,none⟩)/\w.heap.size+3<=go/\Hid (MtJ w wx B g w.heap.size (w.heap.size+1) (w.heap.size+1+1) go m (⟨A1w m.st,(i2:Nat),(i3:Nat),m.sk,m.lo,none,0,0,[],none,0,0,[],none,0,0,[]⟩:KM) s3))
 case first=>
  have HD:=hzz (HH1.out.below (brz.drew));have hSw:BxM w.heap.size (w.heap.size+1) g m wc.drew:=BxM.of HD.out
  have l0:∀z,BxM w.heap.size (w.heap.size+1) g m z->z.cell? ⟨w.heap.size,0,none⟩=some (.pointer (some ⟨g,0,none⟩)):=fun z h=>A0a h.1 0 rfl
  have l1:∀z,BxM w.heap.size (w.heap.size+1) g m z->z.cell? ⟨w.heap.size+1,0,none⟩=some (.bool m.st):=fun z h=>A0a h.2 0 rfl
  have l2:∀z,BxM w.heap.size (w.heap.size+1) g m z->z.cell? ⟨w.heap.size+1,1,none⟩=some (.string ⟨m.nm.toArray⟩):=fun z h=>A0a h.2 1 rfl
  have l3:∀z,BxM w.heap.size (w.heap.size+1) g m z->z.cell? ⟨w.heap.size+1,2,none⟩=some (.string ⟨m.ds.toArray⟩):=fun z h=>A0a h.2 2 rfl
  have l4:∀z,BxM w.heap.size (w.heap.size+1) g m z->z.cell? ⟨w.heap.size+1,3,none⟩=some (.int .i64 m.sk):=fun z h=>A0a h.2 3 rfl
  have l5:∀z,BxM w.heap.size (w.heap.size+1) g m z->z.cell? ⟨w.heap.size+1,4,none⟩=some (.int .i64 m.lo):=fun z h=>A0a h.2 4 rfl
  refine A0h (BxM w.heap.size (w.heap.size+1) g m) (.of [(0,true),(1,true),(3,true),(4,true),(5,true),(7,true),(8,true),(9,true),(11,true),(12,true),(13,true),(14,true)] (.fork 2 (.fork 6 (.fork 10 (.of [(15,true),(16,false),(17,false)] (.stir [])) 16 (.of [(10,false),(15,true),(17,false)] (.stir []))) 16 (.of [(6,false),(10,false),(15,true),(17,false)] (.stir []))) 16 (.of [(2,false),(6,false),(10,false),(15,true),(17,false)] (.stir [])))) (by kernel_rfl) (by kernel_rfl) (fun c a d v w h=>by cases d<;>exact h) ?_
  generalize wc.drew=V0 at*
  iterate 12
   refine A0b fun K hK=>tkF ?_
   go_simp
   try go_bits
   refine hK _ _ ?_;clear hK K
  refine A3e ?_ ?_
  ·intro K hK;refine alF ?_;go_step;refine(B0f V0 m.st).mono ?_;rintro e V9 ⟨rfl,hq⟩;replace hq:=hq.symm;subst hq;go_simp
   first|refine⟨hSw,hK _ _ ?_⟩|refine hK _ _ ?_
   clear hK K;refine A3e ?_ ?_
   ·intro K hK;refine alF ?_;go_step;refine(HT1.out V0 HD.out.hs (HD.out.hk.bnd hB)).mono ?_;rintro e W2 ⟨rfl,hs9,hk9⟩;have H2:=hzz (HD.out.call hs9 hk9)
    have hSn:BxM w.heap.size (w.heap.size+1) g m W2:=BxM.of H2.out;clear hs9 hk9 hSw;have hSw:=hSn;clear hSn;go_simp
    first|refine⟨hSw,hK _ _ ?_⟩|refine hK _ _ ?_
    clear hK K;refine A3e ?_ ?_
    ·intro K hK;refine alF ?_;go_step;refine(HT2.out W2 H2.out.hs (H2.out.hk.bnd hB)).mono ?_;rintro e W3 ⟨rfl,hs9,hk9⟩;have H3:=hzz (H2.out.call hs9 hk9)
     have hSn:BxM w.heap.size (w.heap.size+1) g m W3:=BxM.of H3.out;clear hs9 hk9 hSw;have hSw:=hSn;clear hSn;go_simp
     first|refine⟨hSw,hK _ _ ?_⟩|refine hK _ _ ?_
     clear hK K
     iterate 1
      refine A0b fun K hK=>tkF ?_
      go_simp
      try go_bits
      refine hK _ _ ?_;clear hK K
     refine A0b fun K hK=>alF ?_
     go_step;have hal:=A0f W3 (.cells #[.int .i64 0,.int .i64 0,.int .i64 0,.int .i64 0,.int .i64 0,.slice none 0 0,.slice none 0 0,.slice none 0 0] FMT);have H4:=hzz (H3.out.below hal)
     have HO:=hzz (heap_alloc_last W3 (.cells #[.int .i64 0,.int .i64 0,.int .i64 0,.int .i64 0,.int .i64 0,.slice none 0 0,.slice none 0 0,.slice none 0 0] FMT))
     have hgo:w.heap.size+3<=W3.heap.size:=Nat.succ_le_of_lt (A0r H3.out.z)
     have hSn:BxM w.heap.size (w.heap.size+1) g m (W3.alloc (.cells #[.int .i64 0,.int .i64 0,.int .i64 0,.int .i64 0,.int .i64 0,.slice none 0 0,.slice none 0 0,.slice none 0 0] FMT)):=BxM.of H4.out
     refine⟨hSn,hK _ _ ?_⟩;clear hK K hSw hal;have hSw:=hSn;clear hSn;generalize W3.alloc _=W4 at*;generalize W3.heap.size=go at*;refine A0b fun K hK=>alF ?_
     refine wp_store_row FMT _ _ rfl go ((⟨A1w m.st,(i2:Nat),(i3:Nat),m.sk,m.lo,none,0,0,[],none,0,0,[],none,0,0,[]⟩:KM).cells.toArray) rfl rfl FMT _ HO.out B4r rfl (C7g _) ?_
     have HMJ:=hzz (H4.out.made HO.out (show w.heap.size<=go by omega) (by omega) (by omega) (A1w m.st) (i2:Nat) (i3:Nat) m.sk m.lo)
     have hSn:BxM w.heap.size (w.heap.size+1) g m (W4.setRow go ((⟨A1w m.st,(i2:Nat),(i3:Nat),m.sk,m.lo,none,0,0,[],none,0,0,[],none,0,0,[]⟩:KM).cells.toArray)):=BxM.of HMJ.out.h
     refine⟨hSn,hK _ _ ?_⟩;clear hK K hSw HO;generalize W4.setRow go ((⟨A1w m.st,(i2:Nat),(i3:Nat),m.sk,m.lo,none,0,0,[],none,0,0,[],none,0,0,[]⟩:KM).cells.toArray)=V9 at*
     refine A0m (fun y=>y=V9) (fun y hy=>hy▸hSn) rfl ?_;refine A0p (fun y hy=> ?_);replace hy:=hy.symm;subst hy
     go_wp2_with fail
     go_meet;exact⟨go,rfl,by omega,HMJ⟩
    intro K hK;refine alF ?_;go_step;have hal:=A0f W2 (.cells #[.int .i64 0,.int .i64 0,.int .i64 0,.int .i64 0,.int .i64 0,.slice none 0 0,.slice none 0 0,.slice none 0 0] FMT)
    have HA3:=hzz (H2.out.below hal);have HO:=hzz (heap_alloc_last W2 (.cells #[.int .i64 0,.int .i64 0,.int .i64 0,.int .i64 0,.int .i64 0,.slice none 0 0,.slice none 0 0,.slice none 0 0] FMT))
    have hgo:w.heap.size+3<=W2.heap.size:=Nat.succ_le_of_lt (A0r H2.out.z)
    have hSn:BxM w.heap.size (w.heap.size+1) g m (W2.alloc (.cells #[.int .i64 0,.int .i64 0,.int .i64 0,.int .i64 0,.int .i64 0,.slice none 0 0,.slice none 0 0,.slice none 0 0] FMT)):=BxM.of HA3.out
    refine⟨hSn,hK _ _ ?_⟩;clear hK K hSw hal;have hSw:=hSn;clear hSn;generalize W2.alloc _=A3 at*;generalize W2.heap.size=go at*;refine A0b fun K hK=>alF ?_
    go_step;refine(HT2.out A3 HA3.out.hs (HA3.out.hk.bnd hB)).mono ?_;rintro e A6 ⟨rfl,hs9,hk9⟩;have HA6:=hzz (HA3.out.call hs9 hk9)
    have hSn:BxM w.heap.size (w.heap.size+1) g m A6:=BxM.of HA6.out;replace HO:=hzz (hk9.row HO.out (by decide) (by decide));clear hs9 hk9 hSw;have hSw:=hSn;clear hSn;go_simp
    first|refine⟨hSw,hK _ _ ?_⟩|refine hK _ _ ?_
    clear hK K
    iterate 1
     refine A0b fun K hK=>tkF ?_
     go_simp
     try go_bits
     refine hK _ _ ?_;clear hK K
    refine A0b fun K hK=>alF ?_
    refine wp_store_row FMT _ _ rfl go ((⟨A1w m.st,(i2:Nat),(i3:Nat),m.sk,m.lo,none,0,0,[],none,0,0,[],none,0,0,[]⟩:KM).cells.toArray) rfl rfl FMT _ HO.out B4r rfl (C7g _) ?_
    have HMJ:=hzz (HA6.out.made HO.out (show w.heap.size<=go by omega) (by omega) (by omega) (A1w m.st) (i2:Nat) (i3:Nat) m.sk m.lo)
    have hSn:BxM w.heap.size (w.heap.size+1) g m (A6.setRow go ((⟨A1w m.st,(i2:Nat),(i3:Nat),m.sk,m.lo,none,0,0,[],none,0,0,[],none,0,0,[]⟩:KM).cells.toArray)):=BxM.of HMJ.out.h
    refine⟨hSn,hK _ _ ?_⟩;clear hK K hSw HO;generalize A6.setRow go ((⟨A1w m.st,(i2:Nat),(i3:Nat),m.sk,m.lo,none,0,0,[],none,0,0,[],none,0,0,[]⟩:KM).cells.toArray)=V9 at*
    refine A0m (fun y=>y=V9) (fun y hy=>hy▸hSn) rfl ?_;refine A0p (fun y hy=> ?_);replace hy:=hy.symm;subst hy
    go_wp2_with fail
    go_meet;exact⟨go,rfl,by omega,HMJ⟩
   intro K hK;refine alF ?_;go_step;have hal:=A0f V0 (.cells #[.int .i64 0,.int .i64 0,.int .i64 0,.int .i64 0,.int .i64 0,.slice none 0 0,.slice none 0 0,.slice none 0 0] FMT)
   have HA2:=hzz (HD.out.below hal);have HO:=hzz (heap_alloc_last V0 (.cells #[.int .i64 0,.int .i64 0,.int .i64 0,.int .i64 0,.int .i64 0,.slice none 0 0,.slice none 0 0,.slice none 0 0] FMT))
   have hgo:w.heap.size+3<=V0.heap.size:=Nat.succ_le_of_lt (A0r HD.out.z)
   have hSn:BxM w.heap.size (w.heap.size+1) g m (V0.alloc (.cells #[.int .i64 0,.int .i64 0,.int .i64 0,.int .i64 0,.int .i64 0,.slice none 0 0,.slice none 0 0,.slice none 0 0] FMT)):=BxM.of HA2.out
   refine⟨hSn,hK _ _ ?_⟩;clear hK K hSw hal;have hSw:=hSn;clear hSn;generalize V0.alloc _=A2 at*;generalize V0.heap.size=go at*;refine A0b fun K hK=>alF ?_
   go_step;refine(HT1.out A2 HA2.out.hs (HA2.out.hk.bnd hB)).mono ?_;rintro e A4 ⟨rfl,hs9,hk9⟩;have HA4:=hzz (HA2.out.call hs9 hk9);have hSn:BxM w.heap.size (w.heap.size+1) g m A4:=BxM.of HA4.out
   replace HO:=hzz (hk9.row HO.out (by decide) (by decide));clear hs9 hk9 hSw;have hSw:=hSn;clear hSn;go_simp
   first|refine⟨hSw,hK _ _ ?_⟩|refine hK _ _ ?_
   clear hK K;refine A0b fun K hK=>alF ?_
   go_step;refine(HT2.out A4 HA4.out.hs (HA4.out.hk.bnd hB)).mono ?_;rintro e A5 ⟨rfl,hs9,hk9⟩;have HA5:=hzz (HA4.out.call hs9 hk9);have hSn:BxM w.heap.size (w.heap.size+1) g m A5:=BxM.of HA5.out
   replace HO:=hzz (hk9.row HO.out (by decide) (by decide));clear hs9 hk9 hSw;have hSw:=hSn;clear hSn;go_simp
   first|refine⟨hSw,hK _ _ ?_⟩|refine hK _ _ ?_
   clear hK K
   iterate 1
    refine A0b fun K hK=>tkF ?_
    go_simp
    try go_bits
    refine hK _ _ ?_;clear hK K
   refine A0b fun K hK=>alF ?_
   refine wp_store_row FMT _ _ rfl go ((⟨A1w m.st,(i2:Nat),(i3:Nat),m.sk,m.lo,none,0,0,[],none,0,0,[],none,0,0,[]⟩:KM).cells.toArray) rfl rfl FMT _ HO.out B4r rfl (C7g _) ?_
   have HMJ:=hzz (HA5.out.made HO.out (show w.heap.size<=go by omega) (by omega) (by omega) (A1w m.st) (i2:Nat) (i3:Nat) m.sk m.lo)
   have hSn:BxM w.heap.size (w.heap.size+1) g m (A5.setRow go ((⟨A1w m.st,(i2:Nat),(i3:Nat),m.sk,m.lo,none,0,0,[],none,0,0,[],none,0,0,[]⟩:KM).cells.toArray)):=BxM.of HMJ.out.h
   refine⟨hSn,hK _ _ ?_⟩;clear hK K hSw HO;generalize A5.setRow go ((⟨A1w m.st,(i2:Nat),(i3:Nat),m.sk,m.lo,none,0,0,[],none,0,0,[],none,0,0,[]⟩:KM).cells.toArray)=V9 at*
   refine A0m (fun y=>y=V9) (fun y hy=>hy▸hSn) rfl ?_;refine A0p (fun y hy=> ?_);replace hy:=hy.symm;subst hy
   go_wp2_with fail
   go_meet;exact⟨go,rfl,by omega,HMJ⟩
  intro K hK;refine alF ?_;go_step;have hal:=A0f V0 (.cells #[.int .i64 0,.int .i64 0,.int .i64 0,.int .i64 0,.int .i64 0,.slice none 0 0,.slice none 0 0,.slice none 0 0] FMT)
  have HA1:=hzz (HD.out.below hal);have HO:=hzz (heap_alloc_last V0 (.cells #[.int .i64 0,.int .i64 0,.int .i64 0,.int .i64 0,.int .i64 0,.slice none 0 0,.slice none 0 0,.slice none 0 0] FMT))
  have hgo:w.heap.size+3<=V0.heap.size:=Nat.succ_le_of_lt (A0r HD.out.z)
  have hSn:BxM w.heap.size (w.heap.size+1) g m (V0.alloc (.cells #[.int .i64 0,.int .i64 0,.int .i64 0,.int .i64 0,.int .i64 0,.slice none 0 0,.slice none 0 0,.slice none 0 0] FMT)):=BxM.of HA1.out
  refine⟨hSn,hK _ _ ?_⟩;clear hK K hSw hal;have hSw:=hSn;clear hSn;generalize V0.alloc _=A1 at*;generalize V0.heap.size=go at*;refine A0b fun K hK=>alF ?_
  go_step;refine(B0f A1 m.st).mono ?_;rintro e V9 ⟨rfl,hq⟩;replace hq:=hq.symm;subst hq;go_simp
  first|refine⟨hSw,hK _ _ ?_⟩|refine hK _ _ ?_
  clear hK K;refine A0b fun K hK=>alF ?_
  go_step;refine(HT1.out A1 HA1.out.hs (HA1.out.hk.bnd hB)).mono ?_;rintro e A3 ⟨rfl,hs9,hk9⟩;have HA3:=hzz (HA1.out.call hs9 hk9);have hSn:BxM w.heap.size (w.heap.size+1) g m A3:=BxM.of HA3.out
  replace HO:=hzz (hk9.row HO.out (by decide) (by decide));clear hs9 hk9 hSw;have hSw:=hSn;clear hSn;go_simp
  first|refine⟨hSw,hK _ _ ?_⟩|refine hK _ _ ?_
  clear hK K;refine A0b fun K hK=>alF ?_
  go_step;refine(HT2.out A3 HA3.out.hs (HA3.out.hk.bnd hB)).mono ?_;rintro e A4 ⟨rfl,hs9,hk9⟩;have HA4:=hzz (HA3.out.call hs9 hk9);have hSn:BxM w.heap.size (w.heap.size+1) g m A4:=BxM.of HA4.out
  replace HO:=hzz (hk9.row HO.out (by decide) (by decide));clear hs9 hk9 hSw;have hSw:=hSn;clear hSn;go_simp
  first|refine⟨hSw,hK _ _ ?_⟩|refine hK _ _ ?_
  clear hK K
  iterate 1
   refine A0b fun K hK=>tkF ?_
   go_simp
   try go_bits
   refine hK _ _ ?_;clear hK K
  refine A0b fun K hK=>alF ?_
  refine wp_store_row FMT _ _ rfl go ((⟨A1w m.st,(i2:Nat),(i3:Nat),m.sk,m.lo,none,0,0,[],none,0,0,[],none,0,0,[]⟩:KM).cells.toArray) rfl rfl FMT _ HO.out B4r rfl (C7g _) ?_
  have HMJ:=hzz (HA4.out.made HO.out (show w.heap.size<=go by omega) (by omega) (by omega) (A1w m.st) (i2:Nat) (i3:Nat) m.sk m.lo)
  have hSn:BxM w.heap.size (w.heap.size+1) g m (A4.setRow go ((⟨A1w m.st,(i2:Nat),(i3:Nat),m.sk,m.lo,none,0,0,[],none,0,0,[],none,0,0,[]⟩:KM).cells.toArray)):=BxM.of HMJ.out.h
  refine⟨hSn,hK _ _ ?_⟩;clear hK K hSw HO;generalize A4.setRow go ((⟨A1w m.st,(i2:Nat),(i3:Nat),m.sk,m.lo,none,0,0,[],none,0,0,[],none,0,0,[]⟩:KM).cells.toArray)=V9 at*
  refine A0m (fun y=>y=V9) (fun y hy=>hy▸hSn) rfl ?_;refine A0p (fun y hy=> ?_);replace hy:=hy.symm;subst hy
  go_wp2_with fail
  go_meet;exact⟨go,rfl,by omega,HMJ⟩
 obtain⟨go,rfl,hgo,HJ⟩:=hcut;clear HT1 HT2 HH1
 have HC3:=hzz (show Calls Tryz.prog 35 #[.pointer (some ⟨g,0,none⟩),.string ⟨#[67,111,100,101]⟩] wc (B1y (.int .i64 ((s3.text A6z).2:Nat)) B g (s3.text A6z).1 wc)from A2i wc B g s3 A6z HJ.out.h.hs (by decide) (by omega) (HJ.out.h.hk.bnd hB))
 have hl4:(s3.text A6z).1.l.length<=s3.l.length+2:=A1x s3 _;generalize s3.text A6z=n4 at*;obtain⟨s4,i4⟩:=n4;dsimp only at hl4 HC3 HRM
 have k0:wc.cell? ⟨w.heap.size,0,none⟩=some (.pointer (some ⟨g,0,none⟩)):=A0a HJ.out.h.k 0 rfl
 go_wp2_with fail
 refine HC3.out.mono ?_;rintro e V4 ⟨rfl,hs4,hk4⟩;have HJ4:=hzz (HJ.out.call hs4 hk4);clear hs4 hk4 HC3 HJ k0
 have m7:V4.cell? ⟨w.heap.size+1,7,none⟩=some (.slice m.ma m.mn m.mc):=A0a HJ4.out.h.m 7 rfl
 obtain⟨s5,hs5⟩:=exz (if m.maps=[]then s4 else(s4.text B4t).1)
 rw[<-hs5]at HRM
 have hl5:s5.l.length<=s4.l.length+2:=by
  rw[hs5];split
  ·omega
  exact A1x s4 _
 have HS5:=hzz hs5;clear hs5;obtain⟨bm,hbm⟩:=exz (decide (0<m.mn));have e0:decide (0<m.mn)=bm:=hbm.symm;have e1:decide (0<(m.mn:Int))=bm:=by rw[hbm];exact decide_eq_decide.2 (by omega)
 have HBM:=hzz hbm;clear hbm
 go_upto_if 45 with fail
 go_cut [] (fun wx=>Hid (MtJ w wx B g w.heap.size (w.heap.size+1) (w.heap.size+1+1) go m (⟨A1w m.st,(i2:Nat),(i3:Nat),m.sk,m.lo,none,0,0,[],none,0,0,[],none,0,0,[]⟩:KM) s5))
 case first=>
  have hml:m.maps.length=m.mn:=HM.out.maps.1
  cases bm
  ·have hmn:m.maps=[]:=List.length_eq_zero_iff.1 (by have:=of_decide_eq_false HBM.out.symm;omega);have HQ:=hzz (show s5=s4 by rw[HS5.out,if_pos hmn]);clear hml hmn e0 e1
   go_wp2_with fail
   go_meet;exact hzz (by rw[HQ.out];exact HJ4.out)
  have hmn:¬m.maps=[]:=fun h=>by
   have h1:=of_decide_eq_true HBM.out.symm;rw[h]at hml;simp at hml;omega
  have HQ:=hzz (show s5=(s4.text B4t).1 by rw[HS5.out,if_neg hmn])
  have HC5:=hzz (show Calls Tryz.prog 35 #[.pointer (some ⟨g,0,none⟩),.string ⟨#[83,116,97,99,107,77,97,112]⟩] V4 (B1y (.int .i64 ((s4.text B4t).2:Nat)) B g (s4.text B4t).1 V4)from A2i V4 B g s4 B4t HJ4.out.h.hs (by decide) (by omega) (HJ4.out.h.hk.bnd hB))
  have k0:V4.cell? ⟨w.heap.size,0,none⟩=some (.pointer (some ⟨g,0,none⟩)):=A0a HJ4.out.h.k 0 rfl;clear hml hmn e0 e1
  go_wp2_with fail
  refine HC5.out.mono ?_;rintro e V5 ⟨rfl,hs5,hk5⟩
  go_wp2_with fail
  go_meet;exact hzz (by rw[HQ.out];exact HJ4.out.call hs5 hk5)
 have HJ5:=hcut;clear hcut HJ4 m7 HS5 e0 e1 HBM;have hbV:=HJ5.out.h.hk.belowO HWB.out nlz h0B;have HRD:=hzz (HM.out.below hbV);have HLC:=hzz HM.out.code.1;have hcl:m.code.length<=4096:=HF.out.code
 have HCO:=hzz (C6c wc B g s5 m.ca m.cn m.cc m.code HJ5.out.h.hs HRD.out.code (HM.out.code.lowA h0B) HF.out.ins (by rw[<-HLC.out];exact hcl) (by omega) (HJ5.out.h.hk.bnd hB) hB0);unfold B7d at HCO
 have hl6:=C4m s5 m.code;generalize s5.code m.code=n6 at*;obtain⟨s6,bs⟩:=n6;dsimp only at hl6 HCO HRM
 have k0:wc.cell? ⟨w.heap.size,0,none⟩=some (.pointer (some ⟨g,0,none⟩)):=A0a HJ5.out.h.k 0 rfl;have m5:wc.cell? ⟨w.heap.size+1,5,none⟩=some (.slice m.ca m.cn m.cc):=A0a HJ5.out.h.m 5 rfl
 have hwc:w.heap.size<=wc.heap.size:=HJ5.out.h.hk.size;clear hbV HRD
 go_wp2_with fail
 refine HCO.out.mono ?_;rintro e V6 ⟨ba,bn,bc,gat,rfl,hoo,hsl,hle,hra,hgt,hs6,hk6⟩;have HJ6:=hzz (HJ5.out.call hs6 hk6);have HOO:=hzz (hoo.mono hwc);have HRA:=hzz hra
 clear hoo hsl hle hra hs6 hk6 HCO HJ5 k0 m5 hgt
 go_upto_region 7 with fail
 have hal:=A0f V6 (.cells #[.slice (some ⟨gat,0,none⟩) (m.cn+1) (m.cn+1)] 138);have HJ7:=hzz (HJ6.out.below hal)
 have HA7:=hzz (show MtA (V6.alloc (.cells #[.slice (some ⟨gat,0,none⟩) (m.cn+1) (m.cn+1)] 138)) V6.heap.size gat m from⟨heap_alloc_last V6 _,HRA.out.below hal⟩);have HOO7:=hzz (HOO.out.below hal)
 clear hal HJ6 HOO HRA;generalize V6.alloc _=V7 at*;generalize V6.heap.size=ga at*;have fo:=A0n HJ7.out.o 5;have lo:=A0r HJ7.out.o;have co:=A0a HJ7.out.o 5 rfl;dsimp only[KM.cells]at co
 go_upto_region 8 with fail
 have HJ8:=hzz (show MtJ w (V7.setCell ⟨go,5,none⟩ (.slice ba bn bc)) B g w.heap.size (w.heap.size+1) (w.heap.size+1+1) go m (⟨A1w m.st,(i2:Nat),(i3:Nat),m.sk,m.lo,ba,bn,bc,bs,none,0,0,[],none,0,0,[]⟩:KM) s6 from
  HJ7.out.put (by omega) (by omega) (by omega) 5 _ rfl (HJ7.out.w.code1 HOO7.out))
 have HA8:=hzz (HA7.out.keptT (A1p HJ7.out.o 5 (.slice ba bn bc)) (by decide) (by decide));clear HJ7 HA7 HOO7 fo lo co;generalize V7.setCell ⟨go,5,none⟩ (.slice ba bn bc)=V8 at*
 have m6:V8.cell? ⟨w.heap.size+1,6,none⟩=some (.slice m.ta m.tn m.tc):=A0a HJ8.out.h.m 6 rfl;have HTL:=hzz HM.out.traps.1;have hft:=HF.out.traps;rw[HTL.out]at hft
 have hcn:m.cn<=4096:=by rw[<-HLC.out];exact hcl
 go_wp2_with fail
 go_loopg [61] m.tn (fun gn i wr=>∃(j:Nat) (x:KM),j<=m.tn/\gn=m.tn-j/\i= .int .i64 j/\Hid (x.lp=⟨A1w m.st,(i2:Nat),(i3:Nat),m.sk,m.lo,none,0,0,bs,none,0,0,(s6.traps m.code (m.traps.take j)).2,none,0,0,[]⟩)/\Hid (MtJ w wr B g w.heap.size (w.heap.size+1) (w.heap.size+1+1) go m x (s6.traps m.code (m.traps.take j)).1)/\Hid (MtA wr ga gat m))
 case atStart=>exact⟨0,_,by omega,by omega,by go_num,hzz rfl,HJ8,HA8⟩
 clear HJ8 HA8 m6;obtain⟨j,x,hj,rfl,rfl,HX,HJ,HA⟩:=hrel;by_cases hlt:j<m.tn
 ·have HRT:=hzz ((HM.out.below (HJ.out.h.hk.belowO HWB.out nlz h0B)).traps);obtain⟨bq,off,t,hbq,hbl,ht,q⟩:=HRT.out.getC j hlt;have q0:=q 0 (by omega);have q1:=q 1 (by omega)
  have q2:=q 2 (by omega);have q3:=q 3 (by omega);rw[Nat.add_zero]at q0;simp only[UT.cells,List.getElem?_cons_zero,List.getElem?_cons_succ]at q0 q1 q2 q3;have hj1:(j:Int)<m.tn:=by omega
  have HTT:=hzz (HF.out.tr t (List.mem_of_getElem? ht))
  have HSN:=hzz (show s6.traps m.code (m.traps.take (j+1))=((((s6.traps m.code (m.traps.take j)).1).trap m.code t).1,(s6.traps m.code (m.traps.take j)).2++[(((s6.traps m.code (m.traps.take j)).1).trap m.code t).2]) by
   have hjl:=(gsz ht).1;rw[List.take_succ_eq_append_getElem hjl,(gsz ht).2,C6u])
  have hln:=B3z s6 m.code (m.traps.take j);rw[List.length_take,HTL.out,Nat.min_eq_left hj]at hln
  have hxn:x.tn=j:=by
   have h1:=congrArg (fun y=>y.traps.length) HX.out;have h2:=HJ.out.w.tn;have h3:=C0d s6 m.code (m.traps.take j);rw[List.length_take,HTL.out,Nat.min_eq_left hj]at h3;dsimp only[KM.lp]at h1
   omega
  generalize s6.traps m.code (m.traps.take j)=SJ at*;obtain⟨sj,lj⟩:=SJ;dsimp only at HX HJ HSN hln;have HXN:=hzz hxn;clear ht q hxn
  go_upto_region 12 with fail
  have hal:=A0f wr (.cells #[.int .i64 t.fr,.int .i64 t.tt,.int .i64 t.pl,.string ⟨t.cl.toArray⟩] 85)
  have HT1:=hzz (show(wr.alloc (.cells #[.int .i64 t.fr,.int .i64 t.tt,.int .i64 t.pl,.string ⟨t.cl.toArray⟩] 85)).heap[wr.heap.size]? =some (.cells t.cells.toArray 85 (0,0))from heap_alloc_last wr _)
  have HJ1:=hzz (HJ.out.below hal);have HA1:=hzz (HA.out.below hal);clear hal q0 q1 q2 q3 hbq hbl HJ HA HRT;generalize wr.alloc _=W at*;generalize wr.heap.size=gx at*
  have HP1:=hzz (fun V hs hk (ha:MtA V ga gat m)=>A8d V B g w.heap.size ga gat sj m.code t.fr ((m.code.length:Int) -1) hs hk (by rw[HLC.out];exact ha.a) ha.r hcl (by omega))
  have HP2:=hzz (fun V hs hk (ha:MtA V ga gat m)=>A8d V B g w.heap.size ga gat (sj.place m.code t.fr (m.code.length-1)).1 m.code t.tt (m.code.length:Int) hs hk (by rw[HLC.out];exact ha.a) ha.r hcl (by omega))
  have HP3:=hzz (fun V hs hk (ha:MtA V ga gat m)=>A8d V B g w.heap.size ga gat ((sj.place m.code t.fr (m.code.length-1)).1.place m.code t.tt m.code.length).1 m.code t.pl ((m.code.length:Int) -1) hs hk (by rw[HLC.out];exact ha.a) ha.r hcl (by omega))
  have hlp:(((sj.place m.code t.fr (m.code.length-1)).1.place m.code t.tt m.code.length).1.place m.code t.pl (m.code.length-1)).1.l.length=sj.l.length:=by simp only[B4m]
  obtain⟨RT,hRT⟩:=exz (sj.trap m.code t);rw[<-hRT]at HSN;unfold LW.trap at hRT;dsimp only at hRT;rw[HLC.out]at HP1 HP2 HP3 hRT hlp;generalize sj.place m.code t.fr ((m.cn:Int) -1)=p1 at*
  obtain⟨t1,v1⟩:=p1;dsimp only at HP1 HP2 HP3 hRT hlp;generalize t1.place m.code t.tt (m.cn:Int)=p2 at*;obtain⟨t2,v2⟩:=p2;dsimp only at HP2 HP3 hRT hlp
  generalize t2.place m.code t.pl ((m.cn:Int) -1)=p3 at*;obtain⟨t3,v3⟩:=p3;dsimp only at HP3 hRT hlp;have HRT:=hzz hRT;clear hRT
  go_cut [11] (fun r wx=>∃gt:Nat,r= .pointer (some ⟨gt,0,none⟩)/\w.heap.size+3<=gt/\Hid (∀k,(Value.slice x.ta x.tn x.tc).ownBlock=some k->k≠gt)/\Hid (wx.heap[gt]? =some (.cells (⟨v1,v2,v3,0⟩:KT).cells.toArray TrT (0,0)))/\Hid (wx.heap[gx]? =some (.cells t.cells.toArray 85 (0,0)))/\Hid (MtJ w wx B g w.heap.size (w.heap.size+1) (w.heap.size+1+1) go m x t3)/\Hid (MtA wx ga gat m))
  case first=>
   have HJd:=hzz (HJ1.out.below (brz.drew));have HAd:=hzz (HA1.out.below (brz.drew));have HTd:=hzz (A0e HT1.out ((Below.refl _ W).drew))
   have hSw:BxT gx (w.heap.size+1) t m W.drew:=⟨HTd.out,HJd.out.h.m⟩;have l0:∀z,BxT gx (w.heap.size+1) t m z->z.cell? ⟨gx,0,none⟩=some (.int .i64 t.fr):=fun z h=>A0a h.1 0 rfl
   have l1:∀z,BxT gx (w.heap.size+1) t m z->z.cell? ⟨gx,1,none⟩=some (.int .i64 t.tt):=fun z h=>A0a h.1 1 rfl
   have l2:∀z,BxT gx (w.heap.size+1) t m z->z.cell? ⟨gx,2,none⟩=some (.int .i64 t.pl):=fun z h=>A0a h.1 2 rfl
   have l3:∀z,BxT gx (w.heap.size+1) t m z->z.cell? ⟨w.heap.size+1,5,none⟩=some (.slice m.ca m.cn m.cc):=fun z h=>A0a h.2 5 rfl
   refine A0h (BxT gx (w.heap.size+1) t m) (.of [(0,true),(1,true),(2,true),(3,true),(4,true),(5,true),(6,true),(8,true),(9,true),(10,true),(11,true),(12,true),(13,true),(15,true),(16,true),(17,true),(18,true),(19,true),(20,true),(21,true)] (.fork 7 (.fork 14 (.fork 22 (.of [(23,true),(24,false),(25,false)] (.stir [])) 24 (.of [(22,false),(23,true),(25,false)] (.stir []))) 24 (.of [(14,false),(22,false),(23,true),(25,false)] (.stir []))) 24 (.of [(7,false),(14,false),(22,false),(23,true),(25,false)] (.stir [])))) (by kernel_rfl) (by kernel_rfl) (fun c a d v w h=>by cases d<;>exact h) ?_
   generalize W.drew=V0 at*
   iterate 20
    refine A0b fun K hK=>tkF ?_
    go_simp
    try go_bits
    refine hK _ _ ?_;clear hK K
   refine A3e ?_ ?_
   ·intro K hK;refine alF ?_;go_step;refine(HP1.out V0 HJd.out.h.hs HJd.out.h.k HAd.out).mono ?_;rintro e W1 ⟨rfl,hs9,hk9⟩;have HJx1:=hzz (HJd.out.call hs9 hk9);have HAx1:=hzz (HAd.out.keepL hk9)
    have HTx1:=hzz (hk9.row HTd.out (by decide) (by decide));have hSn:BxT gx (w.heap.size+1) t m W1:=⟨HTx1.out,HJx1.out.h.m⟩;clear hs9 hk9 hSw HJd HAd HTd;have hSw:=hSn;clear hSn;go_simp
    first|refine⟨hSw,hK _ _ ?_⟩|refine hK _ _ ?_
    clear hK K;refine A3e ?_ ?_
    ·intro K hK;refine alF ?_;go_step;refine(HP2.out W1 HJx1.out.h.hs HJx1.out.h.k HAx1.out).mono ?_;rintro e W2 ⟨rfl,hs9,hk9⟩;have HJx2:=hzz (HJx1.out.call hs9 hk9)
     have HAx2:=hzz (HAx1.out.keepL hk9);have HTx2:=hzz (hk9.row HTx1.out (by decide) (by decide));have hSn:BxT gx (w.heap.size+1) t m W2:=⟨HTx2.out,HJx2.out.h.m⟩
     clear hs9 hk9 hSw HJx1 HAx1 HTx1;have hSw:=hSn;clear hSn;go_simp
     first|refine⟨hSw,hK _ _ ?_⟩|refine hK _ _ ?_
     clear hK K;refine A3e ?_ ?_
     ·intro K hK;refine alF ?_;go_step;refine(HP3.out W2 HJx2.out.h.hs HJx2.out.h.k HAx2.out).mono ?_;rintro e W3 ⟨rfl,hs9,hk9⟩;have HJx3:=hzz (HJx2.out.call hs9 hk9)
      have HAx3:=hzz (HAx2.out.keepL hk9);have HTx3:=hzz (hk9.row HTx2.out (by decide) (by decide));have hSn:BxT gx (w.heap.size+1) t m W3:=⟨HTx3.out,HJx3.out.h.m⟩
      clear hs9 hk9 hSw HJx2 HAx2 HTx2;have hSw:=hSn;clear hSn;go_simp
      first|refine⟨hSw,hK _ _ ?_⟩|refine hK _ _ ?_
      clear hK K
      iterate 1
       refine A0b fun K hK=>tkF ?_
       go_simp
       try go_bits
       refine hK _ _ ?_;clear hK K
      refine A0b fun K hK=>alF ?_
      go_step;have hal:=A0f W3 (.cells #[.int .i64 0,.int .i64 0,.int .i64 0,.int .i64 0] TrT);have HJx4:=hzz (HJx3.out.below hal);have HAx4:=hzz (HAx3.out.below hal)
      have HTx4:=hzz (A0e HTx3.out hal);have HO:=hzz (heap_alloc_last W3 (.cells #[.int .i64 0,.int .i64 0,.int .i64 0,.int .i64 0] TrT))
      have hgt:w.heap.size+3<=W3.heap.size:=Nat.le_trans (Nat.le_trans hgo (Nat.le_of_lt (A0r HJx3.out.o))) nlz
      have HGT:=hzz (fun k (h:(Value.slice x.ta x.tn x.tc).ownBlock=some k)=>Nat.ne_of_lt (HJx3.out.w.traps.lt k h).2);have hgn:W3.heap.size≠go:=Nat.ne_of_gt (A0r HJx3.out.o)
      have hgx:W3.heap.size≠gx:=Nat.ne_of_gt (A0r HTx3.out)
      have hSn:BxT gx (w.heap.size+1) t m (W3.alloc (.cells #[.int .i64 0,.int .i64 0,.int .i64 0,.int .i64 0] TrT)):=⟨HTx4.out,HJx4.out.h.m⟩;refine⟨hSn,hK _ _ ?_⟩;clear hK K hSw hal
      have hSw:=hSn;clear hSn HJx3 HAx3 HTx3;generalize W3.alloc _=W4 at*;generalize W3.heap.size=gt at*;refine A0b fun K hK=>alF ?_
      refine wp_store_row TrT _ _ rfl gt ((⟨v1,v2,v3,0⟩:KT).cells.toArray) rfl rfl TrT _ HO.out C3u rfl (D2a _) ?_
      have hvb:Below w.heap.size W4 (W4.setRow gt ((⟨v1,v2,v3,0⟩:KT).cells.toArray)):=below_setRow (by omega) _;have hkt:=A1q (cs':=((⟨v1,v2,v3,0⟩:KT).cells.toArray)) HO.out
      have HJ9:=hzz (HJx4.out.other hkt hvb (HJx4.out.h.hs.setR HO.out (by decide) (by decide) (by omega) _) (.inr (fun k h=>(HGT.out k h))) (fun g h=>setRow_other W4 gt g _ h))
      have HA9:=hzz (HAx4.out.keptT hkt (by decide) (by decide));have HT9:=hzz (hkt.2 _ _ _ _ HTx4.out (by decide))
      have HO9:=hzz (setRow_heap W4 gt _ ((⟨v1,v2,v3,0⟩:KT).cells.toArray) _ _ HO.out)
      have hSn:BxT gx (w.heap.size+1) t m (W4.setRow gt ((⟨v1,v2,v3,0⟩:KT).cells.toArray)):=⟨HT9.out,HJ9.out.h.m⟩;refine⟨hSn,hK _ _ ?_⟩;clear hK K hSw HO hvb hkt HJx4 HAx4 HTx4
      generalize W4.setRow gt ((⟨v1,v2,v3,0⟩:KT).cells.toArray)=V9 at*;refine A0m (fun y=>y=V9) (fun y hy=>hy▸hSn) rfl ?_;refine A0p (fun y hy=> ?_);replace hy:=hy.symm
      subst hy
      go_wp2_with fail
      go_meet;exact⟨gt,rfl,by omega,HGT,HO9,HT9,HJ9,HA9⟩
     intro K hK;refine alF ?_;go_step;have hal:=A0f W2 (.cells #[.int .i64 0,.int .i64 0,.int .i64 0,.int .i64 0] TrT);have HJy3:=hzz (HJx2.out.below hal)
     have HAy3:=hzz (HAx2.out.below hal);have HTy3:=hzz (A0e HTx2.out hal);have HO:=hzz (heap_alloc_last W2 (.cells #[.int .i64 0,.int .i64 0,.int .i64 0,.int .i64 0] TrT))
     have hgt:w.heap.size+3<=W2.heap.size:=Nat.le_trans (Nat.le_trans hgo (Nat.le_of_lt (A0r HJx2.out.o))) nlz
     have HGT:=hzz (fun k (h:(Value.slice x.ta x.tn x.tc).ownBlock=some k)=>Nat.ne_of_lt (HJx2.out.w.traps.lt k h).2);have hgn:W2.heap.size≠go:=Nat.ne_of_gt (A0r HJx2.out.o)
     have hgx:W2.heap.size≠gx:=Nat.ne_of_gt (A0r HTx2.out)
     have hSn:BxT gx (w.heap.size+1) t m (W2.alloc (.cells #[.int .i64 0,.int .i64 0,.int .i64 0,.int .i64 0] TrT)):=⟨HTy3.out,HJy3.out.h.m⟩;refine⟨hSn,hK _ _ ?_⟩;clear hK K hSw hal
     have hSw:=hSn;clear hSn HJx2 HAx2 HTx2;generalize W2.alloc _=A3 at*;generalize W2.heap.size=gt at*;refine A0b fun K hK=>alF ?_
     go_step;refine(HP3.out A3 HJy3.out.h.hs HJy3.out.h.k HAy3.out).mono ?_;rintro e A6 ⟨rfl,hs9,hk9⟩;have HJy6:=hzz (HJy3.out.call hs9 hk9);have HAy6:=hzz (HAy3.out.keepL hk9)
     have HTy6:=hzz (hk9.row HTy3.out (by decide) (by decide));have hSn:BxT gx (w.heap.size+1) t m A6:=⟨HTy6.out,HJy6.out.h.m⟩;replace HO:=hzz (hk9.row HO.out (by decide) (by decide))
     clear hs9 hk9 hSw HJy3 HAy3 HTy3;have hSw:=hSn;clear hSn;go_simp
     first|refine⟨hSw,hK _ _ ?_⟩|refine hK _ _ ?_
     clear hK K
     iterate 1
      refine A0b fun K hK=>tkF ?_
      go_simp
      try go_bits
      refine hK _ _ ?_;clear hK K
     refine A0b fun K hK=>alF ?_
     refine wp_store_row TrT _ _ rfl gt ((⟨v1,v2,v3,0⟩:KT).cells.toArray) rfl rfl TrT _ HO.out C3u rfl (D2a _) ?_
     have hvb:Below w.heap.size A6 (A6.setRow gt ((⟨v1,v2,v3,0⟩:KT).cells.toArray)):=below_setRow (by omega) _;have hkt:=A1q (cs':=((⟨v1,v2,v3,0⟩:KT).cells.toArray)) HO.out
     have HJ9:=hzz (HJy6.out.other hkt hvb (HJy6.out.h.hs.setR HO.out (by decide) (by decide) (by omega) _) (.inr (fun k h=>(HGT.out k h))) (fun g h=>setRow_other A6 gt g _ h))
     have HA9:=hzz (HAy6.out.keptT hkt (by decide) (by decide));have HT9:=hzz (hkt.2 _ _ _ _ HTy6.out (by decide))
     have HO9:=hzz (setRow_heap A6 gt _ ((⟨v1,v2,v3,0⟩:KT).cells.toArray) _ _ HO.out)
     have hSn:BxT gx (w.heap.size+1) t m (A6.setRow gt ((⟨v1,v2,v3,0⟩:KT).cells.toArray)):=⟨HT9.out,HJ9.out.h.m⟩;refine⟨hSn,hK _ _ ?_⟩;clear hK K hSw HO hvb hkt HJy6 HAy6 HTy6
     generalize A6.setRow gt ((⟨v1,v2,v3,0⟩:KT).cells.toArray)=V9 at*;refine A0m (fun y=>y=V9) (fun y hy=>hy▸hSn) rfl ?_;refine A0p (fun y hy=> ?_);replace hy:=hy.symm
     subst hy
     go_wp2_with fail
     go_meet;exact⟨gt,rfl,by omega,HGT,HO9,HT9,HJ9,HA9⟩
    intro K hK;refine alF ?_;go_step;have hal:=A0f W1 (.cells #[.int .i64 0,.int .i64 0,.int .i64 0,.int .i64 0] TrT);have HJy2:=hzz (HJx1.out.below hal);have HAy2:=hzz (HAx1.out.below hal)
    have HTy2:=hzz (A0e HTx1.out hal);have HO:=hzz (heap_alloc_last W1 (.cells #[.int .i64 0,.int .i64 0,.int .i64 0,.int .i64 0] TrT))
    have hgt:w.heap.size+3<=W1.heap.size:=Nat.le_trans (Nat.le_trans hgo (Nat.le_of_lt (A0r HJx1.out.o))) nlz
    have HGT:=hzz (fun k (h:(Value.slice x.ta x.tn x.tc).ownBlock=some k)=>Nat.ne_of_lt (HJx1.out.w.traps.lt k h).2);have hgn:W1.heap.size≠go:=Nat.ne_of_gt (A0r HJx1.out.o)
    have hgx:W1.heap.size≠gx:=Nat.ne_of_gt (A0r HTx1.out)
    have hSn:BxT gx (w.heap.size+1) t m (W1.alloc (.cells #[.int .i64 0,.int .i64 0,.int .i64 0,.int .i64 0] TrT)):=⟨HTy2.out,HJy2.out.h.m⟩;refine⟨hSn,hK _ _ ?_⟩;clear hK K hSw hal
    have hSw:=hSn;clear hSn HJx1 HAx1 HTx1;generalize W1.alloc _=A2 at*;generalize W1.heap.size=gt at*;refine A0b fun K hK=>alF ?_
    go_step;refine(HP2.out A2 HJy2.out.h.hs HJy2.out.h.k HAy2.out).mono ?_;rintro e A4 ⟨rfl,hs9,hk9⟩;have HJy4:=hzz (HJy2.out.call hs9 hk9);have HAy4:=hzz (HAy2.out.keepL hk9)
    have HTy4:=hzz (hk9.row HTy2.out (by decide) (by decide));have hSn:BxT gx (w.heap.size+1) t m A4:=⟨HTy4.out,HJy4.out.h.m⟩;replace HO:=hzz (hk9.row HO.out (by decide) (by decide))
    clear hs9 hk9 hSw HJy2 HAy2 HTy2;have hSw:=hSn;clear hSn;go_simp
    first|refine⟨hSw,hK _ _ ?_⟩|refine hK _ _ ?_
    clear hK K;refine A0b fun K hK=>alF ?_
    go_step;refine(HP3.out A4 HJy4.out.h.hs HJy4.out.h.k HAy4.out).mono ?_;rintro e A5 ⟨rfl,hs9,hk9⟩;have HJy5:=hzz (HJy4.out.call hs9 hk9);have HAy5:=hzz (HAy4.out.keepL hk9)
    have HTy5:=hzz (hk9.row HTy4.out (by decide) (by decide));have hSn:BxT gx (w.heap.size+1) t m A5:=⟨HTy5.out,HJy5.out.h.m⟩;replace HO:=hzz (hk9.row HO.out (by decide) (by decide))
    clear hs9 hk9 hSw HJy4 HAy4 HTy4;have hSw:=hSn;clear hSn;go_simp
    first|refine⟨hSw,hK _ _ ?_⟩|refine hK _ _ ?_
    clear hK K
    iterate 1
     refine A0b fun K hK=>tkF ?_
     go_simp
     try go_bits
     refine hK _ _ ?_;clear hK K
    refine A0b fun K hK=>alF ?_
    refine wp_store_row TrT _ _ rfl gt ((⟨v1,v2,v3,0⟩:KT).cells.toArray) rfl rfl TrT _ HO.out C3u rfl (D2a _) ?_
    have hvb:Below w.heap.size A5 (A5.setRow gt ((⟨v1,v2,v3,0⟩:KT).cells.toArray)):=below_setRow (by omega) _;have hkt:=A1q (cs':=((⟨v1,v2,v3,0⟩:KT).cells.toArray)) HO.out
    have HJ9:=hzz (HJy5.out.other hkt hvb (HJy5.out.h.hs.setR HO.out (by decide) (by decide) (by omega) _) (.inr (fun k h=>(HGT.out k h))) (fun g h=>setRow_other A5 gt g _ h))
    have HA9:=hzz (HAy5.out.keptT hkt (by decide) (by decide));have HT9:=hzz (hkt.2 _ _ _ _ HTy5.out (by decide));have HO9:=hzz (setRow_heap A5 gt _ ((⟨v1,v2,v3,0⟩:KT).cells.toArray) _ _ HO.out)
    have hSn:BxT gx (w.heap.size+1) t m (A5.setRow gt ((⟨v1,v2,v3,0⟩:KT).cells.toArray)):=⟨HT9.out,HJ9.out.h.m⟩;refine⟨hSn,hK _ _ ?_⟩;clear hK K hSw HO hvb hkt HJy5 HAy5 HTy5
    generalize A5.setRow gt ((⟨v1,v2,v3,0⟩:KT).cells.toArray)=V9 at*;refine A0m (fun y=>y=V9) (fun y hy=>hy▸hSn) rfl ?_;refine A0p (fun y hy=> ?_);replace hy:=hy.symm;subst hy
    go_wp2_with fail
    go_meet;exact⟨gt,rfl,by omega,HGT,HO9,HT9,HJ9,HA9⟩
   intro K hK;refine alF ?_;go_step;have hal:=A0f V0 (.cells #[.int .i64 0,.int .i64 0,.int .i64 0,.int .i64 0] TrT);have HJy1:=hzz (HJd.out.below hal);have HAy1:=hzz (HAd.out.below hal)
   have HTy1:=hzz (A0e HTd.out hal);have HO:=hzz (heap_alloc_last V0 (.cells #[.int .i64 0,.int .i64 0,.int .i64 0,.int .i64 0] TrT))
   have hgt:w.heap.size+3<=V0.heap.size:=Nat.le_trans (Nat.le_trans hgo (Nat.le_of_lt (A0r HJd.out.o))) nlz
   have HGT:=hzz (fun k (h:(Value.slice x.ta x.tn x.tc).ownBlock=some k)=>Nat.ne_of_lt (HJd.out.w.traps.lt k h).2);have hgn:V0.heap.size≠go:=Nat.ne_of_gt (A0r HJd.out.o)
   have hgx:V0.heap.size≠gx:=Nat.ne_of_gt (A0r HTd.out);have hSn:BxT gx (w.heap.size+1) t m (V0.alloc (.cells #[.int .i64 0,.int .i64 0,.int .i64 0,.int .i64 0] TrT)):=⟨HTy1.out,HJy1.out.h.m⟩
   refine⟨hSn,hK _ _ ?_⟩;clear hK K hSw hal;have hSw:=hSn;clear hSn HJd HAd HTd;generalize V0.alloc _=A1 at*;generalize V0.heap.size=gt at*;refine A0b fun K hK=>alF ?_
   go_step;refine(HP1.out A1 HJy1.out.h.hs HJy1.out.h.k HAy1.out).mono ?_;rintro e A2 ⟨rfl,hs9,hk9⟩;have HJy2:=hzz (HJy1.out.call hs9 hk9);have HAy2:=hzz (HAy1.out.keepL hk9)
   have HTy2:=hzz (hk9.row HTy1.out (by decide) (by decide));have hSn:BxT gx (w.heap.size+1) t m A2:=⟨HTy2.out,HJy2.out.h.m⟩;replace HO:=hzz (hk9.row HO.out (by decide) (by decide))
   clear hs9 hk9 hSw HJy1 HAy1 HTy1;have hSw:=hSn;clear hSn;go_simp
   first|refine⟨hSw,hK _ _ ?_⟩|refine hK _ _ ?_
   clear hK K;refine A0b fun K hK=>alF ?_
   go_step;refine(HP2.out A2 HJy2.out.h.hs HJy2.out.h.k HAy2.out).mono ?_;rintro e A3 ⟨rfl,hs9,hk9⟩;have HJy3:=hzz (HJy2.out.call hs9 hk9);have HAy3:=hzz (HAy2.out.keepL hk9)
   have HTy3:=hzz (hk9.row HTy2.out (by decide) (by decide));have hSn:BxT gx (w.heap.size+1) t m A3:=⟨HTy3.out,HJy3.out.h.m⟩;replace HO:=hzz (hk9.row HO.out (by decide) (by decide))
   clear hs9 hk9 hSw HJy2 HAy2 HTy2;have hSw:=hSn;clear hSn;go_simp
   first|refine⟨hSw,hK _ _ ?_⟩|refine hK _ _ ?_
   clear hK K;refine A0b fun K hK=>alF ?_
   go_step;refine(HP3.out A3 HJy3.out.h.hs HJy3.out.h.k HAy3.out).mono ?_;rintro e A4 ⟨rfl,hs9,hk9⟩;have HJy4:=hzz (HJy3.out.call hs9 hk9);have HAy4:=hzz (HAy3.out.keepL hk9)
   have HTy4:=hzz (hk9.row HTy3.out (by decide) (by decide));have hSn:BxT gx (w.heap.size+1) t m A4:=⟨HTy4.out,HJy4.out.h.m⟩;replace HO:=hzz (hk9.row HO.out (by decide) (by decide))
   clear hs9 hk9 hSw HJy3 HAy3 HTy3;have hSw:=hSn;clear hSn;go_simp
   first|refine⟨hSw,hK _ _ ?_⟩|refine hK _ _ ?_
   clear hK K
   iterate 1
    refine A0b fun K hK=>tkF ?_
    go_simp
    try go_bits
    refine hK _ _ ?_;clear hK K
   refine A0b fun K hK=>alF ?_
   refine wp_store_row TrT _ _ rfl gt ((⟨v1,v2,v3,0⟩:KT).cells.toArray) rfl rfl TrT _ HO.out C3u rfl (D2a _) ?_
   have hvb:Below w.heap.size A4 (A4.setRow gt ((⟨v1,v2,v3,0⟩:KT).cells.toArray)):=below_setRow (by omega) _;have hkt:=A1q (cs':=((⟨v1,v2,v3,0⟩:KT).cells.toArray)) HO.out
   have HJ9:=hzz (HJy4.out.other hkt hvb (HJy4.out.h.hs.setR HO.out (by decide) (by decide) (by omega) _) (.inr (fun k h=>(HGT.out k h))) (fun g h=>setRow_other A4 gt g _ h))
   have HA9:=hzz (HAy4.out.keptT hkt (by decide) (by decide));have HT9:=hzz (hkt.2 _ _ _ _ HTy4.out (by decide));have HO9:=hzz (setRow_heap A4 gt _ ((⟨v1,v2,v3,0⟩:KT).cells.toArray) _ _ HO.out)
   have hSn:BxT gx (w.heap.size+1) t m (A4.setRow gt ((⟨v1,v2,v3,0⟩:KT).cells.toArray)):=⟨HT9.out,HJ9.out.h.m⟩;refine⟨hSn,hK _ _ ?_⟩;clear hK K hSw HO hvb hkt HJy4 HAy4 HTy4
   generalize A4.setRow gt ((⟨v1,v2,v3,0⟩:KT).cells.toArray)=V9 at*;refine A0m (fun y=>y=V9) (fun y hy=>hy▸hSn) rfl ?_;refine A0p (fun y hy=> ?_);replace hy:=hy.symm;subst hy
   go_wp2_with fail
   go_meet;exact⟨gt,rfl,by omega,HGT,HO9,HT9,HJ9,HA9⟩
  obtain⟨gt,rfl,hgt,HGTN,HT5,HTX,HJ5,HA5⟩:=hcut;clear HP1 HP2 HP3 HJ1 HA1 HT1;have x3:=A0a HTX.out 3 rfl;dsimp only[UT.cells]at x3;by_cases hc:t.cl=[]
  ·have e0:(t.cl !=[])=false:=by rw[hc];rfl
   have e1:t.cl.isEmpty=true:=by rw[hc];rfl
   have HRR:=hzz (show RT=(t3,⟨v1,v2,v3,0⟩) by rw[HRT.out,if_pos hc]);have HJ7:=HJ5;have HA7:=HA5;have HT7:=HT5;clear hc HTX HJ5 HA5 HT5;have HSZV:=HJ7.out.h.hk.size
   have ct:=A0a HJ7.out.o 6 rfl;have y0:=A0a HT7.out 0 rfl;have y1:=A0a HT7.out 1 rfl;have y2:=A0a HT7.out 2 rfl;have y3:=A0a HT7.out 3 rfl
   dsimp only[KM.cells,KT.cells]at ct y0 y1 y2 y3;have hxt:x.tn<=1024:=by rw[HXN.out];omega
   go_wp2_with (at_builtin;refine A0q C7d rfl _ _ rfl w.heap.size _ x.tn _ rfl HJ7.out.w.traps _ 1 _ _ rfl (by simp) rfl rfl (by omega) (by unfold maxLen;omega) HSZV ?_;intro v9 w9 hown9 hg9 hb9;have hown8:w9.ownsRow w.heap.size TrT 4 v9 (x.tn+1) ((x.traps++[(⟨v1,v2,v3,0⟩:KT)]).flatMap KT.cells):=(by rw[List.flatMap_append];exact hown9);obtain⟨a9,c9,rfl,-,-⟩:=Ss.ofOwn KT.cells_length (by decide) hown8;have HAP:=hzz (HJ7.out.app hw0 HJ7.out.w.traps hg9 hb9 (by decide) (by decide) (by decide) (by decide) (by decide));have HOW:=hzz (HJ7.out.w.traps1 (A2p.app HJ7.out.w.traps hg9) hown8);have HA9:=hzz (HA7.out.keptT (A2p.app HJ7.out.w.traps hg9) (by decide) (by decide));have fo:=A0n HAP.out.2 6;have lo:=A0r HAP.out.2;have co:=A0a HAP.out.2 6 rfl;dsimp only[KM.cells]at co;clear hown9 hown8 hg9 hb9 ct y0 y1 y2 y3)
   have HJ9:=hzz (HAP.out.1.put (x':={x with ta:=a9,tn:=x.tn+1,tc:=c9,traps:=x.traps++[(⟨v1,v2,v3,0⟩:KT)]}) HAP.out.2 (by omega) (by omega) (by omega) 6 (.slice a9 (x.tn+1) c9) rfl HOW.out)
   have HA10:=hzz (HA9.out.keptT (A1p HAP.out.2 6 (.slice a9 (x.tn+1) c9)) (by decide) (by decide));clear fo lo co HAP HOW HA9 HJ7 HA7 HT7;go_roundg (m.tn-(j+1))
   case measure=>omega
   exact⟨j+1,{x with ta:=a9,tn:=x.tn+1,tc:=c9,traps:=x.traps++[(⟨v1,v2,v3,0⟩:KT)]},by omega,rfl,by go_num,hzz (by rw[HSN.out,HRR.out];exact KM.lp_traps1 HX.out _ _ _ _),hzz (by rw[HSN.out,HRR.out];exact HJ9.out),HA10⟩
  have e0:(t.cl !=[])=true:=by simpa using hc
  have e1:t.cl.isEmpty=false:=by simpa using hc
  have HRR0:=show RT=((t3.cls t.cl false).1,⟨v1,v2,v3,((t3.cls t.cl false).2:Nat)⟩) by rw[HRT.out,if_neg hc]
  have HCL:=hzz (A3w wc B g t3 t.cl false HJ5.out.h.hs HTT.out (by omega) (HJ5.out.h.hk.bnd hB));generalize t3.cls t.cl false=c5 at*;obtain⟨s5,i5⟩:=c5;dsimp only at HRR0 HCL;have HRR:=hzz HRR0
  have k0:wc.cell? ⟨w.heap.size,0,none⟩=some (.pointer (some ⟨g,0,none⟩)):=A0a HJ5.out.h.k 0 rfl;clear hc HRR0
  go_wp2_with fail
  refine HCL.out.mono ?_;rintro e V6 ⟨rfl,hs6,hk6⟩;have HJ6:=hzz (HJ5.out.call hs6 hk6);have HA6:=hzz (HA5.out.keepL hk6);have HT6:=hzz (hk6.row HT5.out (by decide) (by decide))
  clear hs6 hk6 HJ5 HA5 HT5 HTX x3 k0 HCL;have HGT:=hzz (fun k (h:(Value.slice x.ta x.tn x.tc).ownBlock=some k)=>HGTN.out k h);have fy:=A0n HT6.out 3;have ly:=A0r HT6.out
  have cy:=A0a HT6.out 3 rfl;dsimp only[KT.cells]at cy
  go_upto_region 15 with fail
  have hkt:=A1p HT6.out 3 (.int .i64 (i5:Nat))
  have HJ7:=hzz (HJ6.out.other hkt (brz.setCell (show w.heap.size<=gt by omega) _) (HJ6.out.h.hs.setO HT6.out (by decide) (by decide) (by omega) 3 (.int .i64 (i5:Nat))) (.inr HGT.out) (fun i hi=>(by
   unfold World.setCell;simp[Array.getElem?_modify,Ne.symm hi])))
  have HA7:=hzz (HA6.out.keptT hkt (by decide) (by decide))
  have HT7:=hzz (show(V6.setCell ⟨gt,3,none⟩ (.int .i64 (i5:Nat))).heap[gt]? =some (.cells (⟨v1,v2,v3,(i5:Nat)⟩:KT).cells.toArray TrT (0,0))from A1k HT6.out 3 _)
  clear hkt fy ly cy HJ6 HA6 HT6 HGT;generalize V6.setCell ⟨gt,3,none⟩ (.int .i64 (i5:Nat))=V7 at*;have HSZV:=HJ7.out.h.hk.size;have ct:=A0a HJ7.out.o 6 rfl;have y0:=A0a HT7.out 0 rfl
  have y1:=A0a HT7.out 1 rfl;have y2:=A0a HT7.out 2 rfl;have y3:=A0a HT7.out 3 rfl;dsimp only[KM.cells,KT.cells]at ct y0 y1 y2 y3;have hxt:x.tn<=1024:=by rw[HXN.out];omega
  go_wp2_with (at_builtin;refine A0q C7d rfl _ _ rfl w.heap.size _ x.tn _ rfl HJ7.out.w.traps _ 1 _ _ rfl (by simp) rfl rfl (by omega) (by unfold maxLen;omega) HSZV ?_;intro v9 w9 hown9 hg9 hb9;have hown8:w9.ownsRow w.heap.size TrT 4 v9 (x.tn+1) ((x.traps++[(⟨v1,v2,v3,(i5:Nat)⟩:KT)]).flatMap KT.cells):=(by rw[List.flatMap_append];exact hown9);obtain⟨a9,c9,rfl,-,-⟩:=Ss.ofOwn KT.cells_length (by decide) hown8;have HAP:=hzz (HJ7.out.app hw0 HJ7.out.w.traps hg9 hb9 (by decide) (by decide) (by decide) (by decide) (by decide));have HOW:=hzz (HJ7.out.w.traps1 (A2p.app HJ7.out.w.traps hg9) hown8);have HA9:=hzz (HA7.out.keptT (A2p.app HJ7.out.w.traps hg9) (by decide) (by decide));have fo:=A0n HAP.out.2 6;have lo:=A0r HAP.out.2;have co:=A0a HAP.out.2 6 rfl;dsimp only[KM.cells]at co;clear hown9 hown8 hg9 hb9 ct y0 y1 y2 y3)
  have HJ9:=hzz (HAP.out.1.put (x':={x with ta:=a9,tn:=x.tn+1,tc:=c9,traps:=x.traps++[(⟨v1,v2,v3,(i5:Nat)⟩:KT)]}) HAP.out.2 (by omega) (by omega) (by omega) 6 (.slice a9 (x.tn+1) c9) rfl HOW.out)
  have HA10:=hzz (HA9.out.keptT (A1p HAP.out.2 6 (.slice a9 (x.tn+1) c9)) (by decide) (by decide));clear fo lo co HAP HOW HA9 HJ7 HA7 HT7;go_roundg (m.tn-(j+1))
  case measure=>omega
  exact⟨j+1,{x with ta:=a9,tn:=x.tn+1,tc:=c9,traps:=x.traps++[(⟨v1,v2,v3,(i5:Nat)⟩:KT)]},by omega,rfl,by go_num,hzz (by rw[HSN.out,HRR.out];exact KM.lp_traps1 HX.out _ _ _ _),hzz (by rw[HSN.out,HRR.out];exact HJ9.out),HA10⟩
 have hjt:j=m.tn:=by omega
 subst hjt;have hfull:m.traps.take m.tn=m.traps:=List.take_of_length_le (by rw[HTL.out];exact Nat.le_refl _);rw[hfull]at HX HJ;have hl7:=B3z s6 m.code m.traps;rw[HTL.out]at hl7
 generalize s6.traps m.code m.traps=S7 at*;obtain⟨s7,trs⟩:=S7;dsimp only at HX HJ HRM hl7;obtain⟨W9,hW9⟩:=exz (wr);subst hW9
 have m7:W9.cell? ⟨w.heap.size+1,7,none⟩=some (.slice m.ma m.mn m.mc):=A0a HJ.out.h.m 7 rfl;have HML:=hzz HM.out.maps.1;have hfm:=HF.out.maps;rw[HML.out]at hfm;clear hfull hlt hj
 go_wp2_with fail
 go_loopg [107] m.mn (fun gn i wx=>∃(k:Nat) (x:KM),k<=m.mn/\gn=m.mn-k/\i= .int .i64 k/\Hid (x.lp=⟨A1w m.st,(i2:Nat),(i3:Nat),m.sk,m.lo,none,0,0,bs,none,0,0,trs,none,0,0,(s7.maps m.code (m.maps.take k)).2⟩)/\Hid (MtJ w wx B g w.heap.size (w.heap.size+1) (w.heap.size+1+1) go m x (s7.maps m.code (m.maps.take k)).1)/\Hid (MtA wx ga gat m))
 case atStart=>exact⟨0,_,by omega,by omega,by go_num,HX,HJ,HA⟩
 clear HX HJ HA m7;obtain⟨k,x,hk,rfl,rfl,HX,HJ,HA⟩:=hrel;by_cases hlt:k<m.mn
 ·have hbV:=HJ.out.h.hk.belowO HWB.out nlz h0B;have HRP:=hzz ((HM.out.below hbV).maps);have HEP:=hzz ((HM.out.below hbV).each);have HEQ:=hzz HM.out.each
  obtain⟨bq,off,p,hbq,hbl,hp,q⟩:=HRP.out.getC k hlt;have q0:=q 0 (by omega);have q1:=q 1 (by omega);have q2:=q 2 (by omega);rw[Nat.add_zero]at q0
  simp only[UP.cells,List.getElem?_cons_zero,List.getElem?_cons_succ]at q0 q1 q2;have hj1:(k:Int)<m.mn:=by omega
  have hpm:=List.mem_of_getElem? hp;have HFP:=hzz (HF.out.mp p hpm);have HRQ:=hzz (HEP.out p hpm)
  have HLA:=hzz (show D5c B p.la p.ln/\D5c B p.sa p.sn from⟨(HEQ.out p hpm).loc.lowA h0B,(HEQ.out p hpm).stk.lowA h0B⟩)
  have HLL:=hzz (show p.loc.length=p.ln/\p.stk.length=p.sn from⟨(HEQ.out p hpm).loc.1,(HEQ.out p hpm).stk.1⟩)
  have HSN:=hzz (show s7.maps m.code (m.maps.take (k+1))=((((s7.maps m.code (m.maps.take k)).1).map m.code p).1,(s7.maps m.code (m.maps.take k)).2++[(((s7.maps m.code (m.maps.take k)).1).map m.code p).2]) by
   have hjl:=(gsz hp).1;rw[List.take_succ_eq_append_getElem hjl,(gsz hp).2,D0m])
  have hln:=C4r s7 m.code (m.maps.take k) (fun p hp=>HF.out.mp p (List.mem_of_mem_take hp));rw[List.length_take,HML.out,Nat.min_eq_left hk]at hln
  have hxn:x.mn=k:=by
   have h1:=congrArg (fun y=>y.maps.length) HX.out;have h2:=HJ.out.w.mn;have h3:=C3r s7 m.code (m.maps.take k);rw[List.length_take,HML.out,Nat.min_eq_left hk]at h3;dsimp only[KM.lp]at h1
   rw[List.length_map]at h1;omega
  generalize s7.maps m.code (m.maps.take k)=SJ at*;obtain⟨sj,lj⟩:=SJ;dsimp only at HX HJ HSN hln;have HXN:=hzz hxn;clear hp q hxn hpm HEP HEQ HRP hbV
  go_upto_region 20 with fail
  have hal:=A0f wr (.cells #[.int .i64 p.pl,.slice p.la p.ln p.lc,.slice p.sa p.sn p.sc] 88)
  have HT1:=hzz (show(wr.alloc (.cells #[.int .i64 p.pl,.slice p.la p.ln p.lc,.slice p.sa p.sn p.sc] 88)).heap[wr.heap.size]? =some (.cells p.cells.toArray 88 (0,0))from heap_alloc_last wr _)
  have HJ1:=hzz (HJ.out.below hal);have HA1:=hzz (HA.out.below hal);have HR1:=hzz (HRQ.out.below hal);clear hal q0 q1 q2 hbq hbl HJ HA HRQ;generalize wr.alloc _=W at*;generalize wr.heap.size=gx at*
  have HP1:=hzz (fun V hs hk (ha:MtA V ga gat m)=>A8d V B g w.heap.size ga gat sj m.code p.pl ((m.code.length:Int) -1) hs hk (by rw[HLC.out];exact ha.a) ha.r hcl (by omega))
  have hfp1:p.ln<=1024:=by have h:=HFP.out.loc;rw[HLL.out.1]at h;exact h
  have hfp2:p.sn<=1024:=by have h:=HFP.out.stk;rw[HLL.out.2]at h;exact h
  obtain⟨RT,hRT⟩:=exz (sj.map m.code p);rw[<-hRT]at HSN;unfold LW.map at hRT;dsimp only at hRT;have hlp:(sj.place m.code p.pl (m.code.length-1)).1.l.length=sj.l.length:=by simp only[B4m]
  rw[HLC.out]at HP1 hRT hlp;generalize sj.place m.code p.pl ((m.cn:Int) -1)=p1 at*;obtain⟨t1,v1⟩:=p1;dsimp only at HP1 hRT hlp
  have HSL1:=hzz (fun V hs hl hB9=>B4h V B g t1 p.la p.ln p.lc p.loc hs hl HLA.out.1 HFP.out.lt hfp1 (by omega) hB9 hB0);unfold B7b at HSL1;have hls:=B0u t1 p.loc;rw[HLL.out.1]at hls
  generalize t1.slots p.loc=p2 at*;obtain⟨t2,v2⟩:=p2;dsimp only at HSL1 hRT hls
  have HSL2:=hzz (fun V hs hl hB9=>B4h V B g t2 p.sa p.sn p.sc p.stk hs hl HLA.out.2 HFP.out.st hfp2 (by omega) hB9 hB0);unfold B7b at HSL2;generalize t2.slots p.stk=p3 at*
  obtain⟨t3,v3⟩:=p3;dsimp only at HSL2 hRT;have HRT:=hzz hRT;clear hRT;have HJd:=hzz (HJ1.out.below (brz.drew));have HAd:=hzz (HA1.out.below (brz.drew))
  have HTd:=hzz (A0e HT1.out ((Below.refl _ W).drew));have HRd:=hzz (HR1.out.below ((Below.refl _ W).drew))
  have hSw:BxP gx w.heap.size (w.heap.size+1) go g p m (.slice x.ma x.mn x.mc) W.drew:=⟨HTd.out,HJd.out.h.m,HJd.out.h.k,A0a HJd.out.o 7 rfl⟩
  have l0:=fun z (h:BxP gx w.heap.size (w.heap.size+1) go g p m (.slice x.ma x.mn x.mc) z)=>h.2.2.2
  have l1:∀z,BxP gx w.heap.size (w.heap.size+1) go g p m (.slice x.ma x.mn x.mc) z->z.cell? ⟨gx,0,none⟩=some (.int .i64 p.pl):=fun z h=>A0a h.1 0 rfl
  have l2:∀z,BxP gx w.heap.size (w.heap.size+1) go g p m (.slice x.ma x.mn x.mc) z->z.cell? ⟨gx,1,none⟩=some (.slice p.la p.ln p.lc):=fun z h=>A0a h.1 1 rfl
  have l3:∀z,BxP gx w.heap.size (w.heap.size+1) go g p m (.slice x.ma x.mn x.mc) z->z.cell? ⟨gx,2,none⟩=some (.slice p.sa p.sn p.sc):=fun z h=>A0a h.1 2 rfl
  have l4:∀z,BxP gx w.heap.size (w.heap.size+1) go g p m (.slice x.ma x.mn x.mc) z->z.cell? ⟨w.heap.size+1,5,none⟩=some (.slice m.ca m.cn m.cc):=fun z h=>A0a h.2.1 5 rfl
  have l5:∀z,BxP gx w.heap.size (w.heap.size+1) go g p m (.slice x.ma x.mn x.mc) z->z.cell? ⟨w.heap.size,0,none⟩=some (.pointer (some ⟨g,0,none⟩)):=fun z h=>A0a h.2.2.1 0 rfl
  refine A0t (BxP gx w.heap.size (w.heap.size+1) go g p m (.slice x.ma x.mn x.mc)) 22 [(0,true),(1,true),(2,true),(3,true),(4,true),(5,true),(6,true),(7,true),(8,true),(10,true),(11,true),(12,true),(14,true),(15,true),(16,true),(9,false),(13,false),(17,false),(18,true),(19,false),(20,false),(21,true)] (by kernel_rfl) (by kernel_rfl) (fun c a d v w h=>by cases d<;>exact h) ?_
  generalize W.drew=V0 at*
  iterate 15
   refine A0d fun K hK=>tkF ?_
   go_simp
   try go_bits
   refine hK _ _ ?_;clear hK K
  refine A0d fun K hK=>alF ?_
  go_step;refine(HP1.out V0 HJd.out.h.hs HJd.out.h.k HAd.out).mono ?_;rintro e V1 ⟨rfl,hs9,hk9⟩;have HJ2:=hzz (HJd.out.call hs9 hk9);have HA2:=hzz (HAd.out.keepL hk9)
  have HT2:=hzz (hk9.row HTd.out (by decide) (by decide));have HR2:=hzz (show p.Rd V1 from⟨hk9.sl HRd.out.loc HLA.out.1,hk9.sl HRd.out.stk HLA.out.2⟩)
  have hSn:BxP gx w.heap.size (w.heap.size+1) go g p m (.slice x.ma x.mn x.mc) V1:=⟨HT2.out,HJ2.out.h.m,HJ2.out.h.k,A0a HJ2.out.o 7 rfl⟩;clear hs9 hk9 hSw HJd HAd HTd HRd HP1 HJ1 HA1 HT1 HR1
  have hSw:=hSn;clear hSn;go_simp
  first|refine⟨hSw,hK _ _ ?_⟩|refine hK _ _ ?_
  clear hK K;refine A0d fun K hK=>alF ?_
  go_step;refine(HSL1.out V1 HJ2.out.h.hs HR2.out.loc (HJ2.out.h.hk.bnd hB)).mono ?_;rintro e V2 ⟨oa,oc,rfl,how,hs9,hk9⟩;have HJ3:=hzz (HJ2.out.call hs9 hk9);have HA3:=hzz (HA2.out.keepL hk9)
  have HT3:=hzz (hk9.row HT2.out (by decide) (by decide));have HR3:=hzz (show p.Rd V2 from⟨hk9.sl HR2.out.loc HLA.out.1,hk9.sl HR2.out.stk HLA.out.2⟩);have HO1:=hzz (A1y how HJ2.out.h.hk.size)
  have hSn:BxP gx w.heap.size (w.heap.size+1) go g p m (.slice x.ma x.mn x.mc) V2:=⟨HT3.out,HJ3.out.h.m,HJ3.out.h.k,A0a HJ3.out.o 7 rfl⟩;clear hs9 hk9 hSw HJ2 HA2 HT2 HR2 HSL1 how;have hSw:=hSn
  clear hSn;go_simp
  first|refine⟨hSw,hK _ _ ?_⟩|refine hK _ _ ?_
  clear hK K;refine A0d fun K hK=>alF ?_
  go_step;refine(HSL2.out V2 HJ3.out.h.hs HR3.out.stk (HJ3.out.h.hk.bnd hB)).mono ?_;rintro e V3 ⟨ob,od,rfl,how,hs9,hk9⟩;have HJ4:=hzz (HJ3.out.call hs9 hk9);have HA4:=hzz (HA3.out.keepL hk9)
  have HT4:=hzz (hk9.row HT3.out (by decide) (by decide));have HO2:=hzz (A0u.own HO1.out hk9 (by decide) (by decide));have HO3:=hzz (A1y how HJ3.out.h.hk.size)
  have hSn:BxP gx w.heap.size (w.heap.size+1) go g p m (.slice x.ma x.mn x.mc) V3:=⟨HT4.out,HJ4.out.h.m,HJ4.out.h.k,A0a HJ4.out.o 7 rfl⟩;clear hs9 hk9 hSw HJ3 HA3 HT3 HR3 HSL2 how HO1;have hSw:=hSn
  clear hSn;go_simp
  first|refine⟨hSw,hK _ _ ?_⟩|refine hK _ _ ?_
  clear hK K
  iterate 1
   refine A0d fun K hK=>tkF ?_
   go_simp
   try go_bits
   refine hK _ _ ?_;clear hK K
  refine A0d fun K hK=>alF ?_
  go_step;have hal:Below V3.heap.size V3 (V3.alloc (.cells #[.int .i64 v1,.slice oa p.ln oc,.slice ob p.sn od] MpT)):=A0f _ _
  have hSx:BxP gx w.heap.size (w.heap.size+1) go g p m (.slice x.ma x.mn x.mc) (V3.alloc (.cells #[.int .i64 v1,.slice oa p.ln oc,.slice ob p.sn od] MpT)):=⟨A0e hSw.1 hal,A0e hSw.2.1 hal,A0e hSw.2.2.1 hal,A0c hal hSw.2.2.2⟩
  refine⟨hSx,hK _ _ ?_⟩;clear hK K hSw hSx hal;refine A0d fun K hK=>alF ?_
  change Oper.wp _ _ _ _ _ _;have hxt:x.mn<=1024:=by rw[HXN.out];omega
  refine A3h D5f (ops:= #[]) rfl _ _ _ rfl w.heap.size _ x.mn _ rfl (HJ4.out.w.maps.alloc _) _ 1 _ rfl (Src.litS (m:=1) rfl rfl D5f.1) (by omega) (by unfold maxLen;omega) (Nat.le_trans HJ4.out.h.hk.size (by simp)) ?_
  intro v9 w9 hown9 hg9 hb9;have hown8:w9.ownsRow w.heap.size MpT 3 v9 (x.mn+1) ((x.maps++[(⟨v1,oa,p.ln,oc,v2,ob,p.sn,od,v3⟩:KP)]).flatMap KP.cells):=(by rw[List.flatMap_append];exact hown9)
  obtain⟨a9,c9,rfl,-,-⟩:=Ss.ofOwn KP.cells_length (by decide) hown8;have hkt:=A2p.app HJ4.out.w.maps hg9
  have hb8:Below w.heap.size V3 w9:=(((Below.refl V3.heap.size V3).alloc nlz _).mono HJ4.out.h.hk.size).trans hb9
  have HAP:=hzz (HJ4.out.app hw0 HJ4.out.w.maps hg9 hb8 (by decide) (by decide) (by decide) (by decide) (by decide))
  have HOW:=hzz (HJ4.out.w.maps1 hkt (show KP.Ow ⟨v1,oa,p.ln,oc,v2,ob,p.sn,od,v3⟩ w9 w.heap.size from⟨A0k HO2.out hkt (by decide),A0k HO3.out hkt (by decide)⟩) hown8)
  have HA5:=hzz (HA4.out.keptT hkt (by decide) (by decide))
  have hSw:BxP gx w.heap.size (w.heap.size+1) go g p m (.slice x.ma x.mn x.mc) w9:=⟨hkt.2 _ _ _ _ HT4.out (by decide),HAP.out.1.m,HAP.out.1.k,A0a HAP.out.2 7 rfl⟩
  clear hown9 hown8 hg9 hb9 hb8 hkt HJ4 HA4 HT4 HO2 HO3;refine⟨hSw,hK _ _ ?_⟩;clear hK K
  iterate 1
   refine A0d fun K hK=>tkF ?_
   go_simp
   try go_bits
   refine hK _ _ ?_;clear hK K
  have fo:=A0n HAP.out.2 7;have lo:=A0r HAP.out.2;have co:=A0a HAP.out.2 7 rfl;dsimp only[KM.cells]at co;refine A1u (laF ?_);go_step
  have HJ9:=hzz (HAP.out.1.put (x':={x with ma:=a9,mn:=x.mn+1,mc:=c9,maps:=x.maps++[(⟨v1,oa,p.ln,oc,v2,ob,p.sn,od,v3⟩:KP)]}) HAP.out.2 (by omega) (by omega) (by omega) 7 (.slice a9 (x.mn+1) c9) rfl HOW.out)
  have HA10:=hzz (HA5.out.keptT (A1p HAP.out.2 7 (.slice a9 (x.mn+1) c9)) (by decide) (by decide));clear hSw fo lo co HAP HOW HA5 l0 l1 l2 l3 l4 l5
  go_wp2_with fail
  go_roundg (m.mn-(k+1))
  case measure=>omega
  exact⟨k+1,{x with ma:=a9,mn:=x.mn+1,mc:=c9,maps:=x.maps++[(⟨v1,oa,p.ln,oc,v2,ob,p.sn,od,v3⟩:KP)]},by omega,rfl,by go_num,hzz (by rw[HSN.out,HRT.out];exact KM.lp_maps1 HX.out _ _ _ _),hzz (by rw[HSN.out,HRT.out];exact HJ9.out),HA10⟩
 have hkt:k=m.mn:=by omega
 subst hkt;have hfull:m.maps.take m.mn=m.maps:=List.take_of_length_le (by rw[HML.out];exact Nat.le_refl _);rw[hfull]at HX HJ;generalize s7.maps m.code m.maps=S8 at*;obtain⟨s8,mps⟩:=S8
 dsimp only at HX HJ HRM;clear hfull hlt hk
 go_upto_region 22 with fail
 refine wp_region_lit ?_;refine A0y rfl _ _ rfl _ rfl _ _ _ _ HJ.out.o Tryz.underlying65 rfl B4r ?_;refine wpList_store_row rfl _ _ _ rfl _ _ rfl rfl _ _ HJ.out.h.z B4r rfl (C7g _) ?_
 go_wp2_with fail
 refine bodyPost_ret (results_cell_row rfl _ _ (w.heap.size+1+1) FMT (KM.cells _).toArray (0,0) _ rfl (setRow_heap _ _ _ _ _ _ HJ.out.h.z) Tryz.underlying65 rfl B4r) rfl ?_
 have hkt:=A1q (cs':=x.cells.toArray) HJ.out.h.z;rw[B3g,HRM.out]
 exact⟨x,rfl,HX.out,HJ.out.w.keptT hkt (by decide) (by decide) (by decide) (by decide),HJ.out.h.hs.setR HJ.out.h.z (by decide) (by decide) (by omega) _,HJ.out.h.hk.thenB (below_setRow (by omega) _)⟩
end
end Go.Proofs.YtclpkipaehpkdaaGreatDoor
