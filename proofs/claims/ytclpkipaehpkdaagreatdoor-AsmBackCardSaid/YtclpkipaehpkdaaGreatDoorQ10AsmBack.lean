/- asm -/
import Derived.Test.YtclpkipaehpkdaaGreatDoorQ06AsmBack
set_option linter.unusedVariables false
set_option linter.unusedSimpArgs false
set_option maxRecDepth 100000
set_option maxHeartbeats 64000000
open Go.Proofs.Tryz
namespace Go.Proofs.YtclpkipaehpkdaaGreatDoor
section
open Go.ChangeShapes Go.WideShapes Go.ChangeAt Go.RowKit
theorem xV.blk{g b:Nat}{w w':World}{o:Obj}(k:xV g w w')(h:w.heap[b]? =some o)(ZF:b≠g):w'.heap[b]? =some o:=by
 rw[k.block b (Array.getElem?_eq_some_iff.1 h).1 ZF];exact h
def MBk(w:World)(b:Nat)(fl nm ds st lo:Int)(ca:Option Addr)(cn cc:Nat)(ta:Option Addr)(tn tc:Nat)(ma:Option Addr)(mn mc:Nat):Prop:=w.heap[b]? =some (.cells #[.int .i64 fl,.int .i64 nm,.int .i64 ds,.int .i64 st,.int .i64 lo,.slice ca cn cc,.slice ta tn tc,.slice ma mn mc] 65)
structure E8m(w:World)(b:Nat)(fl nm ds st lo:Int)(ca:Option Addr)(cn cc:Nat)(ta:Option Addr)(tn tc:Nat)(ma:Option Addr)(mn mc:Nat):Prop where
 c0:w.cell? ⟨b,0,none⟩=some (.int .i64 fl)
 c1:w.cell? ⟨b,1,none⟩=some (.int .i64 nm)
 c2:w.cell? ⟨b,2,none⟩=some (.int .i64 ds)
 c3:w.cell? ⟨b,3,none⟩=some (.int .i64 st)
 c4:w.cell? ⟨b,4,none⟩=some (.int .i64 lo)
 c5:w.cell? ⟨b,5,none⟩=some (.slice ca cn cc)
 c6:w.cell? ⟨b,6,none⟩=some (.slice ta tn tc)
 c7:w.cell? ⟨b,7,none⟩=some (.slice ma mn mc)
section
variable {w w':World} {g b:Nat} {fl nm ds st lo:Int} {ca:Option Addr} {cn cc:Nat} {ta:Option Addr} {tn tc:Nat} {ma:Option Addr} {mn mc:Nat}
theorem MBk.box(h:MBk w b fl nm ds st lo ca cn cc ta tn tc ma mn mc):E8m w b fl nm ds st lo ca cn cc ta tn tc ma mn mc:=
 ⟨y8 h 0 rfl,y8 h 1 rfl,y8 h 2 rfl,y8 h 3 rfl,y8 h 4 rfl,y8 h 5 rfl,y8 h 6 rfl,y8 h 7 rfl⟩
theorem MBk.keep1(h:MBk w b fl nm ds st lo ca cn cc ta tn tc ma mn mc)(k:xV g w w')(ZF:b≠g):MBk w' b fl nm ds st lo ca cn cc ta tn tc ma mn mc:=k.blk h ZF
end
theorem D5f(m:KM):sZ m=((decide (0<=m.st)&&decide (m.st<=64))&&decide (0<=m.lo)&&decide (m.lo<=64)):=by
 unfold sZ;by_cases h1:0<=m.st<;>by_cases h2:m.st<=64<;>by_cases h3:0<=m.lo<;>by_cases h4:m.lo<=64<;>simp[h1,h2,h3,h4]
theorem D9p(m:KM)(h1:m.code.length=m.cn)(h2:m.traps.length=m.tn)(h3:m.maps.length=m.mn):ur m=((decide (0<m.cn)&&decide ((m.cn:Int)<=4096))&&decide ((m.tn:Int)<=255)&&decide ((m.mn:Int)<=255)):=by
 unfold ur;rw[h1,h2,h3,<-Bool.decide_and,<-Bool.decide_and,<-Bool.decide_and];exact decide_eq_decide.2 (by omega)
theorem aa(L:List KV)(m:KM)(odd:Bool):(odd|| !xF L m)=(((((odd|| !xK L m.fl m.nm m.ds)|| !sZ m)|| !ur m)|| !m.traps.all (we L))|| !m.maps.all (xc L)|| !tT L m):=by
 unfold xF;rw[vW,vW,vW,vW,vW]
theorem bA(W0 w:World)(g:Nat)(a:Option Addr)(n cap:Nat)(L:List KV)(odd:Bool)(m:KM)(h:LkS w g a n cap L odd)(hm:m.Rd W0)(hb:Below W0.heap.size W0 w)(hg:W0.heap.size<=g)(hf:yw m.fl)(hc:m.cn<=maxLen)(ht:m.tn<=1000000000000)(hp:m.mn<=1000000000000)(hq:∀p∈m.maps,p.ln<=1000000000/\p.sn<=1000000000):
  Calls prog 47 #[.pointer (some ⟨g,0,none⟩),.agg #[.int .i64 m.fl,.int .i64 m.nm,.int .i64 m.ds,.int .i64 m.st,.int .i64 m.lo,.slice m.ca m.cn m.cc,.slice m.ta m.tn m.tc,.slice m.ma m.mn m.mc]] w (rE g a n cap L (odd|| !xF L m) w):=by
 have Yt:=Z' (aa L m odd);rw[Yt.out];obtain⟨fl,nm,ds,st,lo,ca,cn,cc,code,ta,tn,tc,traps,ma,mn,mc,maps⟩:=m;dsimp only at hf hc ht hp hq⊢;have YS:=Z' (D5f (⟨fl,nm,ds,st,lo,ca,cn,cc,code,ta,tn,tc,traps,ma,mn,mc,maps⟩:KM));have Xt:=Z' (D9p (⟨fl,nm,ds,st,lo,ca,cn,cc,code,ta,tn,tc,traps,ma,mn,mc,maps⟩:KM) hm.code.1 hm.traps.1 hm.maps.1);dsimp only at YS Xt;have HT:=Z9 (Ss 4 KT.cells W0 ta tn traps) hm.traps;have HP:=Z9 (Ss 3 KP.cells W0 ma mn maps) hm.maps;have HE:=Z9 (∀p∈maps,p.Rd W0) hm.each;have AJ:=Z9 (traps.length=tn) hm.traps.1;have Bk:=Z9 (maps.length=mn) hm.maps.1
 have Ty:=Z9 (tT L (⟨fl,nm,ds,st,lo,ca,cn,cc,code,ta,tn,tc,traps,ma,mn,mc,maps⟩:KM)=(decide ((0:Int)<(xm L wJ:Int))&&(((mn:Int)==0)||decide ((0:Int)<(xm L wH:Int))))) (by
  have hl:maps.length=mn:=hm.maps.1;unfold tT;dsimp only;rw[hl];by_cases h1:0<xm L wJ<;>by_cases h2:mn=0<;>by_cases h3:0<xm L wH<;>simp[h1,h2,h3])
 generalize sZ (⟨fl,nm,ds,st,lo,ca,cn,cc,code,ta,tn,tc,traps,ma,mn,mc,maps⟩:KM)=szB at*;generalize ur (⟨fl,nm,ds,st,lo,ca,cn,cc,code,ta,tn,tc,traps,ma,mn,mc,maps⟩:KM)=leB at*;generalize tT L (⟨fl,nm,ds,st,lo,ca,cn,cc,code,ta,tn,tc,traps,ma,mn,mc,maps⟩:KM)=nmB at*;have ZY:Below w.heap.size w (w.alloc (.cells #[.int .i64 fl,.int .i64 nm,.int .i64 ds,.int .i64 st,.int .i64 lo,.slice ca cn cc,.slice ta tn tc,.slice ma mn mc] 65)):=yV _ _;have ZM:=Z9 (MBk (w.alloc (.cells #[.int .i64 fl,.int .i64 nm,.int .i64 ds,.int .i64 st,.int .i64 lo,.slice ca cn cc,.slice ta tn tc,.slice ma mn mc] 65)) w.heap.size fl nm ds st lo ca cn cc ta tn tc ma mn mc) (heap_alloc_last w _);have H1:=Z' (h.below ZY);have Za:=Z' (xV.of (g:=g) ZY);have HW:=Z' hb;have HQ:=Z' hq;have Qw:=Z' hg;have WS:w.heap.size≠g:=by have:=h.lt;omega
 have HF:=Z' hf;have Vy:=Z' (fun w' (hl:Ks w' a n L)=>fQ w' a n cap L wJ hl h.sm);have DF:=Z' (fun w' (hl:Ks w' a n L)=>fQ w' a n cap L wH hl h.sm);unfold wJ at Vy;unfold wH at DF;clear h hm hb ZY hq hf hg Yt;go_enter func47,ntmps47
 go_upto_region 1 with fail
 generalize w.alloc _=W1 at*;generalize w.heap.size=bm at*;obtain⟨c0,c1,c2,c3,c4,c5,c6,c7⟩:=ZM.out.box
 go_wp2_with fail
 refine(jA W1 g a n cap L odd fl nm ds H1.out HF.out).mono ?_;rintro e w2 ⟨rfl,h2,k2⟩;have HL:=Z' h2;have ZT:=Z' (ZM.out.keep1 k2 WS);have Y0:=Z' (Za.out.trans k2);generalize xK L fl nm ds=mbB at*;clear h2 k2 c0 c1 c2 c3 c4 c5 c6 c7 H1 ZM Za;obtain⟨c0,c1,c2,c3,c4,c5,c6,c7⟩:=ZT.out.box
 go_upto_region 2 with fail
 go_cut [35] (fun r wx=>Hid (LkS wx g a n cap L ((odd|| !mbB)|| !szB))/\Hid (MBk wx bm fl nm ds st lo ca cn cc ta tn tc ma mn mc)/\Hid (xV g w wx))
 case first=>
  by_cases h0:0<=st
  ·have e0:=decide_eq_true h0;clear h0;by_cases h1:st<=64
   ·have e1:=decide_eq_true h1;clear h1;by_cases h2:0<=lo
    ·have e2:=decide_eq_true h2;clear h2;by_cases h3:lo<=64
     ·have e3:=decide_eq_true h3;clear h3
      go_wp2_with fail
      refine(wP _ g a n cap L _ true HL.out).mono ?_;rintro e w3 ⟨rfl,h3,k3⟩
      go_wp2_with fail
      go_meet;refine⟨Z' ?_,Z' (ZT.out.keep1 k3 WS),Z' (Y0.out.trans k3)⟩;rw[show szB=true by rw[YS.out];simp only[e0,e1,e2,e3,Bool.and_true,Bool.and_self,Bool.true_and]];exact h3
     have e3:=decide_eq_false h3;clear h3
     go_wp2_with fail
     refine(wP _ g a n cap L _ false HL.out).mono ?_;rintro e w3 ⟨rfl,h3,k3⟩
     go_wp2_with fail
     go_meet;refine⟨Z' ?_,Z' (ZT.out.keep1 k3 WS),Z' (Y0.out.trans k3)⟩;rw[show szB=false by rw[YS.out];simp only[e0,e1,e2,e3,Bool.and_false,Bool.false_and,Bool.and_true,Bool.true_and]];exact h3
    have e2:=decide_eq_false h2;clear h2
    go_wp2_with fail
    refine(wP _ g a n cap L _ false HL.out).mono ?_;rintro e w3 ⟨rfl,h3,k3⟩
    go_wp2_with fail
    go_meet;refine⟨Z' ?_,Z' (ZT.out.keep1 k3 WS),Z' (Y0.out.trans k3)⟩;rw[show szB=false by rw[YS.out];simp only[e0,e1,e2,Bool.and_false,Bool.false_and,Bool.and_true,Bool.true_and]];exact h3
   have e1:=decide_eq_false h1;clear h1
   go_wp2_with fail
   refine(wP _ g a n cap L _ false HL.out).mono ?_;rintro e w3 ⟨rfl,h3,k3⟩
   go_wp2_with fail
   go_meet;refine⟨Z' ?_,Z' (ZT.out.keep1 k3 WS),Z' (Y0.out.trans k3)⟩;rw[show szB=false by rw[YS.out];simp only[e0,e1,Bool.and_false,Bool.false_and,Bool.and_true,Bool.true_and]];exact h3
  have e0:=decide_eq_false h0;clear h0
  go_wp2_with fail
  refine(wP _ g a n cap L _ false HL.out).mono ?_;rintro e w3 ⟨rfl,h3,k3⟩
  go_wp2_with fail
  go_meet;refine⟨Z' ?_,Z' (ZT.out.keep1 k3 WS),Z' (Y0.out.trans k3)⟩;rw[show szB=false by rw[YS.out];simp only[e0,Bool.and_false,Bool.false_and,Bool.and_true,Bool.true_and]];exact h3
 clear c0 c1 c2 c3 c4 c5 c6 c7 HL ZT Y0;obtain⟨HL,ZT,Y0⟩:=hcut;generalize((odd|| !mbB)|| !szB)=od2 at*;obtain⟨c0,c1,c2,c3,c4,c5,c6,c7⟩:=ZT.out.box
 go_upto_region 3 with fail
 go_cut [59] (fun r wx=>Hid (LkS wx g a n cap L (od2|| !leB))/\Hid (MBk wx bm fl nm ds st lo ca cn cc ta tn tc ma mn mc)/\Hid (xV g w wx))
 case first=>
  by_cases h0:0<cn
  ·have e0:=decide_eq_true h0;clear h0;by_cases h1:(cn:Int)<=4096
   ·have e1:=decide_eq_true h1;clear h1;by_cases h2:(tn:Int)<=255
    ·have e2:=decide_eq_true h2;clear h2;by_cases h3:(mn:Int)<=255
     ·have e3:=decide_eq_true h3;clear h3
      go_wp2_with fail
      refine(wP _ g a n cap L _ true HL.out).mono ?_;rintro e w3 ⟨rfl,h3,k3⟩
      go_wp2_with fail
      go_meet;refine⟨Z' ?_,Z' (ZT.out.keep1 k3 WS),Z' (Y0.out.trans k3)⟩;rw[show leB=true by rw[Xt.out];simp only[e0,e1,e2,e3,Bool.and_true,Bool.and_self,Bool.true_and]];exact h3
     have e3:=decide_eq_false h3;clear h3
     go_wp2_with fail
     refine(wP _ g a n cap L _ false HL.out).mono ?_;rintro e w3 ⟨rfl,h3,k3⟩
     go_wp2_with fail
     go_meet;refine⟨Z' ?_,Z' (ZT.out.keep1 k3 WS),Z' (Y0.out.trans k3)⟩;rw[show leB=false by rw[Xt.out];simp only[e0,e1,e2,e3,Bool.and_false,Bool.false_and,Bool.and_true,Bool.true_and]];exact h3
    have e2:=decide_eq_false h2;clear h2
    go_wp2_with fail
    refine(wP _ g a n cap L _ false HL.out).mono ?_;rintro e w3 ⟨rfl,h3,k3⟩
    go_wp2_with fail
    go_meet;refine⟨Z' ?_,Z' (ZT.out.keep1 k3 WS),Z' (Y0.out.trans k3)⟩;rw[show leB=false by rw[Xt.out];simp only[e0,e1,e2,Bool.and_false,Bool.false_and,Bool.and_true,Bool.true_and]];exact h3
   have e1:=decide_eq_false h1;clear h1
   go_wp2_with fail
   refine(wP _ g a n cap L _ false HL.out).mono ?_;rintro e w3 ⟨rfl,h3,k3⟩
   go_wp2_with fail
   go_meet;refine⟨Z' ?_,Z' (ZT.out.keep1 k3 WS),Z' (Y0.out.trans k3)⟩;rw[show leB=false by rw[Xt.out];simp only[e0,e1,Bool.and_false,Bool.false_and,Bool.and_true,Bool.true_and]];exact h3
  have e0:=decide_eq_false h0;clear h0
  go_wp2_with fail
  refine(wP _ g a n cap L _ false HL.out).mono ?_;rintro e w3 ⟨rfl,h3,k3⟩
  go_wp2_with fail
  go_meet;refine⟨Z' ?_,Z' (ZT.out.keep1 k3 WS),Z' (Y0.out.trans k3)⟩;rw[show leB=false by rw[Xt.out];simp only[e0,Bool.and_false,Bool.false_and,Bool.and_true,Bool.true_and]];exact h3
 clear c0 c1 c2 c3 c4 c5 c6 c7 HL ZT Y0;obtain⟨HL,ZT,Y0⟩:=hcut;generalize(od2|| !leB)=od3 at*;obtain⟨c0,c1,c2,c3,c4,c5,c6,c7⟩:=ZT.out.box
 go_wp2_with fail
 clear c0 c1 c2 c3 c4 c5 c6 c7
 go_loopg [63] tn (fun gn i wr=>∃j:Nat,j<=tn/\gn=tn-j/\i= .int .i64 j/\Hid (LkS wr g a n cap L (od3|| !(traps.take j).all (we L)))/\Hid (MBk wr bm fl nm ds st lo ca cn cc ta tn tc ma mn mc)/\Hid (xV g w wr))
 case atStart=>exact⟨0,by omega,by omega,by go_num,Z' (by simpa using HL.out),ZT,Y0⟩
 clear HL ZT Y0;obtain⟨j,hj,rfl,rfl,HL,ZT,Y0⟩:=hrel;by_cases ZX:j<tn
 ·obtain⟨b,off,t,rfl,_,hv,q⟩:=(HT.out.below (Y0.out.below HW.out Z5 Qw.out)).getC j ZX;have HA:=Z' (show(od3|| !(traps.take (j+1)).all (we L))=(((od3|| !(traps.take j).all (we L))|| ![t.fr,t.tt,t.pl].all xe)|| !(decide (t.cl=0)||clsOk L t.cl)) by rw[tX _ _ _ _ hv,vW];unfold we;rw[vW]);obtain⟨fr,tt,pl,cl⟩:=t;dsimp only at HA;have q0:wr.cell? ⟨b,off+j*4,none⟩=some (.int .i64 fr):=q 0 (by omega);have q1:wr.cell? ⟨b,off+j*4+1,none⟩=some (.int .i64 tt):=q 1 (by omega);have q2:wr.cell? ⟨b,off+j*4+2,none⟩=some (.int .i64 pl):=q 2 (by omega);have q3:wr.cell? ⟨b,off+j*4+3,none⟩=some (.int .i64 cl):=q 3 (by omega);clear q hv;generalize(od3|| !(traps.take j).all (we L))=od at*;have XZ:(j:Int)<tn:=by omega
  have hb:Below wr.heap.size wr (wr.alloc (.cells #[.int .i64 fr,.int .i64 tt,.int .i64 pl,.int .i64 cl] 123)):=yV _ _;have Wk:=Z' (HL.out.below hb);have YY:=Z' (ZT.out.keep1 (xV.of hb) WS);have Xw:=Z' (Y0.out.trans (xV.of hb));have Xq:=Z' (heap_alloc_last wr (.cells #[.int .i64 fr,.int .i64 tt,.int .i64 pl,.int .i64 cl] 123));have Rq:wr.heap.size≠g:=by have:=HL.out.lt;omega
  clear hb HL ZT Y0
  go_upto_region 7 with fail
  clear q0 q1 q2 q3;generalize wr.alloc _=W4 at*;generalize wr.heap.size=bt at*;have p0:=y8 Xq.out 0 rfl;have p1:=y8 Xq.out 1 rfl;have p2:=y8 Xq.out 2 rfl;dsimp at p0 p1 p2
  go_wp2_with fail
  have Yi:Below W4.heap.size W4 (W4.alloc (.cells #[.int .i64 fr,.int .i64 tt,.int .i64 pl] 3)):=yV _ _;refine(fX _ g a n cap L _ _ 3 3 [fr,tt,pl] (Wk.out.below Yi) (Sl.litZ W4 3 [fr,tt,pl] 3 rfl) (wX.new (Ne.symm (Nat.ne_of_lt Wk.out.lt)).symm) (by decide)).mono ?_;rintro e w6 ⟨rfl,h6,k6⟩;have Y2:=(xV.of (g:=g) Yi).trans k6;have UA:=Z' h6;have U6:=Z' (YY.out.keep1 Y2 WS);have XG:=Z' (Xw.out.trans Y2);have Ww:=Z' (Y2.blk Xq.out Rq);clear h6 k6 Y2 Yi Wk YY Xw Xq p0 p1 p2;have p3:=y8 Ww.out 3 rfl;dsimp at p3;by_cases h0:cl=0
  ·have e0:(cl !=0)=false:=by simp[h0]
   have Y6:=Z' (show(decide (cl=0)||clsOk L cl)=true by simp[h0]);clear h0
   go_wp2_with fail
   go_roundg (tn-(j+1))
   case measure=>omega
   exact⟨j+1,by omega,rfl,by go_num,Z' (by rw[HA.out,Y6.out,Bool.not_true,Bool.or_false];exact UA.out),U6,XG⟩
  have e0:(cl !=0)=true:=by simp[h0]
  have Y6:=Z' (show(decide (cl=0)||clsOk L cl)=clsOk L cl by simp[h0]);clear h0
  go_wp2_with fail
  refine(pD w6 g a n cap L _ cl UA.out).mono ?_;rintro e w7 ⟨rfl,h7,k7⟩
  go_wp2_with fail
  go_roundg (tn-(j+1))
  case measure=>omega
  exact⟨j+1,by omega,rfl,by go_num,Z' (by rw[HA.out,Y6.out];exact h7),Z' (U6.out.keep1 k7 WS),Z' (XG.out.trans k7)⟩
 obtain rfl:j=tn:=by omega
 have WV:=Z' (show traps.take j=traps by rw[List.take_of_length_le (by rw[AJ.out];exact Nat.le_refl _)]);rw[WV.out]at HL;generalize(od3|| !traps.all (we L))=od4 at*;obtain⟨c0,c1,c2,c3,c4,c5,c6,c7⟩:=ZT.out.box
 go_wp2_with fail
 clear c0 c1 c2 c3 c4 c5 c6 c7
 go_loopg [87] mn (fun gn iv wr=>∃i:Nat,i<=mn/\gn=mn-i/\iv= .int .i64 i/\Hid (LkS wr g a n cap L (od4|| !(maps.take i).all (xc L)))/\Hid (MBk wr bm fl nm ds st lo ca cn cc ta j tc ma mn mc)/\Hid (xV g w wr))
 case atStart=>exact⟨0,by omega,by omega,by go_num,Z' (by simpa using HL.out),ZT,Y0⟩
 clear HL ZT Y0;obtain⟨i,hi,rfl,rfl,HL,ZT,Y0⟩:=hrel;by_cases hli:i<mn
 ·obtain⟨b,off,p,rfl,_,hv,q⟩:=(HP.out.below (Y0.out.below HW.out Z5 Qw.out)).getC i hli;have HA:=Z' (show(od4|| !(maps.take (i+1)).all (xc L))=((((od4|| !(maps.take i).all (xc L))|| ![p.pl].all xe)|| !vx L 64 p.loc)|| !vx L 64 p.stk) by rw[tX _ _ _ _ hv,vW];unfold xc;rw[vW,vW];simp);have HR:=Z' (HE.out p (List.mem_of_getElem? hv));have G7:=HQ.out p (List.mem_of_getElem? hv);obtain⟨pl,la,ln,lc,loc,sa,sn,sc,stk⟩:=p;dsimp only at HA G7;obtain⟨XJ,GR⟩:=G7;have Pj:=Z9 (Ss 2 KS.cells W0 la ln loc) HR.out.loc;have Vn:=Z9 (Ss 2 KS.cells W0 sa sn stk) HR.out.stk;have q0:wr.cell? ⟨b,off+i*3,none⟩=some (.int .i64 pl):=q 0 (by omega);have q1:wr.cell? ⟨b,off+i*3+1,none⟩=some (.slice la ln lc):=q 1 (by omega);have q2:wr.cell? ⟨b,off+i*3+2,none⟩=some (.slice sa sn sc):=q 2 (by omega);clear q hv HR;generalize(od4|| !(maps.take i).all (xc L))=od at*;have zx:(i:Int)<mn:=by omega
  have hb:Below wr.heap.size wr (wr.alloc (.cells #[.int .i64 pl,.slice la ln lc,.slice sa sn sc] 68)):=yV _ _;have Wk:=Z' (HL.out.below hb);have YY:=Z' (ZT.out.keep1 (xV.of hb) WS);have Xw:=Z' (Y0.out.trans (xV.of hb));have Xq:=Z' (heap_alloc_last wr (.cells #[.int .i64 pl,.slice la ln lc,.slice sa sn sc] 68));have Rq:wr.heap.size≠g:=by have:=HL.out.lt;omega
  clear hb HL ZT Y0
  go_upto_region 14 with fail
  clear q0 q1 q2;generalize wr.alloc _=W4 at*;generalize wr.heap.size=bt at*;have p0:=y8 Xq.out 0 rfl;dsimp at p0
  go_wp2_with fail
  have Yi:Below W4.heap.size W4 (W4.alloc (.cells #[.int .i64 pl] 3)):=yV _ _;refine(fX _ g a n cap L _ _ 1 1 [pl] (Wk.out.below Yi) (Sl.litZ W4 1 [pl] 3 rfl) (wX.new (Ne.symm (Nat.ne_of_lt Wk.out.lt)).symm) (by decide)).mono ?_;rintro e w6 ⟨rfl,h6,k6⟩;have Y2:=(xV.of (g:=g) Yi).trans k6;have UA:=Z' h6;have U6:=Z' (YY.out.keep1 Y2 WS);have XG:=Z' (Xw.out.trans Y2);have Ww:=Z' (Y2.blk Xq.out Rq);clear h6 k6 Y2 Yi Wk YY Xw Xq p0;have p1:=y8 Ww.out 1 rfl;dsimp at p1;have Dq:=Z' (XG.out.below HW.out Z5 Qw.out)
  go_wp2_with fail
  refine(js w6 g a n cap L _ la ln lc loc 64 UA.out (Pj.out.below Dq.out) (wX.oldS Pj.out Qw.out) XJ).mono ?_;rintro e w7 ⟨rfl,h7,k7⟩;have Hu:=Z' h7;have XB:=Z' (U6.out.keep1 k7 WS);have Tp:=Z' (XG.out.trans k7);have Xz:=Z' (k7.blk Ww.out Rq);clear h7 k7 UA U6 XG Ww Dq p1;have p2:=y8 Xz.out 2 rfl;dsimp at p2;have AZ:=Z' (Tp.out.below HW.out Z5 Qw.out)
  go_wp2_with fail
  refine(js w7 g a n cap L _ sa sn sc stk 64 Hu.out (Vn.out.below AZ.out) (wX.oldS Vn.out Qw.out) GR).mono ?_;rintro e w8 ⟨rfl,h8,k8⟩
  go_wp2_with fail
  go_roundg (mn-(i+1))
  case measure=>omega
  exact⟨i+1,by omega,rfl,by go_num,Z' (by rw[HA.out];exact h8),Z' (XB.out.keep1 k8 WS),Z' (Tp.out.trans k8)⟩
 obtain rfl:i=mn:=by omega
 have WV:=Z' (show maps.take i=maps by rw[List.take_of_length_le (by rw[Bk.out];exact Nat.le_refl _)]);rw[WV.out]at HL;generalize(od4|| !maps.all (xc L))=od5 at*;have Ty:=Z9 (nmB=(decide (0<xm L [67,111,100,101])&&(((i:Int)==0)||decide (0<xm L [83,116,97,99,107,77,97,112])))) (by rw[Ty.out];simp only[wJ,wH,Int.natCast_pos]);generalize xm L [67,111,100,101]=f1 at*;generalize xm L [83,116,97,99,107,77,97,112]=f2 at*;obtain⟨c0,c1,c2,c3,c4,c5,c6,c7⟩:=ZT.out.box;obtain⟨k0,k1,EV,FA,lt0⟩:=HL.out.k.box
 go_wp2_with fail
 refine(Vy.out wr HL.out.ks).mono ?_;rintro e w8 ⟨rfl,Wr⟩;have SG:=Z' (HL.out.below Wr);have Qr:=Z' (Y0.out.trans (xV.of Wr));have RK:=Z' (ZT.out.keep1 (xV.of Wr) WS);clear c0 c1 c2 c3 c4 c5 c6 c7 k0 k1 EV FA lt0 Wr HL ZT Y0;obtain⟨c0,c1,c2,c3,c4,c5,c6,c7⟩:=RK.out.box;obtain⟨k0,k1,EV,FA,lt0⟩:=SG.out.k.box;by_cases g1:0<f1
 ·have e1:=decide_eq_true g1;clear g1;by_cases g2:i=0
  ·have e2:((i:Int)==0)=true:=by simp[g2]
   clear g2;have Wh:=SG;have Wv:=Qr
   go_wp2_with fail
   refine(wP _ g a n cap L _ true Wh.out).mono ?_;rintro e w9 ⟨rfl,h9,k9⟩
   go_wp2_with fail
   go_end0;exact⟨rfl,by rw[show nmB=true by rw[Ty.out];simp only[e1,e2,Bool.and_true,Bool.true_and,Bool.false_and,Bool.or_true,Bool.true_or,Bool.or_false,Bool.false_or,Bool.and_false]];exact h9,Wv.out.trans k9⟩
  have e2:((i:Int)==0)=false:=by simp[g2]
  clear g2
  go_wp2_with fail
  refine(DF.out w8 SG.out.ks).mono ?_;rintro e wz ⟨rfl,M7⟩;have Wh:=Z' (SG.out.below M7);have Wv:=Z' (Qr.out.trans (xV.of M7));clear M7;by_cases g3:0<f2
  ·have e3:=decide_eq_true g3;clear g3
   go_wp2_with fail
   refine(wP _ g a n cap L _ true Wh.out).mono ?_;rintro e w9 ⟨rfl,h9,k9⟩
   go_wp2_with fail
   go_end0;exact⟨rfl,by rw[show nmB=true by rw[Ty.out];simp only[e1,e2,e3,Bool.and_true,Bool.true_and,Bool.false_and,Bool.or_true,Bool.true_or,Bool.or_false,Bool.false_or,Bool.and_false]];exact h9,Wv.out.trans k9⟩
  have e3:=decide_eq_false g3;clear g3
  go_wp2_with fail
  refine(wP _ g a n cap L _ false Wh.out).mono ?_;rintro e w9 ⟨rfl,h9,k9⟩
  go_wp2_with fail
  go_end0;exact⟨rfl,by rw[show nmB=false by rw[Ty.out];simp only[e1,e2,e3,Bool.and_true,Bool.true_and,Bool.false_and,Bool.or_true,Bool.true_or,Bool.or_false,Bool.false_or,Bool.and_false]];exact h9,Wv.out.trans k9⟩
 have e1:=decide_eq_false g1;clear g1;have Wh:=SG;have Wv:=Qr
 go_wp2_with fail
 refine(wP _ g a n cap L _ false Wh.out).mono ?_;rintro e w9 ⟨rfl,h9,k9⟩
 go_wp2_with fail
 go_end0;exact⟨rfl,by rw[show nmB=false by rw[Ty.out];simp only[e1,Bool.and_true,Bool.true_and,Bool.false_and,Bool.or_true,Bool.true_or,Bool.or_false,Bool.false_or,Bool.and_false]];exact h9,Wv.out.trans k9⟩
structure KP.Fit(p:KP):Prop where
 ln:p.ln<=1000000000
 sn:p.sn<=1000000000
structure KM.Fit(m:KM):Prop where
 fl:yw m.fl
 cn:m.cn<=maxLen
 tn:m.tn<=1000000000000
 mn:m.mn<=1000000000000
 each:∀p∈m.maps,p.Fit
structure KF.Fit(f:KF):Prop where
 pn:f.pn<=65536
 ps:∀i:Nat,i<f.pn->(kAt f.pool i).s.length<=65536
 fn:f.fn<=1000000000000
 mn:f.mn<=1000000000000
 fl:∀d∈f.fields,yw d.fl
 each:∀m∈f.methods,m.Fit
def pi(f:KF)(w:World)(e:Ending)(w':World):Prop:=e= .returned (.int .i64 (if xn f then 0 else 8))/\Below w.heap.size w w'
theorem cP(f:KF)(hp:xP f.pool=true):(!xn f)=(((((false|| !clsOk f.pool f.th)|| !(decide (f.su=0)||clsOk f.pool f.su))|| !decide (f.fields.length<=64/\f.methods.length<=64))|| !f.fields.all (fun d=>xK f.pool d.fl d.nm d.ds))|| !f.methods.all (xF f.pool)):=by
 have h:(!xn f)=(false|| !xn f):=by simp
 rw[h];unfold xn;rw[hp,vW,vW,vW,vW,vW];simp
theorem jg(w:World)(f:KF)(h:f.Rd w)(XU:f.Fit):
  Calls prog 19 #[.agg #[.slice f.pa f.pn f.pc,.int .i64 f.th,.int .i64 f.su,.slice f.fa f.fn f.fc,.slice f.ma f.mn f.mc]] w (pi f w):=by
 unfold pi;have Tw:=Z' (cP f);have Wz:=Z9 (xP f.pool=false->xn f=false) (fun h=>by unfold xn;rw[h];rfl);obtain⟨pa,pn,pc,pool,th,su,fa,fn,fc,fields,ma,mn,mc,methods⟩:=f;dsimp only at Tw Wz⊢;have Et:=Z9 (Ks w pa pn pool) h.pool;have U1:pn<=65536:=XU.pn;have hfn:fn<=1000000000000:=XU.fn;have Rn:mn<=1000000000000:=XU.mn;have Mu:=Z9 (∀i:Nat,i<pn->(kAt pool i).s.length<=65536) XU.ps;have zB:=Z9 (Ss 3 KD.cells w fa fn fields) h.fields;have NE:=Z9 (Ss 8 KM.cells w ma mn methods) h.methods;have HE:=Z9 (∀m∈methods,m.Rd w) h.each;have Pc:=Z9 (∀d∈fields,yw d.fl) XU.fl;have Xn:=Z9 (∀m∈methods,m.Fit) XU.each;have CK:=Z9 (fields.length=fn) h.fields.1;have CE:=Z9 (methods.length=mn) h.methods.1
 have YS:=Z9 (decide (fields.length<=64/\methods.length<=64)=(decide ((fn:Int)<=64)&&decide ((mn:Int)<=64))) (by
  rw[CK.out,CE.out,<-Bool.decide_and];exact decide_eq_decide.2 (by omega))
 generalize decide (fields.length<=64/\methods.length<=64)=szB at*;generalize xn ⟨pa,pn,pc,pool,th,su,fa,fn,fc,fields,ma,mn,mc,methods⟩=R at*;clear h XU
 obtain⟨r,hr⟩:∃r:Int,r=if R then 0 else 8:=⟨_,rfl⟩
 rw[<-hr];have EQ:=Z' hr;clear hr;have ZY:Below w.heap.size w (w.alloc (.cells #[.slice pa pn pc,.int .i64 th,.int .i64 su,.slice fa fn fc,.slice ma mn mc] 26)):=yV _ _;have Zp:=Z' (heap_alloc_last w (.cells #[.slice pa pn pc,.int .i64 th,.int .i64 su,.slice fa fn fc,.slice ma mn mc] 26));have Rr:=Z' (D2r (w.alloc (.cells #[.slice pa pn pc,.int .i64 th,.int .i64 su,.slice fa fn fc,.slice ma mn mc] 26)) pa pn pc pool (Et.out.below ZY) U1 Mu.out);unfold gV at Rr;have YX:=Z' ZY;clear ZY;go_enter func19,ntmps19
 go_upto_region 1 with fail
 generalize w.alloc _=W0 at*;have c0:=y8 Zp.out 0 rfl;dsimp at c0
 cases hp:xP pool
 ·have HN:=Z' (Wz.out hp);rw[hp]at Rr;simp only[Bool.false_eq_true,if_false]at Rr;clear Tw hp
  go_wp2_with fail
  refine Rr.out.mono ?_;rintro e w1 ⟨rfl,ZQ⟩;have ZM:=Z7 YX ZQ;clear ZQ
  go_wp2_with fail
  go_ret;exact⟨by rw[EQ.out,HN.out];rfl,ZM.out⟩
 have Tw:=Z' (Tw.out hp);rw[hp]at Rr;simp only[if_true]at Rr;clear Wz hp
 go_wp2_with fail
 refine Rr.out.mono ?_;rintro e w1 ⟨rfl,ZQ⟩;have ZM:=Z' (yW Zp.out ZQ);have Za:=Z7 YX ZQ;clear ZQ Rr Zp YX c0;have c0:=y8 ZM.out 0 rfl;have c1:=y8 ZM.out 1 rfl;dsimp at c0 c1
 go_upto_region 4 with fail
 have ZY:Below w1.heap.size w1 (w1.alloc (.cells #[.slice pa pn pc,.bool false] 106)):=yV _ _
 have HL:=Z9 (LkS (w1.alloc (.cells #[.slice pa pn pc,.bool false] 106)) w1.heap.size pa pn pc pool false) (
  ⟨heap_alloc_last w1 _,(Et.out.below (by exact Za.out)).below ZY,U1,wX.oldS (Et.out.below (by exact Za.out)) Z5⟩)
 have HB:=Z' (yW ZM.out ZY);have WS:w.heap.size≠w1.heap.size:=Nat.ne_of_lt (yG ZM.out);have Qw:=Z' (show w.heap.size<=w1.heap.size by exact Za.out.size);have LF:=Z' (show Below w.heap.size w (w1.alloc (.cells #[.slice pa pn pc,.bool false] 106)) by exact Za.out.trans (ZY.mono Za.out.size));clear ZY c0 c1 ZM Za;generalize w1.alloc _=W2 at*;generalize w1.heap.size=g at*;have HK:=Z' (xV.refl g W2);have c1:=y8 HB.out 1 rfl;dsimp at c1
 go_wp2_with fail
 refine(pD W2 g pa pn pc pool false th HL.out).mono ?_;rintro e w3 ⟨rfl,h3,k3⟩;have YU:=Z' h3;have ZG:=Z' (k3.blk HB.out WS);have ZL:=Z' (HK.out.trans k3);generalize(false|| !clsOk pool th)=od1 at*;clear h3 k3 c1 HL HB HK;have c2:=y8 ZG.out 2 rfl;dsimp at c2
 go_upto_if 22 with fail
 go_cut [] (fun wx=>Hid (LkS wx g pa pn pc pool (od1|| !(decide (su=0)||clsOk pool su)))/\Hid (wx.heap[w.heap.size]? =some (.cells #[.slice pa pn pc,.int .i64 th,.int .i64 su,.slice fa fn fc,.slice ma mn mc] 26))/\Hid (xV g W2 wx))
 case first=>
  by_cases h0:su=0
  ·have e0:(su !=0)=false:=by simp[h0]
   have HS:=Z' (show(decide (su=0)||clsOk pool su)=true by simp[h0]);clear h0
   go_wp2_with fail
   go_meet;exact⟨Z' (by rw[HS.out,Bool.not_true,Bool.or_false];exact YU.out),ZG,ZL⟩
  have e0:(su !=0)=true:=by simp[h0]
  have HS:=Z' (show(decide (su=0)||clsOk pool su)=clsOk pool su by simp[h0]);clear h0
  go_wp2_with fail
  refine(pD w3 g pa pn pc pool _ su YU.out).mono ?_;rintro e w4 ⟨rfl,h4,k4⟩
  go_wp2_with fail
  go_meet;exact⟨Z' (by rw[HS.out];exact h4),Z' (k4.blk ZG.out WS),Z' (ZL.out.trans k4)⟩
 clear c2 YU ZG ZL;obtain⟨HL,HB,HK⟩:=hcut;generalize(od1|| !(decide (su=0)||clsOk pool su))=od2 at*;have c3:=y8 HB.out 3 rfl;have c4:=y8 HB.out 4 rfl;dsimp at c3 c4
 go_upto_region 7 with fail
 go_cut [38] (fun r wx=>Hid (LkS wx g pa pn pc pool (od2|| !szB))/\Hid (wx.heap[w.heap.size]? =some (.cells #[.slice pa pn pc,.int .i64 th,.int .i64 su,.slice fa fn fc,.slice ma mn mc] 26))/\Hid (xV g W2 wx))
 case first=>
  by_cases h0:(fn:Int)<=64
  ·have e0:=decide_eq_true h0;by_cases h1:(mn:Int)<=64
   ·have e1:=decide_eq_true h1;clear h0 h1
    go_wp2_with fail
    refine(wP _ g pa pn pc pool _ true HL.out).mono ?_;rintro e w3 ⟨rfl,h3,k3⟩
    go_wp2_with fail
    go_meet;refine⟨Z' ?_,Z' (k3.blk HB.out WS),Z' (HK.out.trans k3)⟩;rw[show szB=true by rw[YS.out];simp only[e0,e1,Bool.and_true,Bool.true_and,Bool.false_and,Bool.and_false]];exact h3
   have e1:=decide_eq_false h1;clear h0 h1
   go_wp2_with fail
   refine(wP _ g pa pn pc pool _ false HL.out).mono ?_;rintro e w3 ⟨rfl,h3,k3⟩
   go_wp2_with fail
   go_meet;refine⟨Z' ?_,Z' (k3.blk HB.out WS),Z' (HK.out.trans k3)⟩;rw[show szB=false by rw[YS.out];simp only[e0,e1,Bool.and_true,Bool.true_and,Bool.false_and,Bool.and_false]];exact h3
  have e0:=decide_eq_false h0;clear h0
  go_wp2_with fail
  refine(wP _ g pa pn pc pool _ false HL.out).mono ?_;rintro e w3 ⟨rfl,h3,k3⟩
  go_wp2_with fail
  go_meet;refine⟨Z' ?_,Z' (k3.blk HB.out WS),Z' (HK.out.trans k3)⟩;rw[show szB=false by rw[YS.out];simp only[e0,Bool.and_true,Bool.true_and,Bool.false_and,Bool.and_false]];exact h3
 clear c3 c4 HL HB HK;obtain⟨HL,HB,HK⟩:=hcut;generalize(od2|| !szB)=od3 at*;have c3:=y8 HB.out 3 rfl;dsimp at c3
 go_wp2_with fail
 clear c3
 go_loopg [42] fn (fun gn iv wr=>∃j:Nat,j<=fn/\gn=fn-j/\iv= .int .i64 j/\Hid (LkS wr g pa pn pc pool (od3|| !(fields.take j).all (fun d=>xK pool d.fl d.nm d.ds)))/\Hid (wr.heap[w.heap.size]? =some (.cells #[.slice pa pn pc,.int .i64 th,.int .i64 su,.slice fa fn fc,.slice ma mn mc] 26))/\Hid (xV g W2 wr))
 case atStart=>exact⟨0,by omega,by omega,by go_num,Z' (by simpa using HL.out),HB,HK⟩
 clear HL HB HK;obtain⟨j,hj,rfl,rfl,HL,HB,HK⟩:=hrel;by_cases ZX:j<fn
 ·obtain⟨b,off,d,rfl,_,hv,q⟩:=(zB.out.below (HK.out.below LF.out Z5 Qw.out)).getC j ZX;have HA:=Z' (show(od3|| !(fields.take (j+1)).all (fun d=>xK pool d.fl d.nm d.ds))=((od3|| !(fields.take j).all (fun d=>xK pool d.fl d.nm d.ds))|| !xK pool d.fl d.nm d.ds) by rw[tX _ _ _ _ hv,vW]);have Kv:=Z' (Pc.out d (List.mem_of_getElem? hv));obtain⟨fl,nm,ds⟩:=d;dsimp only at HA Kv;have q0:wr.cell? ⟨b,off+j*3,none⟩=some (.int .i64 fl):=q 0 (by omega);have q1:wr.cell? ⟨b,off+j*3+1,none⟩=some (.int .i64 nm):=q 1 (by omega);have q2:wr.cell? ⟨b,off+j*3+2,none⟩=some (.int .i64 ds):=q 2 (by omega);clear q hv;generalize(od3|| !(fields.take j).all (fun d=>xK pool d.fl d.nm d.ds))=od at*;have XZ:(j:Int)<fn:=by omega
  have hb:Below wr.heap.size wr (wr.alloc (.cells #[.int .i64 fl,.int .i64 nm,.int .i64 ds] 75)):=yV _ _;have Wk:=Z' (HL.out.below hb);have YY:=Z' (yW HB.out hb);have Xw:=Z' (HK.out.trans (xV.of hb));have Xq:=Z' (heap_alloc_last wr (.cells #[.int .i64 fl,.int .i64 nm,.int .i64 ds] 75));clear hb HL HB HK
  go_upto_region 11 with fail
  clear q0 q1 q2;generalize wr.alloc _=W4 at*;generalize wr.heap.size=bt at*;have p0:=y8 Xq.out 0 rfl;have p1:=y8 Xq.out 1 rfl;have p2:=y8 Xq.out 2 rfl;dsimp at p0 p1 p2
  go_wp2_with fail
  refine(jA W4 g pa pn pc pool _ fl nm ds Wk.out Kv.out).mono ?_;rintro e w6 ⟨rfl,h6,k6⟩
  go_wp2_with fail
  go_roundg (fn-(j+1))
  case measure=>omega
  exact⟨j+1,by omega,rfl,by go_num,Z' (by rw[HA.out];exact h6),Z' (k6.blk YY.out WS),Z' (Xw.out.trans k6)⟩
 obtain rfl:j=fn:=by omega
 have WV:=Z' (show fields.take j=fields by rw[List.take_of_length_le (by rw[CK.out];exact Nat.le_refl _)]);rw[WV.out]at HL;generalize(od3|| !fields.all (fun d=>xK pool d.fl d.nm d.ds))=od4 at*;have c4:=y8 HB.out 4 rfl;dsimp at c4
 go_wp2_with fail
 clear c4
 go_loopg [58] mn (fun gn iv wr=>∃i:Nat,i<=mn/\gn=mn-i/\iv= .int .i64 i/\Hid (LkS wr g pa pn pc pool (od4|| !(methods.take i).all (xF pool)))/\Hid (xV g W2 wr))
 case atStart=>exact⟨0,by omega,by omega,by go_num,Z' (by simpa using HL.out),HK⟩
 clear HL HB HK;obtain⟨i,hi,rfl,rfl,HL,HK⟩:=hrel;by_cases hli:i<mn
 ·have Fb:=Z' (HK.out.below LF.out Z5 Qw.out);obtain⟨b,off,m,rfl,_,hv,q⟩:=(NE.out.below Fb.out).getC i hli;have HA:=Z' (show(od4|| !(methods.take (i+1)).all (xF pool))=((od4|| !(methods.take i).all (xF pool))|| !xF pool m) by rw[tX _ _ _ _ hv,vW]);have hR:=HE.out m (List.mem_of_getElem? hv);have hF:=Xn.out m (List.mem_of_getElem? hv);have LA:=Z' (fun(W:World) od (h1:LkS W g pa pn pc pool od) (h2:Below w.heap.size w W)=>bA w W g pa pn pc pool od m h1 hR h2 Qw.out hF.fl hF.cn hF.tn hF.mn (fun p hp=>⟨(hF.each p hp).ln,(hF.each p hp).sn⟩));clear hR hF;obtain⟨fl,nm,ds,st,lo,ca,cn,cc,code,ta,tn,tc,traps,na,nn,nc,maps⟩:=m;dsimp only at LA;generalize xF pool ⟨fl,nm,ds,st,lo,ca,cn,cc,code,ta,tn,tc,traps,na,nn,nc,maps⟩=ok at*;have q0:wr.cell? ⟨b,off+i*8,none⟩=some (.int .i64 fl):=q 0 (by omega);have q1:wr.cell? ⟨b,off+i*8+1,none⟩=some (.int .i64 nm):=q 1 (by omega);have q2:wr.cell? ⟨b,off+i*8+2,none⟩=some (.int .i64 ds):=q 2 (by omega);have q3:wr.cell? ⟨b,off+i*8+3,none⟩=some (.int .i64 st):=q 3 (by omega);have q4:wr.cell? ⟨b,off+i*8+4,none⟩=some (.int .i64 lo):=q 4 (by omega);have q5:wr.cell? ⟨b,off+i*8+5,none⟩=some (.slice ca cn cc):=q 5 (by omega);have q6:wr.cell? ⟨b,off+i*8+6,none⟩=some (.slice ta tn tc):=q 6 (by omega);have q7:wr.cell? ⟨b,off+i*8+7,none⟩=some (.slice na nn nc):=q 7 (by omega);clear q hv;generalize(od4|| !(methods.take i).all (xF pool))=od at*;have zx:(i:Int)<mn:=by omega
  have hb:Below wr.heap.size wr (wr.alloc (.cells #[.int .i64 fl,.int .i64 nm,.int .i64 ds,.int .i64 st,.int .i64 lo,.slice ca cn cc,.slice ta tn tc,.slice na nn nc] 65)):=yV _ _;have Wk:=Z' (HL.out.below hb);have Xw:=Z' (HK.out.trans (xV.of hb));have Xq:=Z' (heap_alloc_last wr (.cells #[.int .i64 fl,.int .i64 nm,.int .i64 ds,.int .i64 st,.int .i64 lo,.slice ca cn cc,.slice ta tn tc,.slice na nn nc] 65));have G8:=Z7 Fb hb;clear hb HL HK Fb
  go_upto_region 16 with fail
  clear q0 q1 q2 q3 q4 q5 q6 q7;generalize wr.alloc _=W4 at*;generalize wr.heap.size=bt at*;have p0:=y8 Xq.out 0 rfl;have p1:=y8 Xq.out 1 rfl;have p2:=y8 Xq.out 2 rfl;have p3:=y8 Xq.out 3 rfl;have p4:=y8 Xq.out 4 rfl;have p5:=y8 Xq.out 5 rfl;have p6:=y8 Xq.out 6 rfl;have p7:=y8 Xq.out 7 rfl;dsimp at p0 p1 p2 p3 p4 p5 p6 p7
  go_wp2_with fail
  refine(LA.out W4 _ Wk.out G8.out).mono ?_;rintro e w6 ⟨rfl,h6,k6⟩
  go_wp2_with fail
  go_roundg (mn-(i+1))
  case measure=>omega
  exact⟨i+1,by omega,rfl,by go_num,Z' (by rw[HA.out];exact h6),Z' (Xw.out.trans k6)⟩
 obtain rfl:i=mn:=by omega
 have zA:=Z' (show methods.take i=methods by rw[List.take_of_length_le (by rw[CE.out];exact Nat.le_refl _)]);rw[zA.out]at HL;generalize(od4|| !methods.all (xF pool))=od5 at*;have Sr:=Z' (HK.out.below LF.out Z5 Qw.out);obtain⟨k0,k1,EV,FA,lt0⟩:=HL.out.k.box
 cases od5
 ·have FK:=Z' (show r=0 by have h1:=Tw.out;rw[EQ.out];cases R<;>simp at h1⊢)
  go_wp2_with fail
  go_ret;exact⟨by rw[FK.out];rfl,Sr.out⟩
 have FK:=Z' (show r=8 by have h1:=Tw.out;rw[EQ.out];cases R<;>simp at h1⊢)
 go_wp2_with fail
 go_ret;exact⟨by rw[FK.out];rfl,Sr.out⟩
def EqW(x y:World):Prop:=y=x
def KF.vals(x:KF):Array Value:= #[.slice x.pa x.pn x.pc,.int .i64 x.th,.int .i64 x.su,.slice x.fa x.fn x.fc,.slice x.ma x.mn x.mc]
def vQ(P:Prop)(w:World)(e:Ending)(w':World):Prop:=∃b:Bool,e= .returned (.bool b)/\Below w.heap.size w w'/\(b=true->P)
theorem vQ.no{P:Prop}{w w':World}{e:Ending}(h:e= .returned (.bool false))(hb:Below w.heap.size w w'):vQ P w e w':=⟨false,h,hb,fun h=>by simp at h⟩
theorem vQ.yes{P:Prop}{w w':World}{e:Ending}(h:e= .returned (.bool true))(hb:Below w.heap.size w w')(hp:P):vQ P w e w':=⟨true,h,hb,fun _=>hp⟩
theorem mZ{α:Type}{l:List α}{j:Nat}{v:α}(h:l[j]? =some v):l.take (j+1)=l.take j++[v]:=by
 obtain⟨hj,he⟩:=Z4 h;rw[List.take_succ_eq_append_getElem hj,he]
theorem D9f{α:Type}{p:α->Prop}{L:List α}{j:Nat}{v:α}(h:L[j]? =some v)(h1:∀t∈L.take j,p t)(h2:p v):∀t∈L.take (j+1),p t:=by
 rw[mZ h];intro t ht
 rcases List.mem_append.1 ht with h3|h3
 ·exact h1 t h3
 rw[List.mem_singleton.1 h3];exact h2
structure KF.Big(f:KF):Prop where
 pn:f.pn<=140737488355328
 fn:f.fn<=140737488355328
 mn:f.mn<=140737488355328
 ps:∀c∈f.pool,c.s.length<=140737488355328
 each:∀m∈f.methods,m.cn<=140737488355328/\m.tn<=140737488355328/\m.mn<=140737488355328/\∀p∈m.maps,p.ln<=140737488355328/\p.sn<=140737488355328
def kw(p:KP):Nat:=10+p.ln+p.sn
def uq(l:List KP):Nat:=(l.map kw).sum
def dX(m:KM):Nat:=m.cn+10*m.tn+uq m.maps
def tA(l:List KM):Nat:=(l.map dX).sum
theorem bL(l:List KP)(p:KP):uq (l++[p])=uq l+(10+p.ln+p.sn):=by unfold uq;simp[kw]
theorem cN(l:List KM)(m:KM):tA (l++[m])=tA l+(m.cn+10*m.tn+uq m.maps):=by unfold tA;simp[dX]
def nw(f:KF):Prop:=f.pn<=120/\f.fn<=70/\f.mn<=70/\(∀c∈f.pool,c.s.length<=300)/\tA f.methods<=4000
theorem E0e(w:World)(f:KF)(h:f.Rd w)(hb:f.Big):
  Calls prog 9 #[.agg f.vals] w (vQ (nw f) w):=by
 obtain⟨P,hP⟩:=Z8 (nw f);rw[<-hP];have HX:=Z' h;have M2:=Z' hb;have U1:=hb.pn;have hfn:=hb.fn;have Rn:=hb.mn;have AS:=Z' h.pool.1;have Fg:=Z' h.methods.1;have HP:=Z9 (P=(f.pn<=120/\f.fn<=70/\f.mn<=70/\(∀c∈f.pool,c.s.length<=300)/\tA f.methods<=4000)) hP;clear h hb hP;obtain⟨pa,pn,pc,pool,th,su,fa,fn,fc,fields,ma,mn,mc,methods⟩:=f;unfold KF.vals;dsimp only at*;have ZY:Below w.heap.size w (w.alloc (.cells #[.slice pa pn pc,.int .i64 th,.int .i64 su,.slice fa fn fc,.slice ma mn mc] 26)):=yV _ _;have SA:=Z' (heap_alloc_last w (.cells #[.slice pa pn pc,.int .i64 th,.int .i64 su,.slice fa fn fc,.slice ma mn mc] 26));have Zp:=Z' ZY;clear ZY;go_enter func9,ntmps9
 go_upto_region 1 with fail
 generalize w.alloc _=W0 at*;have c0:=y8 SA.out 0 rfl;have c3:=y8 SA.out 3 rfl;have c4:=y8 SA.out 4 rfl;by_cases h1:120<pn
 ·have ed:decide ((120:Int)<pn)=true:=by simp;omega
  go_wp2_with fail
  go_ret;exact vQ.no rfl Zp.out
 have ed:decide ((120:Int)<pn)=false:=by simp;omega
 by_cases h2:70<fn
 ·have B6:decide ((70:Int)<fn)=true:=by simp;omega
  go_wp2_with fail
  go_ret;exact vQ.no rfl Zp.out
 have B6:decide ((70:Int)<fn)=false:=by simp;omega
 by_cases h3:70<mn
 ·have Ct:decide ((70:Int)<mn)=true:=by simp;omega
  go_wp2_with fail
  go_ret;exact vQ.no rfl Zp.out
 have Ct:decide ((70:Int)<mn)=false:=by simp;omega
 go_wp2_with fail
 clear ed B6 Ct c0 c3 c4
 go_loopg [29] pn (fun gn i wr=>∃j:Nat,j<=pn/\gn=pn-j/\i= .int .i64 j/\Hid (∀c∈pool.take j,c.s.length<=300)/\Hid (Below W0.heap.size W0 wr))
 case atStart=>exact⟨0,by omega,by omega,by go_num,Z' (by simp),Z' Z6⟩
 obtain⟨j,hj,rfl,rfl,HA,HB⟩:=hrel;by_cases ZX:j<pn
 ·have Um:=Z7 Zp HB.out;obtain⟨b,off,c,rfl,Zu,hv,q⟩:=Ss.getC (HX.out.pool.below Um.out) j ZX;have Ze:=Z' (fun(h:c.s.length<=300)=>D9f (p:=fun c:KV=>c.s.length<=300) hv HA.out h);obtain⟨ct,ca,cb,cn,cs⟩:=c;dsimp only at Ze;have q0:wr.cell? ⟨b,off+j*5,none⟩=some (.int .i64 ct):=q 0 (by omega);have q1:wr.cell? ⟨b,off+j*5+1,none⟩=some (.int .i64 ca):=q 1 (by omega);have q2:wr.cell? ⟨b,off+j*5+2,none⟩=some (.int .i64 cb):=q 2 (by omega);have q3:wr.cell? ⟨b,off+j*5+3,none⟩=some (.int .i64 cn):=q 3 (by omega);have q4:wr.cell? ⟨b,off+j*5+4,none⟩=some (.string ⟨cs.toArray⟩):=q 4 (by omega);clear q hv Zu;have ZY:Below wr.heap.size wr (wr.alloc (.cells #[.int .i64 ct,.int .i64 ca,.int .i64 cb,.int .i64 cn,.string ⟨cs.toArray⟩] 61)):=yV _ _;have HT:=Z' (heap_alloc_last wr (.cells #[.int .i64 ct,.int .i64 ca,.int .i64 cb,.int .i64 cn,.string ⟨cs.toArray⟩] 61));have ZT:=Z7 HB ZY;have ZG:=Z7 Um ZY
  go_upto_region 6 with fail
  clear q0 q1 q2 q3 q4 ZY HB Um;generalize wr.alloc _=W1 at*;generalize wr.heap.size=bt at*;have k4:=y8 HT.out 4 rfl;by_cases h6:300<cs.length
  ·have eh:decide ((300:Int)<cs.length)=true:=by simp;omega
   go_wp2_with fail
   go_ret;exact vQ.no rfl ZG.out
  have eh:decide ((300:Int)<cs.length)=false:=by simp;omega
  go_wp2_with fail
  go_roundg (pn-(j+1))
  case measure=>omega
  exact⟨j+1,by omega,rfl,by go_num,Z' (Ze.out (by omega)),ZT⟩
 obtain rfl:pn=j:=by omega
 have P2:=Z' (show ∀c∈pool,c.s.length<=300 by have h:=HA.out;rwa [List.take_of_length_le (by rw[AS.out];exact Nat.le_refl _)]at h);have Y9:=Z' (yW SA.out HB.out);have ZM:=Z7 Zp HB.out;clear HA HB SA;have c4:=y8 Y9.out 4 rfl
 go_wp2_with fail
 clear c4
 go_loopg [41,5] mn (fun gn i v wr=>∃(j:Nat) (T:Int),j<=mn/\gn=mn-j/\i= .int .i64 j/\v= .int .i64 T/\0<=T/\T<=4000/\Hid (T=4000-(tA (methods.take j):Nat))/\Hid (Below w.heap.size w wr))
 case atStart=>exact⟨0,4000,by omega,by omega,by go_num,rfl,by omega,by omega,Z' (by simp[tA]),ZM⟩
 obtain⟨j,T,hj,rfl,rfl,rfl,Gr,hT2,HT,HB⟩:=hrel;by_cases ZX:j<mn
 ·obtain⟨b,off,m,rfl,Zu,hv,q⟩:=Ss.getC (HX.out.methods.below HB.out) j ZX;have S0:=Z' (HX.out.each m (List.mem_of_getElem? hv));have Rx:=M2.out.each m (List.mem_of_getElem? hv);have Wg:=Z' (show tA (methods.take (j+1))=tA (methods.take j)+(m.cn+10*m.tn+uq m.maps) by rw[mZ hv,cN]);obtain⟨fl,nm,ds,st,lo,ca,cn,cc,code,ta,tn,tc,traps,na,nn,nc,maps⟩:=m;dsimp only at Wg Rx;obtain⟨hf1,Cv,hf3,Dn⟩:=Rx;have G4:=Z' Dn;have Th:=Z9 (maps.length=nn) S0.out.maps.1;have q0:wr.cell? ⟨b,off+j*8,none⟩=some (.int .i64 fl):=q 0 (by omega);have q1:wr.cell? ⟨b,off+j*8+1,none⟩=some (.int .i64 nm):=q 1 (by omega);have q2:wr.cell? ⟨b,off+j*8+2,none⟩=some (.int .i64 ds):=q 2 (by omega);have q3:wr.cell? ⟨b,off+j*8+3,none⟩=some (.int .i64 st):=q 3 (by omega);have q4:wr.cell? ⟨b,off+j*8+4,none⟩=some (.int .i64 lo):=q 4 (by omega);have q5:wr.cell? ⟨b,off+j*8+5,none⟩=some (.slice ca cn cc):=q 5 (by omega);have q6:wr.cell? ⟨b,off+j*8+6,none⟩=some (.slice ta tn tc):=q 6 (by omega);have q7:wr.cell? ⟨b,off+j*8+7,none⟩=some (.slice na nn nc):=q 7 (by omega);clear q hv Zu Dn;have ZY:Below wr.heap.size wr (wr.alloc (.cells #[.int .i64 fl,.int .i64 nm,.int .i64 ds,.int .i64 st,.int .i64 lo,.slice ca cn cc,.slice ta tn tc,.slice na nn nc] 65)):=yV _ _;have HM:=Z' (heap_alloc_last wr (.cells #[.int .i64 fl,.int .i64 nm,.int .i64 ds,.int .i64 st,.int .i64 lo,.slice ca cn cc,.slice ta tn tc,.slice na nn nc] 65));have ZG:=Z7 HB ZY
  go_upto_region 13 with fail
  clear q0 q1 q2 q3 q4 q5 q6 q7 ZY HB;generalize wr.alloc _=W3 at*;generalize wr.heap.size=bt at*;have k5:=y8 HM.out 5 rfl;have k6:=y8 HM.out 6 rfl;have k7:=y8 HM.out 7 rfl;obtain⟨T2,hT⟩:∃T2:Int,T2=T-cn-10*tn:=⟨_,rfl⟩;have et:T-(cn:Int) -10*(tn:Int)=T2:=hT.symm;have Y':=Z' hT;have ZN: -2251799813685248<=T2/\T2<=4000:=by omega
  obtain⟨ZN,Zn⟩:=ZN;clear hT
  go_wp2_with fail
  clear k5 k6 k7 et
  go_loopg [58,5] nn (fun gn i v wr=>∃(k:Nat) (U:Int),k<=nn/\gn=nn-k/\i= .int .i64 k/\v= .int .i64 U/\-2251799813685248<=U/\U<=4000/\Hid (U=T2-(uq (maps.take k):Nat))/\Hid (Below w.heap.size w wr))
  case atStart=>exact⟨0,T2,by omega,by omega,by go_num,rfl,ZN,Zn,Z' (by simp[uq]),ZG⟩
  obtain⟨k,U,hk,rfl,rfl,rfl,hU1,Ar,HU,Kg⟩:=hrel;by_cases VM:k<nn
  ·obtain⟨b2,Zf,p,rfl,Zu,hv,q⟩:=Ss.getC (S0.out.maps.below Kg.out) k VM;have BY:=G4.out p (List.mem_of_getElem? hv);have LV:=Z' (show uq (maps.take (k+1))=uq (maps.take k)+(10+p.ln+p.sn) by rw[mZ hv,bL]);obtain⟨pl,la,ln,lc,loc,sa,sn,sc,stk⟩:=p;dsimp only at LV BY;obtain⟨hp1,hp2⟩:=BY;have q0:wr.cell? ⟨b2,Zf+k*3,none⟩=some (.int .i64 pl):=q 0 (by omega);have q1:wr.cell? ⟨b2,Zf+k*3+1,none⟩=some (.slice la ln lc):=q 1 (by omega);have q2:wr.cell? ⟨b2,Zf+k*3+2,none⟩=some (.slice sa sn sc):=q 2 (by omega);clear q hv Zu;have ZY:Below wr.heap.size wr (wr.alloc (.cells #[.int .i64 pl,.slice la ln lc,.slice sa sn sc] 68)):=yV _ _;have Wx:=Z' (heap_alloc_last wr (.cells #[.int .i64 pl,.slice la ln lc,.slice sa sn sc] 68));have YY:=Z7 Kg ZY
   go_upto_region 17 with fail
   clear q0 q1 q2 ZY Kg;generalize wr.alloc _=W4 at*;generalize wr.heap.size=bp at*;have k1:=y8 Wx.out 1 rfl;have k2:=y8 Wx.out 2 rfl;obtain⟨U2,FZ⟩:∃U2:Int,U2=U-10-ln-sn:=⟨_,rfl⟩;have eu:U-10-(ln:Int) -(sn:Int)=U2:=FZ.symm;have GT:=Z' FZ;have Y1: -4503599627370496<=U2/\U2<=4000:=by omega
   obtain⟨Y1,Yi⟩:=Y1;clear FZ;by_cases hneg:U2<0
   ·have ed:decide (U2<0)=true:=by simpa using hneg
    go_wp2_with fail
    go_ret;exact vQ.no rfl YY.out
   have ed:decide (U2<0)=false:=by simpa using hneg
   go_wp2_with fail
   go_roundg (nn-(k+1))
   case measure=>omega
   exact⟨k+1,U2,by omega,rfl,by go_num,rfl,by omega,Yi,Z' (by rw[GT.out,LV.out,HU.out];omega),YY⟩
  obtain rfl:nn=k:=by omega
  have WV:=Z' (show maps.take nn=maps by rw[List.take_of_length_le (by rw[Th.out];exact Nat.le_refl _)]);rw[WV.out]at HU;by_cases hneg:U<0
  ·have ed:decide (U<0)=true:=by simpa using hneg
   go_wp2_with fail
   go_ret;exact vQ.no rfl Kg.out
  have ed:decide (U<0)=false:=by simpa using hneg
  go_wp2_with fail
  go_roundg (mn-(j+1))
  case measure=>omega
  exact⟨j+1,U,by omega,rfl,by go_num,rfl,by omega,Ar,Z' (by rw[HU.out,Y'.out,Wg.out,HT.out];omega),Kg⟩
 obtain rfl:mn=j:=by omega
 have HF:=Z' (show P by
  rw[HP.out];refine⟨by omega,by omega,by omega,P2.out,?_⟩;have h:=HT.out;rw[List.take_of_length_le (by rw[Fg.out];exact Nat.le_refl _)]at h;omega)
 go_wp2_with fail
 go_ret;exact vQ.yes rfl HB.out HF.out
theorem E5y{L:List KV}{j:Nat}{c:KV}(h:L[j]? =some c):kAt L (j:Int)=c:=by
 obtain⟨hj,he⟩:=Z4 h;rw[uZ L j hj,he]
theorem dY.done{w w':World}{k m:Nat}(h:k=m)(hb:Below w.heap.size w w'):(Ending.returned (.int .i64 (k:Nat))= .returned (.int .i64 (m:Nat)))/\Below w.heap.size w w':=⟨by rw[h],hb⟩
theorem iP(w:World)(a:Option Addr)(n cap:Nat)(L:List KV)(s:List UInt8)(hs:Ks w a n L)(hn:n<=65536):
  Calls prog 110 #[.slice a n cap,.string ⟨s.toArray⟩] w fun e w'=>e= .returned (.int .i64 (xm L s))/\Below w.heap.size w w':=by
 obtain⟨F,hF⟩:=Z8 (xm L s);rw[<-hF];have HF:=Z' hF;have HS:=Z' hs;have Zd:=Z' hs.1;clear hs hF;go_enter func110,ntmps110
 go_wp2_with fail
 go_loopg [9] n (fun gn i wr=>∃j:Nat,j<=n/\gn=n-j/\i= .int .i64 j/\Hid (∀k,k<j->wR s (kAt L k)=false)/\Hid (Below w.heap.size w wr))
 case atStart=>exact⟨0,by omega,by omega,by go_num,Z' (fun k hk=>absurd hk (Nat.not_lt_zero k)),Z' Z6⟩
 obtain⟨j,hj,rfl,rfl,HA,HB⟩:=hrel;by_cases ZX:j<n
 ·obtain⟨b,off,c,rfl,Zu,hv,q⟩:=Ss.getC (HS.out.below HB.out) j ZX;have HK:=Z' (E5y hv);have HJ:=Z' (show j<L.length by rw[Zd.out];exact ZX);obtain⟨ct,ca,cb,cn,cs⟩:=c;have q0:wr.cell? ⟨b,off+j*5,none⟩=some (.int .i64 ct):=q 0 (by omega);have q1:wr.cell? ⟨b,off+j*5+1,none⟩=some (.int .i64 ca):=q 1 (by omega);have q2:wr.cell? ⟨b,off+j*5+2,none⟩=some (.int .i64 cb):=q 2 (by omega);have q3:wr.cell? ⟨b,off+j*5+3,none⟩=some (.int .i64 cn):=q 3 (by omega);have q4:wr.cell? ⟨b,off+j*5+4,none⟩=some (.string ⟨cs.toArray⟩):=q 4 (by omega);clear q hv Zu;have ZY:Below wr.heap.size wr (wr.alloc (.cells #[.int .i64 ct,.int .i64 ca,.int .i64 cb,.int .i64 cn,.string ⟨cs.toArray⟩] 61)):=yV _ _;have HT:=Z' (heap_alloc_last wr (.cells #[.int .i64 ct,.int .i64 ca,.int .i64 cb,.int .i64 cn,.string ⟨cs.toArray⟩] 61));have ZT:=Z7 HB ZY;have XZ:(j:Int)<n:=by omega
  go_upto_region 4 with fail
  clear q0 q1 q2 q3 q4 ZY HB;generalize wr.alloc _=W1 at*;generalize wr.heap.size=bt at*;have k0:=y8 HT.out 0 rfl;have k4:=y8 HT.out 4 rfl;by_cases h1:ct=1
  ·have e1:(ct==1)=true:=by simp[h1]
   by_cases h2:cs=s
   ·have e2:(cs==s)=true:=by simp[h2]
    have HR:=Z' (show j=F by rw[HF.out];exact(D7v j HJ.out HA.out (by rw[HK.out];unfold wR;simp[h1,h2])).symm);clear h1 h2 HF HA
    go_wp2_with fail
    go_ret;exact dY.done HR.out ZT.out
   have e2:(cs==s)=false:=by simp[h2]
   have HN:=Z' (show wR s (kAt L (j:Int))=false by rw[HK.out];unfold wR;simp[h2]);clear h1 h2
   go_wp2_with fail
   go_roundg (n-(j+1))
   case measure=>omega
   case rel=>exact⟨j+1,by omega,rfl,by go_num,Z' (fun k hk=>by
    by_cases hkj:k<j
    ·exact HA.out k hkj
    obtain rfl:k=j:=by omega
    exact HN.out),ZT⟩
  have e1:(ct==1)=false:=by simp[h1]
  have HN:=Z' (show wR s (kAt L (j:Int))=false by rw[HK.out];unfold wR;simp[h1]);clear h1
  go_wp2_with fail
  go_roundg (n-(j+1))
  case measure=>omega
  case rel=>exact⟨j+1,by omega,rfl,by go_num,Z' (fun k hk=>by
   by_cases hkj:k<j
   ·exact HA.out k hkj
   obtain rfl:k=j:=by omega
   exact HN.out),ZT⟩
 obtain rfl:n=j:=by omega
 have HR:=Z' (show 0=F by rw[HF.out];exact(D9i (fun k hk=>HA.out k (by rw[<-Zd.out];exact hk))).symm);clear HF HA
 go_wp2_with fail
 go_ret;exact dY.done HR.out HB.out
theorem iE(w:World)(a:Option Addr)(n cap:Nat)(L:List KV)(i:Int)(hs:Ks w a n L)(hn:n<=65536):
  Calls prog 107 #[.slice a n cap,.int .i64 i] w (yS (isT L i 1) w):=by
 have HC:=Z' (qK w a n cap L i hs hn);clear hs;go_enter func107,ntmps107
 go_wp2_with fail
 refine HC.out.mono ?_;rintro e w1 ⟨rfl,rfl⟩
 go_wp2_with fail
 go_ret;exact⟨rfl,Z6⟩
theorem pF(w:World)(a:Option Addr)(n cap:Nat)(L:List KV)(i:Int)(hs:Ks w a n L)(hn:n<=65536):
  Calls prog 59 #[.slice a n cap,.int .i64 i] w (yS (clsOk L i) w):=by
 have HC:=Z' (rV w a n cap L i hs hn);clear hs;go_enter func59,ntmps59
 go_wp2_with fail
 refine HC.out.mono ?_;rintro e w1 ⟨rfl,rfl⟩
 go_wp2_with fail
 go_ret;exact⟨rfl,Z6⟩
theorem rW{α:Type}{p:α->Bool}{l:List α}{x:α}{j:Nat}(h:l[j]? =some x)(hp:p x=false):l.all p=false:=by
 rw[List.all_eq_false];exact⟨x,List.mem_of_getElem? h,by rw[hp];decide⟩
theorem rn{α:Type}{p:α->Bool}{l:List α}{j:Nat}(h:(l.take j).all p=true)(hl:l.length=j):l.all p=true:=by
 rwa [List.take_of_length_le (by omega)]at h
theorem yS.of{r s:Bool}{w w':World}(h:s=r)(hb:Below w.heap.size w w'):yS r w (.returned (.bool s)) w':=⟨by rw[h],hb⟩
theorem ir(w:World)(a:Option Addr)(n cap:Nat)(l:List Int)(hs:Sl pR w a n l)(hn:n<=1000):
  Calls prog 108 #[.slice a n cap] w (yS (l.all xe) w):=by
 obtain⟨R,hR⟩:=Z8 (l.all xe);rw[<-hR];have HR:=Z' hR;have HS:=Z' hs;have Zd:=Z' hs.1;clear hs hR;go_enter func108,ntmps108
 go_wp2_with fail
 go_loopg [7] n (fun gn i wr=>∃j:Nat,j<=n/\gn=n-j/\i= .int .i64 j/\Hid ((l.take j).all xe=true)/\wr=w)
 case atStart=>exact⟨0,by omega,by omega,by go_num,Z' (by simp),rfl⟩
 obtain⟨j,hj,rfl,rfl,HA,rfl⟩:=hrel;by_cases ZX:j<n
 ·obtain⟨b,off,x,rfl,_,hv,q0⟩:=HS.out.getZ j ZX;have HV:=Z' hv;have XZ:(j:Int)<n:=by omega
  clear hv;by_cases h1:x<0
  ·have e1:=decide_eq_true h1;have HF:=Z' (show false=R by rw[HR.out];exact(rW HV.out (by unfold xe;simp;omega)).symm);clear h1
   go_wp2_with fail
   go_ret;exact yS.of HF.out Z6
  have e1:=decide_eq_false h1;by_cases h2:65535<x
  ·have e2:=decide_eq_true h2;have HF:=Z' (show false=R by rw[HR.out];exact(rW HV.out (by unfold xe;simp;omega)).symm);clear h1 h2
   go_wp2_with fail
   go_ret;exact yS.of HF.out Z6
  have e2:=decide_eq_false h2;have HT:=Z' (show(l.take (j+1)).all xe=true by rw[tX _ _ _ _ HV.out,HA.out];unfold xe;simp;omega);clear h1 h2
  go_wp2_with fail
  go_roundg (n-(j+1))
  case measure=>omega
  exact⟨j+1,by omega,rfl,by go_num,HT,rfl⟩
 obtain rfl:n=j:=by omega
 have HF:=Z' (show true=R by rw[HR.out];exact(rn HA.out Zd.out).symm)
 go_wp2_with fail
 go_ret;exact yS.of HF.out Z6
theorem iY(w:World)(a:Option Addr)(n cap:Nat)(L:List KV)(za:Option Addr)(zn zc:Nat)(l:List KS)(most:Int)(hs:Ks w a n L)(hn:n<=65536)(hz:Ss 2 KS.cells w za zn l)(Jh:zn<=140737488355328):
  Calls prog 109 #[.slice a n cap,.slice za zn zc,.int .i64 most] w (yS (vx L most l) w):=by
 obtain⟨R,hR⟩:=Z8 (vx L most l);rw[<-hR];have Js:=Z9 (l.all (wT L)=false->false=R) (fun h=>by rw[hR];unfold vx;rw[h,Bool.and_false]);have AD:=Z9 (l.all (wT L)=true->decide ((zn:Int)<=most)=R) (fun h=>by rw[hR];unfold vx;rw[h,Bool.and_true,hz.1]);have HS:=Z' hs;have HZ:=Z' hz;have Zd:=Z' hz.1;clear hs hR hz;go_enter func109,ntmps109
 go_wp2_with fail
 go_loopg [11] zn (fun gn i wr=>∃j:Nat,j<=zn/\gn=zn-j/\i= .int .i64 j/\Hid ((l.take j).all (wT L)=true)/\Hid (Below w.heap.size w wr))
 case atStart=>exact⟨0,by omega,by omega,by go_num,Z' (by simp),Z' Z6⟩
 obtain⟨j,hj,rfl,rfl,HA,HB⟩:=hrel;by_cases ZX:j<zn
 ·obtain⟨b,off,x,rfl,_,hv,q⟩:=Ss.getC (HZ.out.below HB.out) j ZX;have HN:=Z' (fun(h:wT L x=false)=>Js.out (rW hv h));have HY:=Z' (fun(h:wT L x=true)=>show(l.take (j+1)).all (wT L)=true by rw[tX _ _ _ _ hv,HA.out,h];rfl);obtain⟨tg,sa⟩:=x;have q0:wr.cell? ⟨b,off+j*2,none⟩=some (.int .i64 tg):=q 0 (by omega);have q1:wr.cell? ⟨b,off+j*2+1,none⟩=some (.int .i64 sa):=q 1 (by omega);clear q hv;have ZY:Below wr.heap.size wr (wr.alloc (.cells #[.int .i64 tg,.int .i64 sa] 174)):=yV _ _;have HT:=Z' (heap_alloc_last wr (.cells #[.int .i64 tg,.int .i64 sa] 174));have ZT:=Z7 HB ZY;have XZ:(j:Int)<zn:=by omega
  go_upto_region 4 with fail
  clear q0 q1 ZY HB;generalize wr.alloc _=W1 at*;generalize wr.heap.size=bt at*;have k0:=y8 HT.out 0 rfl;have k1:=y8 HT.out 1 rfl;have HC:=Z' (pF W1 a n cap L sa (HS.out.below ZT.out) hn);by_cases h7:tg=7
  ·subst h7;have AW:=Z9 (wT L ⟨7,sa⟩=clsOk L sa) rfl;rw[AW.out]at HN HY;generalize clsOk L sa=ok at*
   go_wp2_with fail
   refine HC.out.mono ?_;rintro e w2 ⟨rfl,hb⟩;have ZG:=Z7 ZT hb;clear hb HC
   cases ok with
   |false=>
    have HF:=Z' (HN.out rfl)
    go_wp2_with fail
    go_ret;exact yS.of HF.out ZG.out
   |true=>
   have HF:=Z' (HY.out rfl)
   go_wp2_with fail
   go_roundg (zn-(j+1))
   case measure=>omega
   exact⟨j+1,by omega,rfl,by go_num,HF,ZG⟩
  by_cases ht:tg=0\/tg=1\/tg=4\/tg=5
  ·by_cases h0:sa=0
   ·subst h0;have HF:=Z' (HY.out (by unfold wT;simp[h7,ht]));clear HN HY HC h7
    rcases ht with rfl|rfl|rfl|rfl
    ·go_wp2_with fail
     go_roundg (zn-(j+1))
     case measure=>omega
     exact⟨j+1,by omega,rfl,by go_num,HF,ZT⟩
    ·go_wp2_with fail
     go_roundg (zn-(j+1))
     case measure=>omega
     exact⟨j+1,by omega,rfl,by go_num,HF,ZT⟩
    ·go_wp2_with fail
     go_roundg (zn-(j+1))
     case measure=>omega
     exact⟨j+1,by omega,rfl,by go_num,HF,ZT⟩
    go_wp2_with fail
    go_roundg (zn-(j+1))
    case measure=>omega
    exact⟨j+1,by omega,rfl,by go_num,HF,ZT⟩
   have e0:(sa !=0)=true:=by simp[h0]
   have HF:=Z' (HN.out (by unfold wT;simp[h7,h0]));clear HN HY HC h7 h0
   rcases ht with rfl|rfl|rfl|rfl
   ·go_wp2_with fail
    go_ret;exact yS.of HF.out ZT.out
   ·go_wp2_with fail
    go_ret;exact yS.of HF.out ZT.out
   ·go_wp2_with fail
    go_ret;exact yS.of HF.out ZT.out
   go_wp2_with fail
   go_ret;exact yS.of HF.out ZT.out
  have HF:=Z' (HN.out (by unfold wT;simp only[h7,ht,if_false,decide_false,Bool.false_and]));have e7:(tg==7)=false:=by simp[h7]
  have e0:(tg==0)=false:=by simp;omega
  have e1:(tg==1)=false:=by simp;omega
  have e4:(tg==4)=false:=by simp;omega
  have e5:(tg==5)=false:=by simp;omega
  clear HN HY HC h7 ht
  go_wp2_with fail
  go_ret;exact yS.of HF.out ZT.out
 obtain rfl:zn=j:=by omega
 have HF:=Z' (AD.out (rn HA.out Zd.out))
 go_wp2_with fail
 go_ret;exact yS.of HF.out HB.out
theorem jG(w:World)(a:Option Addr)(n cap:Nat)(L:List KV)(fl nm ds:Int)(hs:Ks w a n L)(hn:n<=65536):
  Calls prog 60 #[.slice a n cap,.int .i64 fl,.int .i64 nm,.int .i64 ds] w (yS (xK L fl nm ds) w):=by
 obtain⟨R,hR⟩:=Z8 (xK L fl nm ds);rw[<-hR];unfold xK at hR;have H1:=Z' (iE w a n cap L nm hs hn);have H2:=Z' (fun w' (hb:Below w.heap.size w w')=>iE w' a n cap L ds (hs.below hb) hn);generalize isT L nm 1=t1 at*;generalize isT L ds 1=t2 at*;by_cases h0:fl=0\/fl=8
 case neg=>
  have HF:=Z' (show false=R by rw[hR];simp[h0]);have e0:(fl==0)=false:=by simp;omega
  have e8:(fl==8)=false:=by simp;omega
  clear hs hR h0;go_enter func60,ntmps60
  go_wp2_with fail
  go_ret;exact yS.of HF.out Z6
 have HR:=Z' (show R=(t1&&t2) by rw[hR];simp[h0]);clear hs hR;go_enter func60,ntmps60
 cases t1 with
 |false=>
  have HF:=Z' (show false=R by rw[HR.out];rfl)
  rcases h0 with rfl|rfl
  ·go_wp2_with fail
   refine H1.out.mono ?_;rintro e w1 ⟨rfl,hb⟩
   go_wp2_with fail
   go_ret;exact yS.of HF.out hb
  go_wp2_with fail
  refine H1.out.mono ?_;rintro e w1 ⟨rfl,hb⟩
  go_wp2_with fail
  go_ret;exact yS.of HF.out hb
 |true=>
 have HF:=Z' (show t2=R by rw[HR.out];rfl)
 rcases h0 with rfl|rfl
 ·go_wp2_with fail
  refine H1.out.mono ?_;rintro e w1 ⟨rfl,hb⟩
  go_wp2_with fail
  refine(H2.out w1 hb).mono ?_;rintro e w2 ⟨rfl,ZN⟩
  go_wp2_with fail
  go_ret;exact yS.of HF.out (hb.trans (ZN.mono hb.size))
 go_wp2_with fail
 refine H1.out.mono ?_;rintro e w1 ⟨rfl,hb⟩
 go_wp2_with fail
 refine(H2.out w1 hb).mono ?_;rintro e w2 ⟨rfl,ZN⟩
 go_wp2_with fail
 go_ret;exact yS.of HF.out (hb.trans (ZN.mono hb.size))
theorem au(L:List KV)(m:KM):xF L m=true↔(xK L m.fl m.nm m.ds=true/\(0<=m.st/\m.st<=64/\0<=m.lo/\m.lo<=64)/\(0<m.code.length/\m.code.length<=4096/\m.traps.length<=255/\m.maps.length<=255)/\m.traps.all (we L)=true/\m.maps.all (xc L)=true/\(0<xm L wJ/\(m.maps.length=0\/0<xm L wH))):=by
 unfold xF sZ ur tT;simp only[Bool.and_eq_true,decide_eq_true_eq];constructor
 ·rintro⟨⟨⟨⟨⟨h1,h2⟩,h3⟩,h4⟩,h5⟩,h6⟩;exact⟨h1,h2,h3,h4,h5,h6⟩
 rintro⟨h1,h2,h3,h4,h5,h6⟩;exact⟨⟨⟨⟨⟨h1,h2⟩,h3⟩,h4⟩,h5⟩,h6⟩
def d6(L:List KV)(mb:Bool)(st lo:Int)(cn tn nn:Nat)(ts ms:Bool):Prop:=mb=true/\(0<=st/\st<=64/\0<=lo/\lo<=64)/\(0<cn/\cn<=4096/\tn<=255/\nn<=255)/\ts=true/\ms=true/\(0<xm L wJ/\(nn=0\/0<xm L wH))
theorem vS{R:Bool}{P:Prop}(h:R=true↔P)(hn:¬P):false=R:=by cases R with
 |false=>rfl
 |true=>exact absurd (h.1 rfl) hn
theorem kE{R:Bool}{P:Prop}(h:R=true↔P)(hn:P):true=R:=(h.2 hn).symm
theorem ch(w:World)(a:Option Addr)(n cap:Nat)(L:List KV)(m:KM)(hs:Ks w a n L)(hn:n<=65536)(hm:m.Rd w)(Y5:m.cn<=140737488355328)(Yz:m.tn<=140737488355328)(Ph:m.mn<=140737488355328)(G0:∀p∈m.maps,p.ln<=140737488355328/\p.sn<=140737488355328):
  Calls prog 61 #[.slice a n cap,.agg #[.int .i64 m.fl,.int .i64 m.nm,.int .i64 m.ds,.int .i64 m.st,.int .i64 m.lo,.slice m.ca m.cn m.cc,.slice m.ta m.tn m.tc,.slice m.ma m.mn m.mc]] w (yS (xF L m) w):=by
 obtain⟨R,hR⟩:=Z8 (xF L m);have hq:=au L m;rw[<-hR]at hq⊢;have VQ:=hm.code.1;have Xf:=hm.traps.1;have RE:=hm.maps.1
 have HQ:=Z' (show R=true↔d6 L (xK L m.fl m.nm m.ds) m.st m.lo m.cn m.tn m.mn (m.traps.all (we L)) (m.maps.all (xc L)) by
  rw[hq,VQ,Xf,RE];rfl)
 have HS:=Z' hs;have HM:=Z' hm;have Mk:=Z' G0;clear hq hR VQ Xf RE hm G0 hs;obtain⟨fl,nm,ds,st,lo,ca,cn,cc,code,ta,tn,tc,traps,na,nn,nc,maps⟩:=m;dsimp only at*;have ZY:Below w.heap.size w (w.alloc (.cells #[.int .i64 fl,.int .i64 nm,.int .i64 ds,.int .i64 st,.int .i64 lo,.slice ca cn cc,.slice ta tn tc,.slice na nn nc] 65)):=yV _ _;have Y8:=Z' (heap_alloc_last w (.cells #[.int .i64 fl,.int .i64 nm,.int .i64 ds,.int .i64 st,.int .i64 lo,.slice ca cn cc,.slice ta tn tc,.slice na nn nc] 65));have Zp:=Z' ZY;clear ZY;go_enter func61,ntmps61
 go_upto_region 1 with fail
 generalize w.alloc _=W0 at*;obtain⟨bm,MU⟩:∃b,b=w.heap.size:=⟨_,rfl⟩;rw[<-MU]at Y8⊢;clear MU;have Zy:=Z' (jG W0 a n cap L fl nm ds (HS.out.below Zp.out) hn);generalize xK L fl nm ds=mb at*;have k0:=y8 Y8.out 0 rfl;have k1:=y8 Y8.out 1 rfl;have k2:=y8 Y8.out 2 rfl
 go_cut [61] (fun r wx=>∃bad:Bool,r= .bool bad/\Hid (bad=true->false=R)/\Hid (bad=false->mb=true/\(0<=st/\st<=64/\0<=lo/\lo<=64)/\(0<cn/\cn<=4096/\tn<=255/\nn<=255))/\Hid (Below W0.heap.size W0 wx))
 case first=>
  cases mb with
  |false=>
   have YG:=Z9 (true=true->false=R) (fun _=>vS HQ.out (fun hq=>by have h1:=hq.1;cases h1))
   have Y6:=Z9 (true=false->(false:Bool)=true/\(0<=st/\st<=64/\0<=lo/\lo<=64)/\(0<cn/\cn<=4096/\tn<=255/\nn<=255)) (fun h=>by cases h)
   clear HQ
   go_wp2_with fail
   refine Zy.out.mono ?_;rintro e w2 ⟨rfl,hb⟩
   go_wp2_with fail
   go_meet
   exact⟨true,rfl,Z' (by first|exact YG.out|simpa using YG.out|simp),Z' (by first|exact Y6.out|simpa using Y6.out|simp),Z' hb⟩
  |true=>
  by_cases h0:st<0
  ·have e0:decide (st<0)=true:=decide_eq_true (by omega);have YG:=Z9 (true=true->false=R) (fun _=>vS HQ.out (fun hq=>by have h1:=hq.2.1;have h2:=hq.2.2.1;omega))
   have Y6:=Z9 (true=false->(true:Bool)=true/\(0<=st/\st<=64/\0<=lo/\lo<=64)/\(0<cn/\cn<=4096/\tn<=255/\nn<=255)) (fun h=>by cases h)
   clear h0;clear HQ
   go_wp2_with fail
   refine Zy.out.mono ?_;rintro e w2 ⟨rfl,hb⟩;have k3:=y8 (yW Y8.out hb) 3 rfl;have k4:=y8 (yW Y8.out hb) 4 rfl;have k5:=y8 (yW Y8.out hb) 5 rfl;have k6:=y8 (yW Y8.out hb) 6 rfl;have k7:=y8 (yW Y8.out hb) 7 rfl
   go_wp2_with fail
   go_meet
   exact⟨true,rfl,Z' (by first|exact YG.out|simpa using YG.out|simp),Z' (by first|exact Y6.out|simpa using Y6.out|simp),Z' hb⟩
  have e0:decide (st<0)=false:=decide_eq_false (by omega);by_cases h1:64<st
  ·have e1:decide ((64:Int)<st)=true:=decide_eq_true (by omega);have YG:=Z9 (true=true->false=R) (fun _=>vS HQ.out (fun hq=>by have h1:=hq.2.1;have h2:=hq.2.2.1;omega))
   have Y6:=Z9 (true=false->(true:Bool)=true/\(0<=st/\st<=64/\0<=lo/\lo<=64)/\(0<cn/\cn<=4096/\tn<=255/\nn<=255)) (fun h=>by cases h)
   clear h0 h1;clear HQ
   go_wp2_with fail
   refine Zy.out.mono ?_;rintro e w2 ⟨rfl,hb⟩;have k3:=y8 (yW Y8.out hb) 3 rfl;have k4:=y8 (yW Y8.out hb) 4 rfl;have k5:=y8 (yW Y8.out hb) 5 rfl;have k6:=y8 (yW Y8.out hb) 6 rfl;have k7:=y8 (yW Y8.out hb) 7 rfl
   go_wp2_with fail
   go_meet
   exact⟨true,rfl,Z' (by first|exact YG.out|simpa using YG.out|simp),Z' (by first|exact Y6.out|simpa using Y6.out|simp),Z' hb⟩
  have e1:decide ((64:Int)<st)=false:=decide_eq_false (by omega);by_cases h2:lo<0
  ·have e2:decide (lo<0)=true:=decide_eq_true (by omega);have YG:=Z9 (true=true->false=R) (fun _=>vS HQ.out (fun hq=>by have h1:=hq.2.1;have h2:=hq.2.2.1;omega))
   have Y6:=Z9 (true=false->(true:Bool)=true/\(0<=st/\st<=64/\0<=lo/\lo<=64)/\(0<cn/\cn<=4096/\tn<=255/\nn<=255)) (fun h=>by cases h)
   clear h0 h1 h2;clear HQ
   go_wp2_with fail
   refine Zy.out.mono ?_;rintro e w2 ⟨rfl,hb⟩;have k3:=y8 (yW Y8.out hb) 3 rfl;have k4:=y8 (yW Y8.out hb) 4 rfl;have k5:=y8 (yW Y8.out hb) 5 rfl;have k6:=y8 (yW Y8.out hb) 6 rfl;have k7:=y8 (yW Y8.out hb) 7 rfl
   go_wp2_with fail
   go_meet
   exact⟨true,rfl,Z' (by first|exact YG.out|simpa using YG.out|simp),Z' (by first|exact Y6.out|simpa using Y6.out|simp),Z' hb⟩
  have e2:decide (lo<0)=false:=decide_eq_false (by omega);by_cases h3:64<lo
  ·have e3:decide ((64:Int)<lo)=true:=decide_eq_true (by omega);have YG:=Z9 (true=true->false=R) (fun _=>vS HQ.out (fun hq=>by have h1:=hq.2.1;have h2:=hq.2.2.1;omega))
   have Y6:=Z9 (true=false->(true:Bool)=true/\(0<=st/\st<=64/\0<=lo/\lo<=64)/\(0<cn/\cn<=4096/\tn<=255/\nn<=255)) (fun h=>by cases h)
   clear h0 h1 h2 h3;clear HQ
   go_wp2_with fail
   refine Zy.out.mono ?_;rintro e w2 ⟨rfl,hb⟩;have k3:=y8 (yW Y8.out hb) 3 rfl;have k4:=y8 (yW Y8.out hb) 4 rfl;have k5:=y8 (yW Y8.out hb) 5 rfl;have k6:=y8 (yW Y8.out hb) 6 rfl;have k7:=y8 (yW Y8.out hb) 7 rfl
   go_wp2_with fail
   go_meet
   exact⟨true,rfl,Z' (by first|exact YG.out|simpa using YG.out|simp),Z' (by first|exact Y6.out|simpa using Y6.out|simp),Z' hb⟩
  have e3:decide ((64:Int)<lo)=false:=decide_eq_false (by omega);by_cases h4:cn<1
  ·have e4:decide ((cn:Int)<1)=true:=decide_eq_true (by omega);have YG:=Z9 (true=true->false=R) (fun _=>vS HQ.out (fun hq=>by have h1:=hq.2.1;have h2:=hq.2.2.1;omega))
   have Y6:=Z9 (true=false->(true:Bool)=true/\(0<=st/\st<=64/\0<=lo/\lo<=64)/\(0<cn/\cn<=4096/\tn<=255/\nn<=255)) (fun h=>by cases h)
   clear h0 h1 h2 h3 h4;clear HQ
   go_wp2_with fail
   refine Zy.out.mono ?_;rintro e w2 ⟨rfl,hb⟩;have k3:=y8 (yW Y8.out hb) 3 rfl;have k4:=y8 (yW Y8.out hb) 4 rfl;have k5:=y8 (yW Y8.out hb) 5 rfl;have k6:=y8 (yW Y8.out hb) 6 rfl;have k7:=y8 (yW Y8.out hb) 7 rfl
   go_wp2_with fail
   go_meet
   exact⟨true,rfl,Z' (by first|exact YG.out|simpa using YG.out|simp),Z' (by first|exact Y6.out|simpa using Y6.out|simp),Z' hb⟩
  have e4:decide ((cn:Int)<1)=false:=decide_eq_false (by omega);by_cases h5:4096<cn
  ·have e5:decide ((4096:Int)<cn)=true:=decide_eq_true (by omega);have YG:=Z9 (true=true->false=R) (fun _=>vS HQ.out (fun hq=>by have h1:=hq.2.1;have h2:=hq.2.2.1;omega))
   have Y6:=Z9 (true=false->(true:Bool)=true/\(0<=st/\st<=64/\0<=lo/\lo<=64)/\(0<cn/\cn<=4096/\tn<=255/\nn<=255)) (fun h=>by cases h)
   clear h0 h1 h2 h3 h4 h5;clear HQ
   go_wp2_with fail
   refine Zy.out.mono ?_;rintro e w2 ⟨rfl,hb⟩;have k3:=y8 (yW Y8.out hb) 3 rfl;have k4:=y8 (yW Y8.out hb) 4 rfl;have k5:=y8 (yW Y8.out hb) 5 rfl;have k6:=y8 (yW Y8.out hb) 6 rfl;have k7:=y8 (yW Y8.out hb) 7 rfl
   go_wp2_with fail
   go_meet
   exact⟨true,rfl,Z' (by first|exact YG.out|simpa using YG.out|simp),Z' (by first|exact Y6.out|simpa using Y6.out|simp),Z' hb⟩
  have e5:decide ((4096:Int)<cn)=false:=decide_eq_false (by omega);by_cases h6:255<tn
  ·have e6:decide ((255:Int)<tn)=true:=decide_eq_true (by omega);have YG:=Z9 (true=true->false=R) (fun _=>vS HQ.out (fun hq=>by have h1:=hq.2.1;have h2:=hq.2.2.1;omega))
   have Y6:=Z9 (true=false->(true:Bool)=true/\(0<=st/\st<=64/\0<=lo/\lo<=64)/\(0<cn/\cn<=4096/\tn<=255/\nn<=255)) (fun h=>by cases h)
   clear h0 h1 h2 h3 h4 h5 h6;clear HQ
   go_wp2_with fail
   refine Zy.out.mono ?_;rintro e w2 ⟨rfl,hb⟩;have k3:=y8 (yW Y8.out hb) 3 rfl;have k4:=y8 (yW Y8.out hb) 4 rfl;have k5:=y8 (yW Y8.out hb) 5 rfl;have k6:=y8 (yW Y8.out hb) 6 rfl;have k7:=y8 (yW Y8.out hb) 7 rfl
   go_wp2_with fail
   go_meet
   exact⟨true,rfl,Z' (by first|exact YG.out|simpa using YG.out|simp),Z' (by first|exact Y6.out|simpa using Y6.out|simp),Z' hb⟩
  have e6:decide ((255:Int)<tn)=false:=decide_eq_false (by omega);by_cases h7:255<nn
  ·have e7:decide ((255:Int)<nn)=true:=decide_eq_true (by omega);have YG:=Z9 (true=true->false=R) (fun _=>vS HQ.out (fun hq=>by have h1:=hq.2.1;have h2:=hq.2.2.1;omega))
   have Y6:=Z9 (true=false->(true:Bool)=true/\(0<=st/\st<=64/\0<=lo/\lo<=64)/\(0<cn/\cn<=4096/\tn<=255/\nn<=255)) (fun h=>by cases h)
   clear h0 h1 h2 h3 h4 h5 h6 h7;clear HQ
   go_wp2_with fail
   refine Zy.out.mono ?_;rintro e w2 ⟨rfl,hb⟩;have k3:=y8 (yW Y8.out hb) 3 rfl;have k4:=y8 (yW Y8.out hb) 4 rfl;have k5:=y8 (yW Y8.out hb) 5 rfl;have k6:=y8 (yW Y8.out hb) 6 rfl;have k7:=y8 (yW Y8.out hb) 7 rfl
   go_wp2_with fail
   go_meet
   exact⟨true,rfl,Z' (by first|exact YG.out|simpa using YG.out|simp),Z' (by first|exact Y6.out|simpa using Y6.out|simp),Z' hb⟩
  have e7:decide ((255:Int)<nn)=false:=decide_eq_false (by omega)
  have YG:=Z9 (false=true->false=R) (fun h=>by cases h)
  have Y6:=Z9 (false=false->(true:Bool)=true/\(0<=st/\st<=64/\0<=lo/\lo<=64)/\(0<cn/\cn<=4096/\tn<=255/\nn<=255)) (fun _=>⟨rfl,⟨by omega,by omega,by omega,by omega⟩,by omega,by omega,by omega,by omega⟩);clear h0 h1 h2 h3 h4 h5 h6 h7;clear HQ
  go_wp2_with fail
  refine Zy.out.mono ?_;rintro e w2 ⟨rfl,hb⟩;have k3:=y8 (yW Y8.out hb) 3 rfl;have k4:=y8 (yW Y8.out hb) 4 rfl;have k5:=y8 (yW Y8.out hb) 5 rfl;have k6:=y8 (yW Y8.out hb) 6 rfl;have k7:=y8 (yW Y8.out hb) 7 rfl
  go_wp2_with fail
  go_meet
  exact⟨false,rfl,Z' (by first|exact YG.out|simpa using YG.out|simp),Z' (by first|exact Y6.out|simpa using Y6.out|simp),Z' hb⟩
 obtain⟨bad,rfl,QG,Tz,HB⟩:=hcut;have ZM:=Z7 Zp HB.out;have Y3:=Z' (yW Y8.out HB.out);clear k0 k1 k2 Zy HB Zp Y8;have k6:=y8 Y3.out 6 rfl
 cases bad with
 |true=>
  have HF:=Z' (QG.out rfl)
  go_wp2_with fail
  go_ret;exact yS.of HF.out ZM.out
 |false=>
 have VJ:=Z' (Tz.out rfl);clear QG Tz
 go_wp2_with fail
 clear k6
 go_loopg [65] tn (fun gn i wr=>∃j:Nat,j<=tn/\gn=tn-j/\i= .int .i64 j/\Hid ((traps.take j).all (we L)=true)/\Hid (Below w.heap.size w wr)/\Hid (wr.heap[bm]? =some (.cells #[.int .i64 fl,.int .i64 nm,.int .i64 ds,.int .i64 st,.int .i64 lo,.slice ca cn cc,.slice ta tn tc,.slice na nn nc] 65)))
 case atStart=>exact⟨0,by omega,by omega,by go_num,Z' (by simp),ZM,Y3⟩
 clear ZM Y3;obtain⟨j,hj,rfl,rfl,HA,HB,HT⟩:=hrel;by_cases ZX:j<tn
 ·obtain⟨b,off,x,rfl,_,hv,q⟩:=Ss.getC (HM.out.traps.below HB.out) j ZX
  have HN:=Z' (fun(h:we L x=false)=>show false=R from vS HQ.out (fun hq=>by have h2:=hq.2.2.2.1;rw[rW hv h]at h2;cases h2))
  have HY:=Z' (fun(h:we L x=true)=>show(traps.take (j+1)).all (we L)=true by rw[tX _ _ _ _ hv,HA.out,h];rfl);obtain⟨fr,tt,pl,cl⟩:=x;have TJ:=Z9 (we L ⟨fr,tt,pl,cl⟩=([fr,tt,pl].all xe&&(decide (cl=0)||clsOk L cl))) rfl;have q0:wr.cell? ⟨b,off+j*4,none⟩=some (.int .i64 fr):=q 0 (by omega);have q1:wr.cell? ⟨b,off+j*4+1,none⟩=some (.int .i64 tt):=q 1 (by omega);have q2:wr.cell? ⟨b,off+j*4+2,none⟩=some (.int .i64 pl):=q 2 (by omega);have q3:wr.cell? ⟨b,off+j*4+3,none⟩=some (.int .i64 cl):=q 3 (by omega);clear q hv;have ZY:Below wr.heap.size wr (wr.alloc (.cells #[.int .i64 fr,.int .i64 tt,.int .i64 pl,.int .i64 cl] 123)):=yV _ _;have HX:=Z' (heap_alloc_last wr (.cells #[.int .i64 fr,.int .i64 tt,.int .i64 pl,.int .i64 cl] 123));have ZT:=Z7 HB ZY;have Y':=Z' (yW HT.out ZY);have XZ:(j:Int)<tn:=by omega
  go_upto_region 6 with fail
  clear q0 q1 q2 q3 ZY HB HT;generalize wr.alloc _=W1 at*;generalize wr.heap.size=bt at*;have k0:=y8 HX.out 0 rfl;have k1:=y8 HX.out 1 rfl;have k2:=y8 HX.out 2 rfl;have k3:=y8 HX.out 3 rfl;have Zn:Below W1.heap.size W1 (W1.alloc (.cells #[.int .i64 fr,.int .i64 tt,.int .i64 pl] 3)):=yV _ _;have T':=Z' (ir (W1.alloc (.cells #[.int .i64 fr,.int .i64 tt,.int .i64 pl] 3)) _ 3 3 [fr,tt,pl] (Sl.litZ W1 3 [fr,tt,pl] 3 rfl) (by decide));generalize [fr,tt,pl].all xe=wd at*
  cases wd with
  |false=>
   have HF:=Z' (HN.out (by rw[TJ.out];rfl))
   go_wp2_with fail
   refine T'.out.mono ?_;rintro e w2 ⟨rfl,hb⟩;have ZG:=Z' (ZT.out.trans ((Zn.trans (hb.mono Zn.size)).mono ZT.out.size))
   go_wp2_with fail
   go_ret;exact yS.of HF.out ZG.out
  |true=>
  rw[Bool.true_and]at TJ;by_cases h0:cl=0
  ·have e0:(cl !=0)=false:=by simp[h0]
   have HF:=Z' (HY.out (by rw[TJ.out];simp[h0]));clear h0 HN HY TJ
   go_wp2_with fail
   refine T'.out.mono ?_;rintro e w2 ⟨rfl,hb⟩;have Y1:=Zn.trans (hb.mono Zn.size);have ZG:=Z7 ZT Y1;have VF:=Z' (yW Y'.out Y1);have k3:=y8 (yW HX.out Y1) 3 rfl;clear k0 k1 k2 hb Zn Y1
   go_wp2_with fail
   go_roundg (tn-(j+1))
   case measure=>omega
   exact⟨j+1,by omega,rfl,by go_num,HF,ZG,VF⟩
  have e0:(cl !=0)=true:=by simp[h0]
  have TJ:=Z' (show we L ⟨fr,tt,pl,cl⟩=clsOk L cl by rw[TJ.out];simp[h0]);rw[TJ.out]at HN HY;clear h0 TJ
  go_wp2_with fail
  refine T'.out.mono ?_;rintro e w2 ⟨rfl,hb⟩;have Y1:=Zn.trans (hb.mono Zn.size);have ZG:=Z7 ZT Y1;have VF:=Z' (yW Y'.out Y1);have k3:=y8 (yW HX.out Y1) 3 rfl;have HC:=Z' (pF w2 a n cap L cl (HS.out.below ZG.out) hn);generalize clsOk L cl=ok at*;clear k0 k1 k2 hb Zn Y1
  go_wp2_with fail
  refine HC.out.mono ?_;rintro e w3 ⟨rfl,hb⟩;have X9:=Z7 ZG hb;have Sx:=Z' (yW VF.out hb);clear hb HC ZG VF
  cases ok with
  |false=>
   have HF:=Z' (HN.out rfl)
   go_wp2_with fail
   go_ret;exact yS.of HF.out X9.out
  |true=>
  have HF:=Z' (HY.out rfl)
  go_wp2_with fail
  go_roundg (tn-(j+1))
  case measure=>omega
  exact⟨j+1,by omega,rfl,by go_num,HF,X9,Sx⟩
 obtain rfl:tn=j:=by omega
 have RF:=Z9 (traps.all (we L)=true) (rn HA.out HM.out.traps.1);clear HA;have k7:=y8 HT.out 7 rfl
 go_wp2_with fail
 clear k7
 go_loopg [94] nn (fun gn i wr=>∃j:Nat,j<=nn/\gn=nn-j/\i= .int .i64 j/\Hid ((maps.take j).all (xc L)=true)/\Hid (Below w.heap.size w wr)/\Hid (wr.heap[bm]? =some (.cells #[.int .i64 fl,.int .i64 nm,.int .i64 ds,.int .i64 st,.int .i64 lo,.slice ca cn cc,.slice ta tn tc,.slice na nn nc] 65)))
 case atStart=>exact⟨0,by omega,by omega,by go_num,Z' (by simp),HB,HT⟩
 clear HB HT;obtain⟨j,hj,rfl,rfl,HA,HB,HT⟩:=hrel;by_cases ZX:j<nn
 ·obtain⟨b,off,x,rfl,_,hv,q⟩:=Ss.getC (HM.out.maps.below HB.out) j ZX
  have HN:=Z' (fun(h:xc L x=false)=>show false=R from vS HQ.out (fun hq=>by have h2:=hq.2.2.2.2.1;rw[rW hv h]at h2;cases h2))
  have HY:=Z' (fun(h:xc L x=true)=>show(maps.take (j+1)).all (xc L)=true by rw[tX _ _ _ _ hv,HA.out,h];rfl);have KR:=Z' (HM.out.each x (List.mem_of_getElem? hv));have QY:=Mk.out x (List.mem_of_getElem? hv);obtain⟨pl,la,ln,lc,loc,sa,sn,sc,stk⟩:=x;dsimp only at QY;obtain⟨AV,A8⟩:=QY;have Mj:=Z9 (xc L ⟨pl,la,ln,lc,loc,sa,sn,sc,stk⟩=((xe pl&&vx L 64 loc)&&vx L 64 stk)) rfl;have q0:wr.cell? ⟨b,off+j*3,none⟩=some (.int .i64 pl):=q 0 (by omega);have q1:wr.cell? ⟨b,off+j*3+1,none⟩=some (.slice la ln lc):=q 1 (by omega);have q2:wr.cell? ⟨b,off+j*3+2,none⟩=some (.slice sa sn sc):=q 2 (by omega);clear q hv;have ZY:Below wr.heap.size wr (wr.alloc (.cells #[.int .i64 pl,.slice la ln lc,.slice sa sn sc] 68)):=yV _ _;have HX:=Z' (heap_alloc_last wr (.cells #[.int .i64 pl,.slice la ln lc,.slice sa sn sc] 68));have ZT:=Z7 HB ZY;have Y':=Z' (yW HT.out ZY);have XZ:(j:Int)<nn:=by omega
  go_upto_region 12 with fail
  clear q0 q1 q2 ZY HB HT;generalize wr.alloc _=W1 at*;generalize wr.heap.size=bt at*;have k0:=y8 HX.out 0 rfl;have Zn:Below W1.heap.size W1 (W1.alloc (.cells #[.int .i64 pl] 3)):=yV _ _;have T':=ir (W1.alloc (.cells #[.int .i64 pl] 3)) _ 1 1 [pl] (Sl.litZ W1 1 [pl] 3 rfl) (by decide);rw[show [pl].all xe=xe pl by simp]at T';replace T':=Z' T';have XA:=Z' (fun w' (hb:Below w.heap.size w w')=>iY w' a n cap L la ln lc loc 64 (HS.out.below hb) hn (KR.out.loc.below hb) AV);have UL:=Z' (fun w' (hb:Below w.heap.size w w')=>iY w' a n cap L sa sn sc stk 64 (HS.out.below hb) hn (KR.out.stk.below hb) A8);rw[Mj.out]at HN HY;clear Mj;generalize xe pl=wd at*;generalize vx L 64 loc=s1 at*;generalize vx L 64 stk=s2 at*
  cases wd with
  |false=>
   have HF:=Z' (HN.out rfl)
   go_wp2_with fail
   refine T'.out.mono ?_;rintro e w2 ⟨rfl,hb⟩;have ZG:=Z' (ZT.out.trans ((Zn.trans (hb.mono Zn.size)).mono ZT.out.size))
   go_wp2_with fail
   go_ret;exact yS.of HF.out ZG.out
  |true=>
  go_wp2_with fail
  refine T'.out.mono ?_;rintro e w2 ⟨rfl,hb⟩;have Y1:=Zn.trans (hb.mono Zn.size);have ZG:=Z7 ZT Y1;have VF:=Z' (yW Y'.out Y1);have YD:=Z' (yW HX.out Y1);have k1:=y8 YD.out 1 rfl;clear k0 hb Zn Y1 HX Y' ZT T'
  go_wp2_with fail
  refine(XA.out w2 ZG.out).mono ?_;rintro e w3 ⟨rfl,hb⟩;have YY:=Z7 ZG hb;have Xq:=Z' (yW VF.out hb);have Qc:=Z' (yW YD.out hb);clear hb k1 ZG VF YD XA;have k2:=y8 Qc.out 2 rfl
  cases s1 with
  |false=>
   have HF:=Z' (HN.out rfl)
   go_wp2_with fail
   go_ret;exact yS.of HF.out YY.out
  |true=>
  go_wp2_with fail
  refine(UL.out w3 YY.out).mono ?_;rintro e w4 ⟨rfl,hb⟩;have X9:=Z7 YY hb;have Sx:=Z' (yW Xq.out hb);clear hb k2 YY Xq Qc UL
  cases s2 with
  |false=>
   have HF:=Z' (HN.out rfl)
   go_wp2_with fail
   go_ret;exact yS.of HF.out X9.out
  |true=>
  have HF:=Z' (HY.out rfl)
  go_wp2_with fail
  go_roundg (nn-(j+1))
  case measure=>omega
  exact⟨j+1,by omega,rfl,by go_num,HF,X9,Sx⟩
 obtain rfl:nn=j:=by omega
 have Hd:=Z9 (maps.all (xc L)=true) (rn HA.out HM.out.maps.1);clear HA;have UC:=Z' (iP wr a n cap L wJ (HS.out.below HB.out) hn);have YF:=Z' (fun w' (hb:Below w.heap.size w w')=>iP w' a n cap L wH (HS.out.below hb) hn);unfold d6 at HQ;generalize xm L wJ=f1 at*;generalize xm L wH=f2 at*;unfold wJ at UC;unfold wH at YF;have k7:=y8 HT.out 7 rfl;by_cases h1:0<f1
 ·have e1:decide ((0:Int)<(f1:Int))=true:=by simp;omega
  by_cases h2:nn=0
  ·have e2:((nn:Int)==0)=true:=by simp[h2]
   have HF:=Z' (kE HQ.out ⟨VJ.out.1,VJ.out.2.1,VJ.out.2.2,RF.out,Hd.out,h1,.inl h2⟩);clear h2
   go_wp2_with fail
   refine UC.out.mono ?_;rintro e w2 ⟨rfl,hb⟩;have k7:=y8 (yW HT.out hb) 7 rfl
   go_wp2_with fail
   go_ret;exact yS.of HF.out (HB.out.trans (hb.mono HB.out.size))
  have e2:((nn:Int)==0)=false:=by simp[h2]
  go_wp2_with fail
  refine UC.out.mono ?_;rintro e w2 ⟨rfl,hb⟩;have ZG:=Z7 HB hb;have k7:=y8 (yW HT.out hb) 7 rfl
  go_wp2_with fail
  refine(YF.out w2 ZG.out).mono ?_;rintro e w3 ⟨rfl,hb⟩;have YY:=Z7 ZG hb;by_cases h3:0<f2
  ·have HF:=Z' (kE HQ.out ⟨VJ.out.1,VJ.out.2.1,VJ.out.2.2,RF.out,Hd.out,h1,.inr h3⟩);have e3:decide ((0:Int)<(f2:Int))=true:=by simp;omega
   go_wp2_with fail
   go_ret;exact yS.of HF.out YY.out
  have HF:=Z' (vS HQ.out (fun hq=>by have h4:=hq.2.2.2.2.2.2;omega));have e3:decide ((0:Int)<(f2:Int))=false:=by simp;omega
  go_wp2_with fail
  go_ret;exact yS.of HF.out YY.out
 have e1:decide ((0:Int)<(f1:Int))=false:=by simp;omega
 have HF:=Z' (vS HQ.out (fun hq=>by have h4:=hq.2.2.2.2.2.1;omega))
 go_wp2_with fail
 refine UC.out.mono ?_;rintro e w2 ⟨rfl,hb⟩
 go_wp2_with fail
 go_ret;exact yS.of HF.out (HB.out.trans (hb.mono HB.out.size))
end
end Go.Proofs.YtclpkipaehpkdaaGreatDoor
