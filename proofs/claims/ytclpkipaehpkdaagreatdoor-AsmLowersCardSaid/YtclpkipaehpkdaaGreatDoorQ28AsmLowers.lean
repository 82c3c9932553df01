/- asm -/
import Derived.Test.YtclpkipaehpkdaaGreatDoorQ25AsmLowers
set_option linter.unusedVariables false
set_option linter.unusedSimpArgs false
set_option maxRecDepth 100000
set_option maxHeartbeats 64000000
namespace Go.Proofs.YtclpkipaehpkdaaGreatDoor
section
open Go.ChangeShapes Go.WideShapes Go.ChangeAt Go.RowKit
def B9j(x:IN):Nat:=(x.cl.length+x.nm.length+x.ds.length+x.tx.length)/100
def C2k(t:UT):Nat:=t.cl.length/100
def C7m(t:List UInt8):Nat:=t.length/100
def B0z(p:UP):Nat:=1+p.ln+p.sn+((p.loc++p.stk).map C7m).sum
def B3y(m:UM):Nat:=1+m.cn+m.tn+(m.nm.length+m.ds.length)/50+(m.code.map B9j).sum+(m.traps.map C2k).sum+(m.maps.map B0z).sum
def B3s(f:UF):Nat:=1+(f.nm.length+f.ds.length)/50
def C5n(u:UU):Nat:=(u.fields.map B3s).sum+(u.methods.map B3y).sum
def E3t(u:UU):Prop:=u.fn<=70/\u.mn<=40/\u.nm.length+u.su.length<=300/\C5n u<=600
theorem B0v{α:Type}{l:List α}{j:Nat}{x:α}(f:α->Nat)(h:l[j]? =some x):((l.take (j+1)).map f).sum=((l.take j).map f).sum+f x:=by
 obtain⟨hj,he⟩:=gsz h;rw[List.take_succ_eq_append_getElem hj,he];simp
theorem D4v(w:World)(u:UU)(h:u.Rd w)(hb:u.Big):
  Calls Tryz.prog 13 #[.agg u.cells.toArray] w (C5x (E3t u) w):=by
 obtain⟨P,hP⟩:=exz (E3t u);rw[<-hP];have HX:=hzz h;have HBG:=hzz hb;have hfn:=hb.fn;have hmn:=hb.mn;have hnm:=hb.nm;have hsu:=hb.su;have HLF:=hzz h.fields.1;have HLM:=hzz h.methods.1
 have HP:=hzz (show P=(u.fn<=70/\u.mn<=40/\u.nm.length+u.su.length<=300/\C5n u<=600)from hP);clear h hb hP
 have hal:=A0f w (.cells #[.string ⟨u.nm.toArray⟩,.string ⟨u.su.toArray⟩,.slice u.fa u.fn u.fc,.slice u.ma u.mn u.mc] A2k)
 have HI0:=hzz (heap_alloc_last w (.cells #[.string ⟨u.nm.toArray⟩,.string ⟨u.su.toArray⟩,.slice u.fa u.fn u.fc,.slice u.ma u.mn u.mc] A2k));have HB0:=hzz hal;clear hal
 change Calls Tryz.prog 13 #[.agg #[.string ⟨u.nm.toArray⟩,.string ⟨u.su.toArray⟩,.slice u.fa u.fn u.fc,.slice u.ma u.mn u.mc]] w (C5x P w);go_enter Tryz.func13,Tryz.ntmps13
 go_upto_region 1 with fail
 generalize w.alloc _=W0 at*;have c0:=A0a HI0.out 0 rfl;have c1:=A0a HI0.out 1 rfl;have c2:=A0a HI0.out 2 rfl;have c3:=A0a HI0.out 3 rfl;by_cases h1:70<u.fn
 ·have ed:decide ((70:Int)<u.fn)=true:=by simp;omega
  go_wp2_with fail
  go_ret;exact C5x.no rfl HB0.out
 have ed:decide ((70:Int)<u.fn)=false:=by simp;omega
 by_cases h2:40<u.mn
 ·have ee:decide ((40:Int)<u.mn)=true:=by simp;omega
  go_wp2_with fail
  go_ret;exact C5x.no rfl HB0.out
 have ee:decide ((40:Int)<u.mn)=false:=by simp;omega
 by_cases h3:300<u.nm.length+u.su.length
 ·have ef:decide ((300:Int)<(u.nm.length:Int)+u.su.length)=true:=by simp;omega
  have eg:decide (300<u.nm.length+u.su.length)=true:=by simp;omega
  have eh:decide ((300:Int)<((u.nm.length+u.su.length:Nat):Int))=true:=by simp;omega
  go_wp2_with fail
  go_ret;exact C5x.no rfl HB0.out
 have ef:decide ((300:Int)<(u.nm.length:Int)+u.su.length)=false:=by simp;omega
 have eg:decide (300<u.nm.length+u.su.length)=false:=by simp;omega
 have eh:decide ((300:Int)<((u.nm.length+u.su.length:Nat):Int))=false:=by simp;omega
 have HH1:=hzz (And.intro h1 (And.intro h2 h3));clear h3
 go_wp2_with fail
 clear ef eg eh
 go_loopg [3,39] u.fn (fun gn left i wr=>∃(j c:Nat),j<=u.fn/\gn=u.fn-j/\left= .int .i64 (600-(c:Int))/\i= .int .i64 j/\Hid (c=((u.fields.take j).map B3s).sum)/\c<=j*5700000000000/\Hid (Below W0.heap.size W0 wr))
 case atStart=>exact⟨0,0,by omega,by omega,by go_num,by go_num,hzz (by simp),by omega,hzz brz⟩
 clear c0 c1 c2 c3;obtain⟨j,c,hj,rfl,rfl,rfl,HC,hcb,HB⟩:=hrel;by_cases hlt:j<u.fn
 ·have hj1:(j:Int)<u.fn:=by omega
  have HS:=hzz (HX.out.below (HB0.out.trans (HB.out.mono HB0.out.size))).fields;obtain⟨bq,ofq,f,hbq,hbl,hs,q⟩:=HS.out.getC j hlt;have q0:=q 0 (by omega);have q1:=q 1 (by omega)
  have q2:=q 2 (by omega);rw[Nat.add_zero]at q0;simp only[UF.cells,List.getElem?_cons_zero,List.getElem?_cons_succ]at q0 q1 q2;have HTK:=hzz (B0v B3s hs)
  obtain⟨k1,k2⟩:=HBG.out.fd f (List.mem_of_getElem? hs);obtain⟨d,hd⟩:∃d,d=(f.nm.length+f.ds.length)/50:=⟨_,rfl⟩;have HD:=hzz (show B3s f=1+d by rw[hd];rfl)
  have hdb:d<=5629499534050:=by omega
  have hq:Int.tdiv ((f.nm.length:Int)+f.ds.length) 50=(d:Int):=by rw[hd,Int.tdiv_eq_ediv_of_nonneg (by omega)];omega
  have hq2:((f.nm.length:Int)+f.ds.length)/50=(d:Int):=by rw[hd];omega
  have hq3:(f.nm.length+f.ds.length)/50=d:=hd.symm;clear hs q hlt HS hd
  go_wp2_with fail
  go_roundg (u.fn-(j+1))
  case measure=>omega
  exact⟨j+1,c+(1+d),by omega,rfl,by go_num,by go_num,hzz (by rw[HTK.out,HD.out,<-HC.out]),by omega,hzz (HB.out.alloc HB.out.size _)⟩
 have hje:j=u.fn:=by omega
 have hfull:u.fields.take j=u.fields:=List.take_of_length_le (by rw[HLF.out];omega);have HCF:=hzz (show c=(u.fields.map B3s).sum by rw[HC.out,hfull]);have hnl:¬((j:Int)<u.fn):=by omega
 have hcb2:c<=400000000000000:=by omega
 clear hje hfull HC;have HI1:=hzz (A0c HI0.out HB.out);have m3:=A0a HI1.out 3 rfl
 go_wp2_with fail
 go_loopg [3,58] u.mn (fun gn left i wr=>∃(jm c:Nat),jm<=u.mn/\gn=u.mn-jm/\left= .int .i64 (600-(c:Int))/\i= .int .i64 jm/\Hid (c=(u.fields.map B3s).sum+((u.methods.take jm).map B3y).sum)/\(c<=400000000000000\/c<=600)/\Hid (Below W0.heap.size W0 wr))
 case atStart=>exact⟨0,c,by omega,by omega,by go_num,by go_num,hzz (by simp[HCF.out]),.inl hcb2,HB⟩
 clear hcb hcb2 HCF HB HI1 m3 hnl;obtain⟨jm,cm,hjm,rfl,rfl,rfl,HC,hcb,HB⟩:=hrel;replace hcb:cm<=400000000000000:=by omega
 by_cases hlt:jm<u.mn
 ·have hj1:(jm:Int)<u.mn:=by omega
  have HBW:=btz HB0 HB.out;have HS:=hzz (HX.out.below HBW.out).methods;obtain⟨bq,ofq,m,hbq,hbl,hs,q⟩:=HS.out.getC jm hlt;have q0:=q 0 (by omega);have q1:=q 1 (by omega)
  have q2:=q 2 (by omega);have q3:=q 3 (by omega);have q4:=q 4 (by omega);have q5:=q 5 (by omega);have q6:=q 6 (by omega);have q7:=q 7 (by omega);rw[Nat.add_zero]at q0
  simp only[UM.cells,List.getElem?_cons_zero,List.getElem?_cons_succ]at q0 q1 q2 q3 q4 q5 q6 q7;have HTK:=hzz (B0v B3y hs);have HMM:=hzz (List.mem_of_getElem? hs)
  have HMB:=hzz (HBG.out.mt m HMM.out);have hcn:=HMB.out.cn;have htn:=HMB.out.tn;have hnm1:=HMB.out.nm;have hds1:=HMB.out.ds;obtain⟨d,hd⟩:∃d,d=(m.nm.length+m.ds.length)/50:=⟨_,rfl⟩
  have hdb:d<=5629499534050:=by omega
  have hq:Int.tdiv ((m.nm.length:Int)+m.ds.length) 50=(d:Int):=by rw[hd,Int.tdiv_eq_ediv_of_nonneg (by omega)];omega
  have hq3:(m.nm.length+m.ds.length)/50=d:=hd.symm;have HD:=hzz hd;clear hs q hlt HS hd
  go_upto_region 12 with fail
  have hal:=A0f wr (.cells #[.bool m.st,.string ⟨m.nm.toArray⟩,.string ⟨m.ds.toArray⟩,.int .i64 m.sk,.int .i64 m.lo,.slice m.ca m.cn m.cc,.slice m.ta m.tn m.tc,.slice m.ma m.mn m.mc] A0w)
  have HBA:=btz HB hal
  have HGM:=hzz (show(wr.alloc (.cells #[.bool m.st,.string ⟨m.nm.toArray⟩,.string ⟨m.ds.toArray⟩,.int .i64 m.sk,.int .i64 m.lo,.slice m.ca m.cn m.cc,.slice m.ta m.tn m.tc,.slice m.ma m.mn m.mc] A0w)).heap[wr.heap.size]? =some (.cells m.cells.toArray A0w (0,0))from heap_alloc_last wr _)
  have HMR:=hzz ((HX.out.below (HBW.out.trans (hal.mono HBW.out.size))).each m HMM.out);clear hal HB HBW q0 q1 q2 q3 q4 q5 q6 q7 hbq hbl;generalize wr.alloc _=w6 at*;generalize wr.heap.size=gm at*
  have p1:=A0a HGM.out 1 rfl;have p2:=A0a HGM.out 2 rfl;have p5:=A0a HGM.out 5 rfl;have p6:=A0a HGM.out 6 rfl;dsimp only[UM.cells]at p1 p2 p5 p6
  by_cases h4:600<cm+1+m.cn+m.tn+d
  ·have e4:decide (600-(cm:Int) -1-m.cn-m.tn-d<0)=true:=by simp;omega
   go_wp2_with fail
   go_ret;exact C5x.no rfl (HB0.out.trans (HBA.out.mono HB0.out.size))
  have e4:decide (600-(cm:Int) -1-m.cn-m.tn-d<0)=false:=by simp;omega
  have HR:=hzz HMR.out.code.1;have HR2:=hzz HMR.out.traps.1;have HR3:=hzz HMR.out.maps.1;have hc6:m.cn<=600:=by omega
  have ht6:m.tn<=600:=by omega
  obtain⟨c1,hc1⟩:=exz (cm+1+m.cn+m.tn+d);have hc16:c1<=600:=by omega
  have HC1:=hzz hc1
  go_wp2_with fail
  go_loopg [3,86] m.cn (fun gn left i wx=>∃(k c:Nat),k<=m.cn/\gn=m.cn-k/\left= .int .i64 (600-(c:Int))/\i= .int .i64 k/\Hid (c=c1+((m.code.take k).map B9j).sum)/\c<=600+k*5700000000000/\Hid (Below w6.heap.size w6 wx))
  case atStart=>exact⟨0,c1,by omega,by omega,(by rw[hc1];go_num),by go_num,hzz (by simp),by omega,hzz brz⟩
  clear p1 p2 p5 p6 hq hq3 e4 hc1;obtain⟨k,c,hk,rfl,rfl,rfl,HCK,hck,HBK⟩:=hrel;by_cases hlk:k<m.cn
  ·have hk1:(k:Int)<m.cn:=by omega
   have HS:=hzz (HMR.out.below HBK.out).code;obtain⟨bq,ofq,x,hbq,hbl,hs,q⟩:=HS.out.getC k hlk;have q0:=q 0 (by omega);have q1:=q 1 (by omega);have q2:=q 2 (by omega)
   have q3:=q 3 (by omega);have q4:=q 4 (by omega);have q5:=q 5 (by omega);have q6:=q 6 (by omega);rw[Nat.add_zero]at q0
   simp only[IN.cells,List.getElem?_cons_zero,List.getElem?_cons_succ]at q0 q1 q2 q3 q4 q5 q6;have HTX:=hzz (B0v B9j hs);have HXB:=hzz (HMB.out.ins x (List.mem_of_getElem? hs))
   have x1:=HXB.out.cl;have x2:=HXB.out.nm;have x3:=HXB.out.ds;have x4:=HXB.out.tx;obtain⟨y,hy⟩:∃y,y=(x.cl.length+x.nm.length+x.ds.length+x.tx.length)/100:=⟨_,rfl⟩
   have HY:=hzz (show B9j x=y from hy.symm);have hyb:y<=5629499534050:=by omega
   have hz:Int.tdiv ((x.cl.length:Int)+x.nm.length+x.ds.length+x.tx.length) 100=(y:Int):=by rw[hy,Int.tdiv_eq_ediv_of_nonneg (by omega)];omega
   have hz3:(x.cl.length+x.nm.length+x.ds.length+x.tx.length)/100=y:=hy.symm;clear hs q hlk HS hy
   go_wp2_with fail
   go_roundg (m.cn-(k+1))
   case measure=>omega
   exact⟨k+1,c+y,by omega,rfl,by go_num,by go_num,hzz (by rw[HTX.out,HY.out,HCK.out];omega),by omega,hzz (HBK.out.alloc HBK.out.size _)⟩
  have hke:k=m.cn:=by omega
  have hfull:m.code.take k=m.code:=List.take_of_length_le (by rw[HR.out];omega);have HCX:=hzz (show c=c1+(m.code.map B9j).sum by rw[HCK.out,hfull]);have hnk:¬((k:Int)<m.cn):=by omega
  have hcx:c<=4000000000000000:=by omega
  clear hke hfull HCK;have HG2:=hzz (A0c HGM.out HBK.out);have p6:=A0a HG2.out 6 rfl;dsimp only[UM.cells]at p6
  go_wp2_with fail
  go_loopg [3,112] m.tn (fun gn left i wx=>∃(kt ct:Nat),kt<=m.tn/\gn=m.tn-kt/\left= .int .i64 (600-(ct:Int))/\i= .int .i64 kt/\Hid (ct=c+((m.traps.take kt).map C2k).sum)/\ct<=4000000000000000+kt*1500000000000/\Hid (Below w6.heap.size w6 wx))
  case atStart=>exact⟨0,c,by omega,by omega,by go_num,by go_num,hzz (by simp),by omega,HBK⟩
  clear p6 HG2 hck;obtain⟨kt,ct,hkt,rfl,rfl,rfl,HCT,hct,HBT⟩:=hrel;by_cases hlt2:kt<m.tn
  ·have hk1:(kt:Int)<m.tn:=by omega
   have HS:=hzz (HMR.out.below HBT.out).traps;obtain⟨bq,ofq,x,hbq,hbl,hs,q⟩:=HS.out.getC kt hlt2;have q0:=q 0 (by omega);have q1:=q 1 (by omega);have q2:=q 2 (by omega)
   have q3:=q 3 (by omega);rw[Nat.add_zero]at q0;simp only[UT.cells,List.getElem?_cons_zero,List.getElem?_cons_succ]at q0 q1 q2 q3;have HTX:=hzz (B0v C2k hs)
   have x1:=HMB.out.tr x (List.mem_of_getElem? hs);obtain⟨y,hy⟩:=exz (x.cl.length/100);have HY:=hzz (show C2k x=y from hy.symm);have hyb:y<=1407374883513:=by omega
   have hz:Int.tdiv (x.cl.length:Int) 100=(y:Int):=by rw[hy,Int.tdiv_eq_ediv_of_nonneg (by omega)];omega
   have hz3:x.cl.length/100=y:=hy.symm;clear hs q hlt2 HS hy
   go_wp2_with fail
   go_roundg (m.tn-(kt+1))
   case measure=>omega
   exact⟨kt+1,ct+y,by omega,rfl,by go_num,by go_num,hzz (by rw[HTX.out,HY.out,HCT.out];omega),by omega,hzz (HBT.out.alloc HBT.out.size _)⟩
  have hke:kt=m.tn:=by omega
  have hfull:m.traps.take kt=m.traps:=List.take_of_length_le (by rw[HR2.out];omega);have HCY:=hzz (show ct=c1+(m.code.map B9j).sum+(m.traps.map C2k).sum by rw[HCT.out,hfull,HCX.out])
  have hnk2:¬((kt:Int)<m.tn):=by omega
  have hcx2:ct<=5000000000000000:=by omega
  clear hke hfull HCT;have HG2:=hzz (A0c HGM.out HBT.out);have p7:=A0a HG2.out 7 rfl;dsimp only[UM.cells]at p7;have hmp:=HMB.out.mn
  go_wp2_with fail
  go_loopg [3,126] m.mn (fun gn left i wx=>∃(kp cp:Nat),kp<=m.mn/\gn=m.mn-kp/\left= .int .i64 (600-(cp:Int))/\i= .int .i64 kp/\Hid (cp=ct+((m.maps.take kp).map B0z).sum)/\cp<=5000000000000000/\Hid (Below w6.heap.size w6 wx))
  case atStart=>exact⟨0,ct,by omega,by omega,by go_num,by go_num,hzz (by simp),hcx2,HBT⟩
  clear p7 HG2 hct hcx2;obtain⟨kp,cp,hkp,rfl,rfl,rfl,HCP,hcp,HBP⟩:=hrel;by_cases hlp:kp<m.mn
  ·have hk1:(kp:Int)<m.mn:=by omega
   have HS:=hzz (HMR.out.below HBP.out).maps;obtain⟨bq,ofq,p,hbq,hbl,hs,q⟩:=HS.out.getC kp hlp;have q0:=q 0 (by omega);have q1:=q 1 (by omega);have q2:=q 2 (by omega);rw[Nat.add_zero]at q0
   simp only[UP.cells,List.getElem?_cons_zero,List.getElem?_cons_succ]at q0 q1 q2;have HTX:=hzz (B0v B0z hs);have HPM:=hzz (List.mem_of_getElem? hs);have HPB:=hzz (HMB.out.mp p HPM.out)
   have x1:=HPB.out.ln;have x2:=HPB.out.sn;clear hs q hlp HS
   go_upto_region 28 with fail
   have hal:=A0f wr (.cells #[.int .i64 p.pl,.slice p.la p.ln p.lc,.slice p.sa p.sn p.sc] 88);have HBQ:=btz HBP hal
   have HGP:=hzz (show(wr.alloc (.cells #[.int .i64 p.pl,.slice p.la p.ln p.lc,.slice p.sa p.sn p.sc] 88)).heap[wr.heap.size]? =some (.cells p.cells.toArray 88 (0,0))from heap_alloc_last wr _)
   clear hal HBP q0 q1 q2 hbq hbl;generalize wr.alloc _=w7 at*;generalize wr.heap.size=gp at*;have p1:=A0a HGP.out 1 rfl;have p2:=A0a HGP.out 2 rfl;dsimp only[UP.cells]at p1 p2
   by_cases h5:600<cp+1+p.ln+p.sn
   ·have e5:decide (600-(cp:Int) -1-p.ln-p.sn<0)=true:=by simp;omega
    go_wp2_with fail
    go_ret;exact C5x.no rfl (HB0.out.trans ((HBA.out.trans (HBQ.out.mono HBA.out.size)).mono HB0.out.size))
   have e5:decide (600-(cp:Int) -1-p.ln-p.sn<0)=false:=by simp;omega
   have hl6:p.ln<=600:=by omega
   have hs6:p.sn<=600:=by omega
   go_upto_region 31 with fail
   clear e5 p1 p2;have HPR:=hzz ((HMR.out.below HBQ.out).each p HPM.out)
   go_cut [148,149,150] (fun s148 s149 s150 wx=>∃(oa:Option Addr) (oc:Nat),s148= .slice oa (p.ln+p.sn) oc/\s149= .int .i64 ((p.ln+p.sn:Nat):Int)/\s150= .int .i64 0/\Hid (Below w7.heap.size w7 wx)/\Hid (Sl A6r wx oa (p.ln+p.sn) (p.loc++p.stk)))
   case first=>
    have k1:=A0a HGP.out 1 rfl;have k2:=A0a HGP.out 2 rfl;dsimp only[UP.cells]at k1 k2;have l1:=fun w' (h:Below w7.heap.size w7 w')=>A0e h k1
    have l2:=fun w' (h:Below w7.heap.size w7 w')=>A0e h k2
    clear k1 k2;have hSw:Below w7.heap.size w7 w7.drew:=brz.drew
    refine A0g (Below w7.heap.size w7) (.of [(1,true),(2,true),(4,true),(5,true),(8,true),(0,false),(3,false),(6,false),(7,true)] (.stir [])) (by kernel_rfl) (by kernel_rfl) (fun c a d v w h=>by cases d<;>exact h) ?_
    generalize w7.drew=W1 at*
    iterate 5
     refine A0b fun K hK=>tkF ?_
     go_simp
     try go_bits
     refine hK _ _ ?_;clear hK K
    refine A0b fun K hK=>alF ?_
    go_step;refine⟨hSw.trans ((A0f W1 _).mono hSw.size),hK _ _ ?_⟩;clear hK K;have HO1:=hzz (World.ownsRow_lit (base:=w7.heap.size) (e:=9) (size:=1) W1 #[] 0 hSw.size (by decide) rfl)
    replace hSw:=hSw.trans ((A0f W1 (.cells #[] 9)).mono hSw.size);generalize W1.alloc _=W2 at*;generalize W1.heap.size=ge at*;clear W1;refine A0b fun K hK=>alF ?_
    change Oper.wp _ _ _ _ _ _;have HCS:=hzz ((HPR.out.loc.below hSw).src (fun _=>rfl) Tryz.underlying86 p.lc)
    refine D0q C2g (ops:= #[]) rfl _ _ _ rfl w7.heap.size _ 0 _ rfl HO1.out _ p.ln (p.loc.map A6r) rfl HCS.out (by omega) (by unfold maxLen;omega) hSw.size ?_;intro v4 W4 hown4 _ hb4
    have HO4:=hzz hown4;clear HCS;replace hSw:=hSw.trans hb4;clear hown4 hb4 HO1;go_simp
    first|refine hK _ _ ?_|refine⟨hSw,hK _ _ ?_⟩
    clear hK K;refine A0b fun K hK=>alF ?_
    change Oper.wp _ _ _ _ _ _;have HCS:=hzz ((HPR.out.stk.below hSw).src (fun _=>rfl) Tryz.underlying86 p.sc)
    refine D0q C2g (ops:= #[]) rfl _ _ _ rfl w7.heap.size _ (0+p.ln) _ rfl HO4.out _ p.sn (p.stk.map A6r) rfl HCS.out (by omega) (by unfold maxLen;omega) hSw.size ?_;intro v5 W5 hown5 _ hb5
    have HO5:=hzz (show W5.ownsRow w7.heap.size 9 1 v5 (p.ln+p.sn) ((p.loc++p.stk).map A6r) by rw[Nat.zero_add]at hown5;rw[List.map_append];exact hown5);clear HCS
    obtain⟨a5,c5,rfl,hs5,-⟩:=Sl.ofOwn HO5.out;have HS5:=hzz hs5;replace hSw:=hSw.trans hb5;clear hown5 hb5 HO4 HO5 hs5;go_simp
    first|refine hK _ _ ?_|refine⟨hSw,hK _ _ ?_⟩
    clear hK K
    iterate 1
     refine A0b fun K hK=>tkF ?_
     go_simp
     try go_bits
     refine hK _ _ ?_;clear hK K
    refine A0k (fun y=>y=W5) (fun y hy=>by obtain rfl:y=W5:=hy;exact hSw) rfl ?_;refine A0n (fun yy hy=> ?_);obtain rfl:W5=yy:=Eq.symm hy
    go_wp2_with fail
    go_meet;exact⟨_,_,rfl,rfl,rfl,hzz hSw,HS5⟩
   obtain⟨oa,oc,rfl,rfl,rfl,HBR,HSL⟩:=hcut;obtain⟨cq0,hcq0⟩:∃c,c=cp+1+p.ln+p.sn:=⟨_,rfl⟩;have hcq6:cq0<=600:=by omega
   have HCQ:=hzz hcq0;have HLA:=hzz (show(p.loc++p.stk).length=p.ln+p.sn by rw[List.length_append,HPR.out.loc.1,HPR.out.stk.1])
   go_wp2_with fail
   go_loopg [3,150] (p.ln+p.sn) (fun gn left i wx=>∃(kq cq:Nat),kq<=p.ln+p.sn/\gn=p.ln+p.sn-kq/\left= .int .i64 (600-(cq:Int))/\i= .int .i64 kq/\Hid (cq=cq0+(((p.loc++p.stk).take kq).map C7m).sum)/\cq<=600+kq*1407374883514/\Hid (Below wc.heap.size wc wx))
   case atStart=>exact⟨0,cq0,by omega,by omega,(by rw[hcq0];go_num),by go_num,hzz (by simp),by omega,hzz brz⟩
   clear hcq0;obtain⟨kq,cq,hkq,rfl,rfl,rfl,HCS,hcq,HBS⟩:=hrel;by_cases hlq:kq<p.ln+p.sn
   ·have hk1q:(kq:Int)<(p.ln:Int)+p.sn:=by omega
    have hk2q:(kq:Int)<((p.ln+p.sn:Nat):Int):=by omega
    have HSS:=hzz (HSL.out.below HBS.out);obtain⟨bq,ofq,x,hbq,hbl,hs,q0⟩:=HSS.out.getE kq hlq;dsimp only[A6r]at q0;have HTS:=hzz (B0v C7m hs)
    have x9:x.length<=140737488351232:=by
     rcases List.mem_append.1 (List.mem_of_getElem? hs)with h|h
     ·exact HPB.out.lt x h
     exact HPB.out.st x h
    obtain⟨y,hy⟩:=exz (x.length/100);have HY:=hzz (show C7m x=y from hy.symm);have hyb:y<=1407374883513:=by omega
    have hz:Int.tdiv (x.length:Int) 100=(y:Int):=by rw[hy,Int.tdiv_eq_ediv_of_nonneg (by omega)];omega
    have hz3:x.length/100=y:=hy.symm;clear hs hlq HSS hy
    go_wp2_with fail
    go_roundg (p.ln+p.sn-(kq+1))
    case measure=>omega
    exact⟨kq+1,cq+y,by omega,rfl,by go_num,by go_num,hzz (by rw[HTS.out,HY.out,HCS.out];omega),by omega,HBS⟩
   have hke:kq=p.ln+p.sn:=by omega
   have hfull:(p.loc++p.stk).take kq=p.loc++p.stk:=List.take_of_length_le (by rw[HLA.out];omega)
   have HCV:=hzz (show cq=cp+B0z p by
    rw[HCS.out,hfull,HCQ.out];unfold B0z;omega)
   have hn1:¬((kq:Int)<(p.ln:Int)+p.sn):=by omega
   have hn2:¬((kq:Int)<((p.ln+p.sn:Nat):Int)):=by omega
   have hcx3:cq<=5000000000000000:=by omega
   clear hke hfull HCS
   go_wp2_with fail
   go_roundg (m.mn-(kp+1))
   case measure=>omega
   exact⟨kp+1,cq,by omega,rfl,rfl,by go_num,hzz (by rw[HTX.out,HCV.out,HCP.out];omega),hcx3,hzz (HBQ.out.trans ((HBR.out.trans (HBS.out.mono HBR.out.size)).mono HBQ.out.size))⟩
  have hke:kp=m.mn:=by omega
  have hfull:m.maps.take kp=m.maps:=List.take_of_length_le (by rw[HR3.out];omega)
  have HCZ:=hzz (show cp=cm+B3y m by
   rw[HCP.out,hfull,HCY.out,HC1.out,HD.out];unfold B3y;omega)
  have hnk3:¬((kp:Int)<m.mn):=by omega
  clear hke hfull HCP;by_cases h8:cp<=600
  ·have e8:decide (600-(cp:Int)<0)=false:=by simp;omega
   have e8b:decide ((600:Int)<cp)=false:=by simp;omega
   go_wp2_with fail
   go_roundg (u.mn-(jm+1))
   case measure=>omega
   exact⟨jm+1,cp,by omega,rfl,rfl,by go_num,hzz (by rw[HTK.out,HCZ.out,HC.out];omega),.inr h8,btz HBA HBP.out⟩
  have e8:decide (600-(cp:Int)<0)=true:=by simp;omega
  have e8b:decide ((600:Int)<cp)=true:=by simp;omega
  go_wp2_with fail
  go_ret;exact C5x.no rfl (HB0.out.trans ((HBA.out.trans (HBP.out.mono HBA.out.size)).mono HB0.out.size))
 have hje:jm=u.mn:=by omega
 have hfull:u.methods.take jm=u.methods:=List.take_of_length_le (by rw[HLM.out];omega);have HCF:=hzz (show cm=C5n u by rw[HC.out,hfull];rfl);have hnl:¬((jm:Int)<u.mn):=by omega
 clear hje hfull HC;by_cases h9:cm<=600
 ·have e9:decide ((cm:Int)<=600)=true:=by simp;omega
  go_wp2_with fail
  go_ret;exact C5x.yes rfl (HB0.out.trans (HB.out.mono HB0.out.size)) (by rw[HP.out,<-HCF.out];exact⟨by have:=HH1.out.1;omega,by have:=HH1.out.2.1;omega,by have:=HH1.out.2.2;omega,h9⟩)
 have e9:decide ((cm:Int)<=600)=false:=by simp;omega
 go_wp2_with fail
 go_ret;exact C5x.no rfl (HB0.out.trans (HB.out.mono HB0.out.size))
theorem B2x{l:List Nat}{x:Nat}(h:x∈l):x<=l.sum:=by
 induction l with
 |nil=>cases h
 |cons y t ih=>
  rw[List.sum_cons]
  rcases List.mem_cons.1 h with rfl|h
  ·omega
  have:=ih h;omega
theorem C2j(l:List UP):l.length<=(l.map B0z).sum:=by
 induction l with
 |nil=>simp
 |cons p t ih=>rw[List.map_cons,List.sum_cons,List.length_cons];unfold B0z at ih⊢;omega
theorem D8q{x:IN}(h:InB x)(hc:B9j x<=600):B3c x:=by
 unfold B9j at hc;exact⟨h.op,A1u h.n,A1u h.m,by omega,by omega,by omega,by omega⟩
theorem E1e{p:UP}{w:World}(hr:p.Rd w)(hc:B0z p<=600):p.Fit:=by
 have h1:=hr.loc.1;have h2:=hr.stk.1;unfold B0z at hc
 have h3:∀t∈p.loc++p.stk,t.length<=65536:=fun t ht=>by
  have:=B2x (List.mem_map_of_mem (f:=C7m) ht);unfold C7m at this hc;omega
 exact⟨by omega,by omega,fun t ht=>h3 t (List.mem_append_left _ ht),fun t ht=>h3 t (List.mem_append_right _ ht)⟩
theorem E2g{m:UM}{w:World}(hr:m.Rd w)(hb:m.Big)(hc:B3y m<=600):m.Fit:=by
 have h1:=hr.code.1;have h2:=hr.traps.1;have h3:=hr.maps.1;have h4:=C2j m.maps;unfold B3y at hc
 refine⟨by omega,by omega,by omega,fun x hx=>D8q (hb.ins x hx) ?_,by omega,fun t ht=> ?_,by omega,fun p hp=>E1e (hr.each p hp) ?_⟩
 ·have:=B2x (List.mem_map_of_mem (f:=B9j) hx);omega
 ·have:=B2x (List.mem_map_of_mem (f:=C2k) ht);unfold C2k at this hc;omega
 have:=B2x (List.mem_map_of_mem (f:=B0z) hp);omega
theorem E3t.fit{u:UU}{w:World}(h:E3t u)(hb:u.Big)(hr:u.Rd w):u.Fit:=by
 obtain⟨a1,a2,a3,a4⟩:=h;have h1:=hr.fields.1;have h2:=hr.methods.1;unfold C5n at a4;refine⟨by omega,by omega,by omega,fun f hf=> ?_,by omega,fun m hm=>E2g (hr.each m hm) (hb.mt m hm) ?_⟩
 ·have:=B2x (List.mem_map_of_mem (f:=B3s) hf);unfold B3s at this a4;exact⟨by omega,by omega⟩
 have:=B2x (List.mem_map_of_mem (f:=B3y) hm);omega
end
end Go.Proofs.YtclpkipaehpkdaaGreatDoor
