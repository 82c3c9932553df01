/- asm -/
import Derived.Test.YtclpkipaehpkdaaGreatDoorQ09AsmLowers
set_option linter.unusedVariables false
set_option linter.unusedSimpArgs false
set_option maxRecDepth 100000
set_option maxHeartbeats 64000000
namespace Go.Proofs.YtclpkipaehpkdaaGreatDoor
section
open Go.ChangeShapes Go.WideShapes Go.ChangeAt Go.RowKit
theorem C8d(L:List KV)(m:KM):A3h L m=true↔(A3b L m.fl m.nm m.ds=true/\(0<=m.st/\m.st<=64/\0<=m.lo/\m.lo<=64)/\(0<m.code.length/\m.code.length<=4096/\m.traps.length<=255/\m.maps.length<=255)/\m.traps.all (A5k L)=true/\m.maps.all (A7a L)=true/\(0<A6g L A7n/\(m.maps.length=0\/0<A6g L B6s))):=by
 unfold A3h B1e A9z A8a;simp only[Bool.and_eq_true,decide_eq_true_eq];constructor
 ·rintro⟨⟨⟨⟨⟨h1,h2⟩,h3⟩,h4⟩,h5⟩,h6⟩;exact⟨h1,h2,h3,h4,h5,h6⟩
 rintro⟨h1,h2,h3,h4,h5,h6⟩;exact⟨⟨⟨⟨⟨h1,h2⟩,h3⟩,h4⟩,h5⟩,h6⟩
def E2h(L:List KV)(mb:Bool)(st lo:Int)(cn tn nn:Nat)(ts ms:Bool):Prop:=mb=true/\(0<=st/\st<=64/\0<=lo/\lo<=64)/\(0<cn/\cn<=4096/\tn<=255/\nn<=255)/\ts=true/\ms=true/\(0<A6g L A7n/\(nn=0\/0<A6g L B6s))
theorem A7t{R:Bool}{P:Prop}(h:R=true↔P)(hn:¬P):false=R:=by cases R with
 |false=>rfl
 |true=>exact absurd (h.1 rfl) hn
theorem D1n{R:Bool}{P:Prop}(h:R=true↔P)(hn:P):true=R:=(h.2 hn).symm
theorem C2s(w:World)(a:Option Addr)(n cap:Nat)(L:List KV)(m:KM)(hs:Ks w a n L)(hn:n<=65536)(hm:m.Rd w)(hc1:m.cn<=140737488355328)(hc2:m.tn<=140737488355328)(hc3:m.mn<=140737488355328)(hc4:∀p∈m.maps,p.ln<=140737488355328/\p.sn<=140737488355328):
  Calls Tryz.prog 61 #[.slice a n cap,.agg #[.int .i64 m.fl,.int .i64 m.nm,.int .i64 m.ds,.int .i64 m.st,.int .i64 m.lo,.slice m.ca m.cn m.cc,.slice m.ta m.tn m.tc,.slice m.ma m.mn m.mc]] w (A0m (A3h L m) w):=by
 obtain⟨R,hR⟩:=exz (A3h L m);have hq:=C8d L m;rw[<-hR]at hq⊢;have hl1:=hm.code.1;have hl2:=hm.traps.1;have hl3:=hm.maps.1
 have HQ:=hzz (show R=true↔E2h L (A3b L m.fl m.nm m.ds) m.st m.lo m.cn m.tn m.mn (m.traps.all (A5k L)) (m.maps.all (A7a L)) by
  rw[hq,hl1,hl2,hl3];rfl)
 have HS:=hzz hs;have HM:=hzz hm;have HM4:=hzz hc4;clear hq hR hl1 hl2 hl3 hm hc4 hs;obtain⟨fl,nm,ds,st,lo,ca,cn,cc,code,ta,tn,tc,traps,na,nn,nc,maps⟩:=m;dsimp only at*
 have hal:Below w.heap.size w (w.alloc (.cells #[.int .i64 fl,.int .i64 nm,.int .i64 ds,.int .i64 st,.int .i64 lo,.slice ca cn cc,.slice ta tn tc,.slice na nn nc] 65)):=A0f _ _
 have HT0:=hzz (heap_alloc_last w (.cells #[.int .i64 fl,.int .i64 nm,.int .i64 ds,.int .i64 st,.int .i64 lo,.slice ca cn cc,.slice ta tn tc,.slice na nn nc] 65));have HB0:=hzz hal;clear hal
 go_enter Tryz.func61,Tryz.ntmps61
 go_upto_region 1 with fail
 generalize w.alloc _=W0 at*;obtain⟨bm,hbm⟩:∃b,b=w.heap.size:=⟨_,rfl⟩;rw[<-hbm]at HT0⊢;clear hbm;have HMB:=hzz (B5w W0 a n cap L fl nm ds (HS.out.below HB0.out) hn)
 generalize A3b L fl nm ds=mb at*;have k0:=A0a HT0.out 0 rfl;have k1:=A0a HT0.out 1 rfl;have k2:=A0a HT0.out 2 rfl
 go_cut [61] (fun r wx=>∃bad:Bool,r= .bool bad/\Hid (bad=true->false=R)/\Hid (bad=false->mb=true/\(0<=st/\st<=64/\0<=lo/\lo<=64)/\(0<cn/\cn<=4096/\tn<=255/\nn<=255))/\Hid (Below W0.heap.size W0 wx))
 case first=>
  cases mb with
  |false=>
   have HF1:=hzz (show true=true->false=R from fun _=>A7t HQ.out (fun hq=>by have h1:=hq.1;cases h1))
   have HF2:=hzz (show true=false->(false:Bool)=true/\(0<=st/\st<=64/\0<=lo/\lo<=64)/\(0<cn/\cn<=4096/\tn<=255/\nn<=255)from fun h=>by cases h)
   clear HQ
   go_wp2_with fail
   refine HMB.out.mono ?_;rintro e w2 ⟨rfl,hb⟩
   go_wp2_with fail
   go_meet
   exact⟨true,rfl,hzz (by first|exact HF1.out|simpa using HF1.out|simp),hzz (by first|exact HF2.out|simpa using HF2.out|simp),hzz hb⟩
  |true=>
  by_cases h0:st<0
  ·have e0:decide (st<0)=true:=decide_eq_true (by omega);have HF1:=hzz (show true=true->false=R from fun _=>A7t HQ.out (fun hq=>by have h1:=hq.2.1;have h2:=hq.2.2.1;omega))
   have HF2:=hzz (show true=false->(true:Bool)=true/\(0<=st/\st<=64/\0<=lo/\lo<=64)/\(0<cn/\cn<=4096/\tn<=255/\nn<=255)from fun h=>by cases h)
   clear h0;clear HQ
   go_wp2_with fail
   refine HMB.out.mono ?_;rintro e w2 ⟨rfl,hb⟩;have k3:=A0a (A0c HT0.out hb) 3 rfl;have k4:=A0a (A0c HT0.out hb) 4 rfl;have k5:=A0a (A0c HT0.out hb) 5 rfl
   have k6:=A0a (A0c HT0.out hb) 6 rfl;have k7:=A0a (A0c HT0.out hb) 7 rfl
   go_wp2_with fail
   go_meet
   exact⟨true,rfl,hzz (by first|exact HF1.out|simpa using HF1.out|simp),hzz (by first|exact HF2.out|simpa using HF2.out|simp),hzz hb⟩
  have e0:decide (st<0)=false:=decide_eq_false (by omega);by_cases h1:64<st
  ·have e1:decide ((64:Int)<st)=true:=decide_eq_true (by omega);have HF1:=hzz (show true=true->false=R from fun _=>A7t HQ.out (fun hq=>by have h1:=hq.2.1;have h2:=hq.2.2.1;omega))
   have HF2:=hzz (show true=false->(true:Bool)=true/\(0<=st/\st<=64/\0<=lo/\lo<=64)/\(0<cn/\cn<=4096/\tn<=255/\nn<=255)from fun h=>by cases h)
   clear h0 h1;clear HQ
   go_wp2_with fail
   refine HMB.out.mono ?_;rintro e w2 ⟨rfl,hb⟩;have k3:=A0a (A0c HT0.out hb) 3 rfl;have k4:=A0a (A0c HT0.out hb) 4 rfl;have k5:=A0a (A0c HT0.out hb) 5 rfl
   have k6:=A0a (A0c HT0.out hb) 6 rfl;have k7:=A0a (A0c HT0.out hb) 7 rfl
   go_wp2_with fail
   go_meet
   exact⟨true,rfl,hzz (by first|exact HF1.out|simpa using HF1.out|simp),hzz (by first|exact HF2.out|simpa using HF2.out|simp),hzz hb⟩
  have e1:decide ((64:Int)<st)=false:=decide_eq_false (by omega);by_cases h2:lo<0
  ·have e2:decide (lo<0)=true:=decide_eq_true (by omega);have HF1:=hzz (show true=true->false=R from fun _=>A7t HQ.out (fun hq=>by have h1:=hq.2.1;have h2:=hq.2.2.1;omega))
   have HF2:=hzz (show true=false->(true:Bool)=true/\(0<=st/\st<=64/\0<=lo/\lo<=64)/\(0<cn/\cn<=4096/\tn<=255/\nn<=255)from fun h=>by cases h)
   clear h0 h1 h2;clear HQ
   go_wp2_with fail
   refine HMB.out.mono ?_;rintro e w2 ⟨rfl,hb⟩;have k3:=A0a (A0c HT0.out hb) 3 rfl;have k4:=A0a (A0c HT0.out hb) 4 rfl;have k5:=A0a (A0c HT0.out hb) 5 rfl
   have k6:=A0a (A0c HT0.out hb) 6 rfl;have k7:=A0a (A0c HT0.out hb) 7 rfl
   go_wp2_with fail
   go_meet
   exact⟨true,rfl,hzz (by first|exact HF1.out|simpa using HF1.out|simp),hzz (by first|exact HF2.out|simpa using HF2.out|simp),hzz hb⟩
  have e2:decide (lo<0)=false:=decide_eq_false (by omega);by_cases h3:64<lo
  ·have e3:decide ((64:Int)<lo)=true:=decide_eq_true (by omega);have HF1:=hzz (show true=true->false=R from fun _=>A7t HQ.out (fun hq=>by have h1:=hq.2.1;have h2:=hq.2.2.1;omega))
   have HF2:=hzz (show true=false->(true:Bool)=true/\(0<=st/\st<=64/\0<=lo/\lo<=64)/\(0<cn/\cn<=4096/\tn<=255/\nn<=255)from fun h=>by cases h)
   clear h0 h1 h2 h3;clear HQ
   go_wp2_with fail
   refine HMB.out.mono ?_;rintro e w2 ⟨rfl,hb⟩;have k3:=A0a (A0c HT0.out hb) 3 rfl;have k4:=A0a (A0c HT0.out hb) 4 rfl;have k5:=A0a (A0c HT0.out hb) 5 rfl
   have k6:=A0a (A0c HT0.out hb) 6 rfl;have k7:=A0a (A0c HT0.out hb) 7 rfl
   go_wp2_with fail
   go_meet
   exact⟨true,rfl,hzz (by first|exact HF1.out|simpa using HF1.out|simp),hzz (by first|exact HF2.out|simpa using HF2.out|simp),hzz hb⟩
  have e3:decide ((64:Int)<lo)=false:=decide_eq_false (by omega);by_cases h4:cn<1
  ·have e4:decide ((cn:Int)<1)=true:=decide_eq_true (by omega);have HF1:=hzz (show true=true->false=R from fun _=>A7t HQ.out (fun hq=>by have h1:=hq.2.1;have h2:=hq.2.2.1;omega))
   have HF2:=hzz (show true=false->(true:Bool)=true/\(0<=st/\st<=64/\0<=lo/\lo<=64)/\(0<cn/\cn<=4096/\tn<=255/\nn<=255)from fun h=>by cases h)
   clear h0 h1 h2 h3 h4;clear HQ
   go_wp2_with fail
   refine HMB.out.mono ?_;rintro e w2 ⟨rfl,hb⟩;have k3:=A0a (A0c HT0.out hb) 3 rfl;have k4:=A0a (A0c HT0.out hb) 4 rfl;have k5:=A0a (A0c HT0.out hb) 5 rfl
   have k6:=A0a (A0c HT0.out hb) 6 rfl;have k7:=A0a (A0c HT0.out hb) 7 rfl
   go_wp2_with fail
   go_meet
   exact⟨true,rfl,hzz (by first|exact HF1.out|simpa using HF1.out|simp),hzz (by first|exact HF2.out|simpa using HF2.out|simp),hzz hb⟩
  have e4:decide ((cn:Int)<1)=false:=decide_eq_false (by omega);by_cases h5:4096<cn
  ·have e5:decide ((4096:Int)<cn)=true:=decide_eq_true (by omega);have HF1:=hzz (show true=true->false=R from fun _=>A7t HQ.out (fun hq=>by have h1:=hq.2.1;have h2:=hq.2.2.1;omega))
   have HF2:=hzz (show true=false->(true:Bool)=true/\(0<=st/\st<=64/\0<=lo/\lo<=64)/\(0<cn/\cn<=4096/\tn<=255/\nn<=255)from fun h=>by cases h)
   clear h0 h1 h2 h3 h4 h5;clear HQ
   go_wp2_with fail
   refine HMB.out.mono ?_;rintro e w2 ⟨rfl,hb⟩;have k3:=A0a (A0c HT0.out hb) 3 rfl;have k4:=A0a (A0c HT0.out hb) 4 rfl;have k5:=A0a (A0c HT0.out hb) 5 rfl
   have k6:=A0a (A0c HT0.out hb) 6 rfl;have k7:=A0a (A0c HT0.out hb) 7 rfl
   go_wp2_with fail
   go_meet
   exact⟨true,rfl,hzz (by first|exact HF1.out|simpa using HF1.out|simp),hzz (by first|exact HF2.out|simpa using HF2.out|simp),hzz hb⟩
  have e5:decide ((4096:Int)<cn)=false:=decide_eq_false (by omega);by_cases h6:255<tn
  ·have e6:decide ((255:Int)<tn)=true:=decide_eq_true (by omega);have HF1:=hzz (show true=true->false=R from fun _=>A7t HQ.out (fun hq=>by have h1:=hq.2.1;have h2:=hq.2.2.1;omega))
   have HF2:=hzz (show true=false->(true:Bool)=true/\(0<=st/\st<=64/\0<=lo/\lo<=64)/\(0<cn/\cn<=4096/\tn<=255/\nn<=255)from fun h=>by cases h)
   clear h0 h1 h2 h3 h4 h5 h6;clear HQ
   go_wp2_with fail
   refine HMB.out.mono ?_;rintro e w2 ⟨rfl,hb⟩;have k3:=A0a (A0c HT0.out hb) 3 rfl;have k4:=A0a (A0c HT0.out hb) 4 rfl;have k5:=A0a (A0c HT0.out hb) 5 rfl
   have k6:=A0a (A0c HT0.out hb) 6 rfl;have k7:=A0a (A0c HT0.out hb) 7 rfl
   go_wp2_with fail
   go_meet
   exact⟨true,rfl,hzz (by first|exact HF1.out|simpa using HF1.out|simp),hzz (by first|exact HF2.out|simpa using HF2.out|simp),hzz hb⟩
  have e6:decide ((255:Int)<tn)=false:=decide_eq_false (by omega);by_cases h7:255<nn
  ·have e7:decide ((255:Int)<nn)=true:=decide_eq_true (by omega);have HF1:=hzz (show true=true->false=R from fun _=>A7t HQ.out (fun hq=>by have h1:=hq.2.1;have h2:=hq.2.2.1;omega))
   have HF2:=hzz (show true=false->(true:Bool)=true/\(0<=st/\st<=64/\0<=lo/\lo<=64)/\(0<cn/\cn<=4096/\tn<=255/\nn<=255)from fun h=>by cases h)
   clear h0 h1 h2 h3 h4 h5 h6 h7;clear HQ
   go_wp2_with fail
   refine HMB.out.mono ?_;rintro e w2 ⟨rfl,hb⟩;have k3:=A0a (A0c HT0.out hb) 3 rfl;have k4:=A0a (A0c HT0.out hb) 4 rfl;have k5:=A0a (A0c HT0.out hb) 5 rfl
   have k6:=A0a (A0c HT0.out hb) 6 rfl;have k7:=A0a (A0c HT0.out hb) 7 rfl
   go_wp2_with fail
   go_meet
   exact⟨true,rfl,hzz (by first|exact HF1.out|simpa using HF1.out|simp),hzz (by first|exact HF2.out|simpa using HF2.out|simp),hzz hb⟩
  have e7:decide ((255:Int)<nn)=false:=decide_eq_false (by omega)
  have HF1:=hzz (show false=true->false=R from fun h=>by cases h)
  have HF2:=hzz (show false=false->(true:Bool)=true/\(0<=st/\st<=64/\0<=lo/\lo<=64)/\(0<cn/\cn<=4096/\tn<=255/\nn<=255)from fun _=>⟨rfl,⟨by omega,by omega,by omega,by omega⟩,by omega,by omega,by omega,by omega⟩)
  clear h0 h1 h2 h3 h4 h5 h6 h7;clear HQ
  go_wp2_with fail
  refine HMB.out.mono ?_;rintro e w2 ⟨rfl,hb⟩;have k3:=A0a (A0c HT0.out hb) 3 rfl;have k4:=A0a (A0c HT0.out hb) 4 rfl;have k5:=A0a (A0c HT0.out hb) 5 rfl
  have k6:=A0a (A0c HT0.out hb) 6 rfl;have k7:=A0a (A0c HT0.out hb) 7 rfl
  go_wp2_with fail
  go_meet
  exact⟨false,rfl,hzz (by first|exact HF1.out|simpa using HF1.out|simp),hzz (by first|exact HF2.out|simpa using HF2.out|simp),hzz hb⟩
 obtain⟨bad,rfl,HBAD,HGOOD,HB⟩:=hcut;have HB1:=btz HB0 HB.out;have HT1:=hzz (A0c HT0.out HB.out);clear k0 k1 k2 HMB HB HB0 HT0;have k6:=A0a HT1.out 6 rfl
 cases bad with
 |true=>
  have HF:=hzz (HBAD.out rfl)
  go_wp2_with fail
  go_ret;exact A0m.of HF.out HB1.out
 |false=>
 have HGD:=hzz (HGOOD.out rfl);clear HBAD HGOOD
 go_wp2_with fail
 clear k6
 go_loopg [65] tn (fun gn i wr=>∃j:Nat,j<=tn/\gn=tn-j/\i= .int .i64 j/\Hid ((traps.take j).all (A5k L)=true)/\Hid (Below w.heap.size w wr)/\Hid (wr.heap[bm]? =some (.cells #[.int .i64 fl,.int .i64 nm,.int .i64 ds,.int .i64 st,.int .i64 lo,.slice ca cn cc,.slice ta tn tc,.slice na nn nc] 65)))
 case atStart=>exact⟨0,by omega,by omega,by go_num,hzz (by simp),HB1,HT1⟩
 clear HB1 HT1;obtain⟨j,hj,rfl,rfl,HA,HB,HT⟩:=hrel;by_cases hlt:j<tn
 ·obtain⟨b,off,x,rfl,_,hv,q⟩:=Ss.getC (HM.out.traps.below HB.out) j hlt
  have HN:=hzz (fun(h:A5k L x=false)=>show false=R from A7t HQ.out (fun hq=>by have h2:=hq.2.2.2.1;rw[A4u hv h]at h2;cases h2))
  have HY:=hzz (fun(h:A5k L x=true)=>show(traps.take (j+1)).all (A5k L)=true by rw[A5g _ _ _ _ hv,HA.out,h];rfl);obtain⟨fr,tt,pl,cl⟩:=x
  have HTO:=hzz (show A5k L ⟨fr,tt,pl,cl⟩=([fr,tt,pl].all A3r&&(decide (cl=0)||clsOk L cl))from rfl);have q0:wr.cell? ⟨b,off+j*4,none⟩=some (.int .i64 fr):=q 0 (by omega)
  have q1:wr.cell? ⟨b,off+j*4+1,none⟩=some (.int .i64 tt):=q 1 (by omega);have q2:wr.cell? ⟨b,off+j*4+2,none⟩=some (.int .i64 pl):=q 2 (by omega)
  have q3:wr.cell? ⟨b,off+j*4+3,none⟩=some (.int .i64 cl):=q 3 (by omega);clear q hv
  have hal:Below wr.heap.size wr (wr.alloc (.cells #[.int .i64 fr,.int .i64 tt,.int .i64 pl,.int .i64 cl] 123)):=A0f _ _
  have HX:=hzz (heap_alloc_last wr (.cells #[.int .i64 fr,.int .i64 tt,.int .i64 pl,.int .i64 cl] 123));have HB2:=btz HB hal;have HT2:=hzz (A0c HT.out hal);have hj1:(j:Int)<tn:=by omega
  go_upto_region 6 with fail
  clear q0 q1 q2 q3 hal HB HT;generalize wr.alloc _=W1 at*;generalize wr.heap.size=bt at*;have k0:=A0a HX.out 0 rfl;have k1:=A0a HX.out 1 rfl;have k2:=A0a HX.out 2 rfl
  have k3:=A0a HX.out 3 rfl;have hb3:Below W1.heap.size W1 (W1.alloc (.cells #[.int .i64 fr,.int .i64 tt,.int .i64 pl] 3)):=A0f _ _
  have HWD:=hzz (C0n (W1.alloc (.cells #[.int .i64 fr,.int .i64 tt,.int .i64 pl] 3)) _ 3 3 [fr,tt,pl] (Sl.litZ W1 3 [fr,tt,pl] 3 rfl) (by decide));generalize [fr,tt,pl].all A3r=wd at*
  cases wd with
  |false=>
   have HF:=hzz (HN.out (by rw[HTO.out];rfl))
   go_wp2_with fail
   refine HWD.out.mono ?_;rintro e w2 ⟨rfl,hb⟩;have HB3:=hzz (HB2.out.trans ((hb3.trans (hb.mono hb3.size)).mono HB2.out.size))
   go_wp2_with fail
   go_ret;exact A0m.of HF.out HB3.out
  |true=>
  rw[Bool.true_and]at HTO;by_cases h0:cl=0
  ·have e0:(cl !=0)=false:=by simp[h0]
   have HF:=hzz (HY.out (by rw[HTO.out];simp[h0]));clear h0 HN HY HTO
   go_wp2_with fail
   refine HWD.out.mono ?_;rintro e w2 ⟨rfl,hb⟩;have hb4:=hb3.trans (hb.mono hb3.size);have HB3:=btz HB2 hb4;have HT3:=hzz (A0c HT2.out hb4);have k3:=A0a (A0c HX.out hb4) 3 rfl
   clear k0 k1 k2 hb hb3 hb4
   go_wp2_with fail
   go_roundg (tn-(j+1))
   case measure=>omega
   exact⟨j+1,by omega,rfl,by go_num,HF,HB3,HT3⟩
  have e0:(cl !=0)=true:=by simp[h0]
  have HTO:=hzz (show A5k L ⟨fr,tt,pl,cl⟩=clsOk L cl by rw[HTO.out];simp[h0]);rw[HTO.out]at HN HY;clear h0 HTO
  go_wp2_with fail
  refine HWD.out.mono ?_;rintro e w2 ⟨rfl,hb⟩;have hb4:=hb3.trans (hb.mono hb3.size);have HB3:=btz HB2 hb4;have HT3:=hzz (A0c HT2.out hb4);have k3:=A0a (A0c HX.out hb4) 3 rfl
  have HC:=hzz (B0k w2 a n cap L cl (HS.out.below HB3.out) hn);generalize clsOk L cl=ok at*;clear k0 k1 k2 hb hb3 hb4
  go_wp2_with fail
  refine HC.out.mono ?_;rintro e w3 ⟨rfl,hb⟩;have HB5:=btz HB3 hb;have HT5:=hzz (A0c HT3.out hb);clear hb HC HB3 HT3
  cases ok with
  |false=>
   have HF:=hzz (HN.out rfl)
   go_wp2_with fail
   go_ret;exact A0m.of HF.out HB5.out
  |true=>
  have HF:=hzz (HY.out rfl)
  go_wp2_with fail
  go_roundg (tn-(j+1))
  case measure=>omega
  exact⟨j+1,by omega,rfl,by go_num,HF,HB5,HT5⟩
 obtain rfl:tn=j:=by omega
 have HTA:=hzz (show traps.all (A5k L)=true from B0i HA.out HM.out.traps.1);clear HA;have k7:=A0a HT.out 7 rfl
 go_wp2_with fail
 clear k7
 go_loopg [94] nn (fun gn i wr=>∃j:Nat,j<=nn/\gn=nn-j/\i= .int .i64 j/\Hid ((maps.take j).all (A7a L)=true)/\Hid (Below w.heap.size w wr)/\Hid (wr.heap[bm]? =some (.cells #[.int .i64 fl,.int .i64 nm,.int .i64 ds,.int .i64 st,.int .i64 lo,.slice ca cn cc,.slice ta tn tc,.slice na nn nc] 65)))
 case atStart=>exact⟨0,by omega,by omega,by go_num,hzz (by simp),HB,HT⟩
 clear HB HT;obtain⟨j,hj,rfl,rfl,HA,HB,HT⟩:=hrel;by_cases hlt:j<nn
 ·obtain⟨b,off,x,rfl,_,hv,q⟩:=Ss.getC (HM.out.maps.below HB.out) j hlt
  have HN:=hzz (fun(h:A7a L x=false)=>show false=R from A7t HQ.out (fun hq=>by have h2:=hq.2.2.2.2.1;rw[A4u hv h]at h2;cases h2))
  have HY:=hzz (fun(h:A7a L x=true)=>show(maps.take (j+1)).all (A7a L)=true by rw[A5g _ _ _ _ hv,HA.out,h];rfl);have HXR:=hzz (HM.out.each x (List.mem_of_getElem? hv))
  have hx4:=HM4.out x (List.mem_of_getElem? hv);obtain⟨pl,la,ln,lc,loc,sa,sn,sc,stk⟩:=x;dsimp only at hx4;obtain⟨hx5,hx6⟩:=hx4
  have HMO:=hzz (show A7a L ⟨pl,la,ln,lc,loc,sa,sn,sc,stk⟩=((A3r pl&&A5c L 64 loc)&&A5c L 64 stk)from rfl)
  have q0:wr.cell? ⟨b,off+j*3,none⟩=some (.int .i64 pl):=q 0 (by omega);have q1:wr.cell? ⟨b,off+j*3+1,none⟩=some (.slice la ln lc):=q 1 (by omega)
  have q2:wr.cell? ⟨b,off+j*3+2,none⟩=some (.slice sa sn sc):=q 2 (by omega);clear q hv
  have hal:Below wr.heap.size wr (wr.alloc (.cells #[.int .i64 pl,.slice la ln lc,.slice sa sn sc] 68)):=A0f _ _
  have HX:=hzz (heap_alloc_last wr (.cells #[.int .i64 pl,.slice la ln lc,.slice sa sn sc] 68));have HB2:=btz HB hal;have HT2:=hzz (A0c HT.out hal);have hj1:(j:Int)<nn:=by omega
  go_upto_region 12 with fail
  clear q0 q1 q2 hal HB HT;generalize wr.alloc _=W1 at*;generalize wr.heap.size=bt at*;have k0:=A0a HX.out 0 rfl;have hb3:Below W1.heap.size W1 (W1.alloc (.cells #[.int .i64 pl] 3)):=A0f _ _
  have HWD:=C0n (W1.alloc (.cells #[.int .i64 pl] 3)) _ 1 1 [pl] (Sl.litZ W1 1 [pl] 3 rfl) (by decide);rw[show [pl].all A3r=A3r pl by simp]at HWD;replace HWD:=hzz HWD
  have HL1:=hzz (fun w' (hb:Below w.heap.size w w')=>B7q w' a n cap L la ln lc loc 64 (HS.out.below hb) hn (HXR.out.loc.below hb) hx5)
  have HL2:=hzz (fun w' (hb:Below w.heap.size w w')=>B7q w' a n cap L sa sn sc stk 64 (HS.out.below hb) hn (HXR.out.stk.below hb) hx6);rw[HMO.out]at HN HY;clear HMO;generalize A3r pl=wd at*
  generalize A5c L 64 loc=s1 at*;generalize A5c L 64 stk=s2 at*
  cases wd with
  |false=>
   have HF:=hzz (HN.out rfl)
   go_wp2_with fail
   refine HWD.out.mono ?_;rintro e w2 ⟨rfl,hb⟩;have HB3:=hzz (HB2.out.trans ((hb3.trans (hb.mono hb3.size)).mono HB2.out.size))
   go_wp2_with fail
   go_ret;exact A0m.of HF.out HB3.out
  |true=>
  go_wp2_with fail
  refine HWD.out.mono ?_;rintro e w2 ⟨rfl,hb⟩;have hb4:=hb3.trans (hb.mono hb3.size);have HB3:=btz HB2 hb4;have HT3:=hzz (A0c HT2.out hb4);have HX3:=hzz (A0c HX.out hb4)
  have k1:=A0a HX3.out 1 rfl;clear k0 hb hb3 hb4 HX HT2 HB2 HWD
  go_wp2_with fail
  refine(HL1.out w2 HB3.out).mono ?_;rintro e w3 ⟨rfl,hb⟩;have HB4:=btz HB3 hb;have HT4:=hzz (A0c HT3.out hb);have HX4:=hzz (A0c HX3.out hb);clear hb k1 HB3 HT3 HX3 HL1
  have k2:=A0a HX4.out 2 rfl
  cases s1 with
  |false=>
   have HF:=hzz (HN.out rfl)
   go_wp2_with fail
   go_ret;exact A0m.of HF.out HB4.out
  |true=>
  go_wp2_with fail
  refine(HL2.out w3 HB4.out).mono ?_;rintro e w4 ⟨rfl,hb⟩;have HB5:=btz HB4 hb;have HT5:=hzz (A0c HT4.out hb);clear hb k2 HB4 HT4 HX4 HL2
  cases s2 with
  |false=>
   have HF:=hzz (HN.out rfl)
   go_wp2_with fail
   go_ret;exact A0m.of HF.out HB5.out
  |true=>
  have HF:=hzz (HY.out rfl)
  go_wp2_with fail
  go_roundg (nn-(j+1))
  case measure=>omega
  exact⟨j+1,by omega,rfl,by go_num,HF,HB5,HT5⟩
 obtain rfl:nn=j:=by omega
 have HMA:=hzz (show maps.all (A7a L)=true from B0i HA.out HM.out.maps.1);clear HA;have HC1:=hzz (C0u wr a n cap L A7n (HS.out.below HB.out) hn)
 have HC2:=hzz (fun w' (hb:Below w.heap.size w w')=>C0u w' a n cap L B6s (HS.out.below hb) hn);unfold E2h at HQ;generalize A6g L A7n=f1 at*;generalize A6g L B6s=f2 at*
 unfold A7n at HC1;unfold B6s at HC2;have k7:=A0a HT.out 7 rfl;by_cases h1:0<f1
 ·have e1:decide ((0:Int)<(f1:Int))=true:=by simp;omega
  by_cases h2:nn=0
  ·have e2:((nn:Int)==0)=true:=by simp[h2]
   have HF:=hzz (D1n HQ.out ⟨HGD.out.1,HGD.out.2.1,HGD.out.2.2,HTA.out,HMA.out,h1,.inl h2⟩);clear h2
   go_wp2_with fail
   refine HC1.out.mono ?_;rintro e w2 ⟨rfl,hb⟩;have k7:=A0a (A0c HT.out hb) 7 rfl
   go_wp2_with fail
   go_ret;exact A0m.of HF.out (HB.out.trans (hb.mono HB.out.size))
  have e2:((nn:Int)==0)=false:=by simp[h2]
  go_wp2_with fail
  refine HC1.out.mono ?_;rintro e w2 ⟨rfl,hb⟩;have HB3:=btz HB hb;have k7:=A0a (A0c HT.out hb) 7 rfl
  go_wp2_with fail
  refine(HC2.out w2 HB3.out).mono ?_;rintro e w3 ⟨rfl,hb⟩;have HB4:=btz HB3 hb;by_cases h3:0<f2
  ·have HF:=hzz (D1n HQ.out ⟨HGD.out.1,HGD.out.2.1,HGD.out.2.2,HTA.out,HMA.out,h1,.inr h3⟩);have e3:decide ((0:Int)<(f2:Int))=true:=by simp;omega
   go_wp2_with fail
   go_ret;exact A0m.of HF.out HB4.out
  have HF:=hzz (A7t HQ.out (fun hq=>by have h4:=hq.2.2.2.2.2.2;omega));have e3:decide ((0:Int)<(f2:Int))=false:=by simp;omega
  go_wp2_with fail
  go_ret;exact A0m.of HF.out HB4.out
 have e1:decide ((0:Int)<(f1:Int))=false:=by simp;omega
 have HF:=hzz (A7t HQ.out (fun hq=>by have h4:=hq.2.2.2.2.2.1;omega))
 go_wp2_with fail
 refine HC1.out.mono ?_;rintro e w2 ⟨rfl,hb⟩
 go_wp2_with fail
 go_ret;exact A0m.of HF.out (HB.out.trans (hb.mono HB.out.size))
theorem C2y(f:KF):A2q f=true↔(A5e f.pool=true/\clsOk f.pool f.th=true/\(f.su=0\/clsOk f.pool f.su=true)/\(f.fields.length<=64/\f.methods.length<=64)/\f.fields.all (fun d=>A3b f.pool d.fl d.nm d.ds)=true/\f.methods.all (A3h f.pool)=true):=by
 unfold A2q;simp only[Bool.and_eq_true,Bool.or_eq_true,decide_eq_true_eq];constructor
 ·rintro⟨⟨⟨⟨⟨h1,h2⟩,h3⟩,h4⟩,h5⟩,h6⟩;exact⟨h1,h2,h3,h4,h5,h6⟩
 rintro⟨h1,h2,h3,h4,h5,h6⟩;exact⟨⟨⟨⟨⟨h1,h2⟩,h3⟩,h4⟩,h5⟩,h6⟩
def E4f(pr c1:Bool)(su:Int)(c2:Bool)(fn mn:Nat)(fs ms:Bool):Prop:=pr=true/\c1=true/\(su=0\/c2=true)/\(fn<=64/\mn<=64)/\fs=true/\ms=true
theorem C8a(w:World)(f:KF)(h:f.Rd w)(hpn:f.pn<=65536)(hps:∀i:Nat,i<f.pn->(kAt f.pool i).s.length<=65536)(hbig:f.Big):
  Calls Tryz.prog 25 #[.agg f.vals] w (A0m (A2q f) w):=by
 obtain⟨R,hR⟩:=exz (A2q f);have hq:=C2y f;rw[<-hR]at hq⊢;have hl2:=h.fields.1;have hl3:=h.methods.1
 have HQ:=hzz (show R=true↔E4f (A5e f.pool) (clsOk f.pool f.th) f.su (clsOk f.pool f.su) f.fn f.mn (f.fields.all (fun d=>A3b f.pool d.fl d.nm d.ds)) (f.methods.all (A3h f.pool)) by
  rw[hq,hl2,hl3];rfl)
 have HX:=hzz h;have HPS:=hzz hps;have HBE:=hzz hbig.each;have hfb:=hbig.fn;have hmb:=hbig.mn;clear hq hR hl2 hl3 h hps hbig
 obtain⟨pa,pn,pc,pool,th,su,fa,fn,fc,fields,ma,mn,mc,methods⟩:=f;unfold KF.vals;dsimp only at*
 have hal:Below w.heap.size w (w.alloc (.cells #[.slice pa pn pc,.int .i64 th,.int .i64 su,.slice fa fn fc,.slice ma mn mc] 26)):=A0f _ _
 have HT0:=hzz (heap_alloc_last w (.cells #[.slice pa pn pc,.int .i64 th,.int .i64 su,.slice fa fn fc,.slice ma mn mc] 26));have HB0:=hzz hal;clear hal;go_enter Tryz.func25,Tryz.ntmps25
 go_upto_region 1 with fail
 generalize w.alloc _=W0 at*;obtain⟨bf,hbf⟩:∃b,b=w.heap.size:=⟨_,rfl⟩;rw[<-hbf]at HT0⊢;clear hbf;have HPR:=hzz (C1m W0 pa pn pc pool (HX.out.pool.below HB0.out) hpn HPS.out)
 have HC1:=hzz (fun w' (hb:Below w.heap.size w w')=>B0k w' pa pn pc pool th (HX.out.pool.below hb) hpn)
 have HC2:=hzz (fun w' (hb:Below w.heap.size w w')=>B0k w' pa pn pc pool su (HX.out.pool.below hb) hpn);generalize A5e pool=pr at*;generalize clsOk pool th=c1 at*
 generalize clsOk pool su=c2 at*;have k0:=A0a HT0.out 0 rfl
 go_cut [43] (fun r wx=>∃bad:Bool,r= .bool bad/\Hid (bad=true->false=R)/\Hid (bad=false->pr=true/\c1=true/\(su=0\/c2=true)/\(fn<=64/\mn<=64))/\Hid (Below w.heap.size w wx)/\Hid (wx.heap[bf]? =some (.cells #[.slice pa pn pc,.int .i64 th,.int .i64 su,.slice fa fn fc,.slice ma mn mc] 26)))
 case first=>
  have k1:=A0a HT0.out 1 rfl;have k2:=A0a HT0.out 2 rfl;have k3:=A0a HT0.out 3 rfl;have k4:=A0a HT0.out 4 rfl
  go_wp2_with fail
  refine HPR.out.mono ?_;rintro e W1 ⟨rfl,hb⟩;have HBW1:=btz HB0 hb;have HTW1:=hzz (A0c HT0.out hb);clear hb;have k1:=A0a HTW1.out 1 rfl;have k2:=A0a HTW1.out 2 rfl
  have k0:=A0a HTW1.out 0 rfl;have k3:=A0a HTW1.out 3 rfl;have k4:=A0a HTW1.out 4 rfl
  cases pr with
  |false=>
   have HF1:=hzz (show true=true->false=R from fun _=>A7t HQ.out (fun hq=>by cases hq.1))
   have HF2:=hzz (show true=false->(false:Bool)=true/\c1=true/\(su=0\/c2=true)/\(fn<=64/\mn<=64)from fun h=>by cases h)
   clear HQ
   go_wp2_with fail
   go_meet
   exact⟨true,rfl,hzz (by first|exact HF1.out|simpa using HF1.out|simp),hzz (by first|exact HF2.out|simpa using HF2.out|simp),HBW1,HTW1⟩
  |true=>
  go_wp2_with fail
  refine(HC1.out W1 HBW1.out).mono ?_;rintro e W2 ⟨rfl,hb⟩;have HBW2:=btz HBW1 hb;have HTW2:=hzz (A0c HTW1.out hb);clear hb;have k1:=A0a HTW2.out 1 rfl;have k2:=A0a HTW2.out 2 rfl
  have k0:=A0a HTW2.out 0 rfl;have k3:=A0a HTW2.out 3 rfl;have k4:=A0a HTW2.out 4 rfl
  cases c1 with
  |false=>
   have HF1:=hzz (show true=true->false=R from fun _=>A7t HQ.out (fun hq=>by cases hq.2.1))
   have HF2:=hzz (show true=false->(true:Bool)=true/\(false:Bool)=true/\(su=0\/c2=true)/\(fn<=64/\mn<=64)from fun h=>by cases h)
   clear HQ
   go_wp2_with fail
   go_meet
   exact⟨true,rfl,hzz (by first|exact HF1.out|simpa using HF1.out|simp),hzz (by first|exact HF2.out|simpa using HF2.out|simp),HBW2,HTW2⟩
  |true=>
  by_cases h0:su=0
  ·have e0:(su !=0)=false:=by simp[h0]
   have HS0:=hzz h0;clear h0;by_cases h1:64<fn
   ·have e1:decide ((64:Int)<fn)=true:=decide_eq_true (by omega);have HF1:=hzz (show true=true->false=R from fun _=>A7t HQ.out (fun hq=>by have h2:=hq.2.2.2.1;omega))
    have HF2:=hzz (show true=false->(true:Bool)=true/\(true:Bool)=true/\(su=0\/c2=true)/\(fn<=64/\mn<=64)from fun h=>by cases h)
    clear HQ
    go_wp2_with fail
    go_meet
    exact⟨true,rfl,hzz (by first|exact HF1.out|simpa using HF1.out|simp),hzz (by first|exact HF2.out|simpa using HF2.out|simp),HBW2,HTW2⟩
   have e1:decide ((64:Int)<fn)=false:=decide_eq_false (by omega);by_cases h2:64<mn
   ·have e2:decide ((64:Int)<mn)=true:=decide_eq_true (by omega);have HF1:=hzz (show true=true->false=R from fun _=>A7t HQ.out (fun hq=>by have h2:=hq.2.2.2.1;omega))
    have HF2:=hzz (show true=false->(true:Bool)=true/\(true:Bool)=true/\(su=0\/c2=true)/\(fn<=64/\mn<=64)from fun h=>by cases h)
    clear HQ
    go_wp2_with fail
    go_meet
    exact⟨true,rfl,hzz (by first|exact HF1.out|simpa using HF1.out|simp),hzz (by first|exact HF2.out|simpa using HF2.out|simp),HBW2,HTW2⟩
   have e2:decide ((64:Int)<mn)=false:=decide_eq_false (by omega)
   have HF1:=hzz (show false=true->false=R from fun h=>by cases h)
   have HF2:=hzz (show false=false->(true:Bool)=true/\(true:Bool)=true/\(su=0\/c2=true)/\(fn<=64/\mn<=64)from fun _=>⟨rfl,rfl,.inl HS0.out,by omega,by omega⟩);clear HQ
   go_wp2_with fail
   go_meet
   exact⟨false,rfl,hzz (by first|exact HF1.out|simpa using HF1.out|simp),hzz (by first|exact HF2.out|simpa using HF2.out|simp),HBW2,HTW2⟩
  have e0:(su !=0)=true:=by simp[h0]
  have HS0:=hzz h0;clear h0
  go_wp2_with fail
  refine(HC2.out W2 HBW2.out).mono ?_;rintro e W3 ⟨rfl,hb⟩;have HBW3:=btz HBW2 hb;have HTW3:=hzz (A0c HTW2.out hb);clear hb;have k1:=A0a HTW3.out 1 rfl;have k2:=A0a HTW3.out 2 rfl
  have k0:=A0a HTW3.out 0 rfl;have k3:=A0a HTW3.out 3 rfl;have k4:=A0a HTW3.out 4 rfl
  cases c2 with
  |false=>
   have HF1:=hzz (show true=true->false=R from fun _=>A7t HQ.out (fun hq=>by exact hq.2.2.1.elim HS0.out (fun h=>by cases h)))
   have HF2:=hzz (show true=false->(true:Bool)=true/\(true:Bool)=true/\(su=0\/(false:Bool)=true)/\(fn<=64/\mn<=64)from fun h=>by cases h)
   clear HQ
   go_wp2_with fail
   go_meet
   exact⟨true,rfl,hzz (by first|exact HF1.out|simpa using HF1.out|simp),hzz (by first|exact HF2.out|simpa using HF2.out|simp),HBW3,HTW3⟩
  |true=>
  by_cases h1:64<fn
  ·have e1:decide ((64:Int)<fn)=true:=decide_eq_true (by omega);have HF1:=hzz (show true=true->false=R from fun _=>A7t HQ.out (fun hq=>by have h2:=hq.2.2.2.1;omega))
   have HF2:=hzz (show true=false->(true:Bool)=true/\(true:Bool)=true/\(su=0\/(true:Bool)=true)/\(fn<=64/\mn<=64)from fun h=>by cases h)
   clear HQ
   go_wp2_with fail
   go_meet
   exact⟨true,rfl,hzz (by first|exact HF1.out|simpa using HF1.out|simp),hzz (by first|exact HF2.out|simpa using HF2.out|simp),HBW3,HTW3⟩
  have e1:decide ((64:Int)<fn)=false:=decide_eq_false (by omega);by_cases h2:64<mn
  ·have e2:decide ((64:Int)<mn)=true:=decide_eq_true (by omega);have HF1:=hzz (show true=true->false=R from fun _=>A7t HQ.out (fun hq=>by have h2:=hq.2.2.2.1;omega))
   have HF2:=hzz (show true=false->(true:Bool)=true/\(true:Bool)=true/\(su=0\/(true:Bool)=true)/\(fn<=64/\mn<=64)from fun h=>by cases h)
   clear HQ
   go_wp2_with fail
   go_meet
   exact⟨true,rfl,hzz (by first|exact HF1.out|simpa using HF1.out|simp),hzz (by first|exact HF2.out|simpa using HF2.out|simp),HBW3,HTW3⟩
  have e2:decide ((64:Int)<mn)=false:=decide_eq_false (by omega)
  have HF1:=hzz (show false=true->false=R from fun h=>by cases h)
  have HF2:=hzz (show false=false->(true:Bool)=true/\(true:Bool)=true/\(su=0\/(true:Bool)=true)/\(fn<=64/\mn<=64)from fun _=>⟨rfl,rfl,.inr rfl,by omega,by omega⟩);clear HQ
  go_wp2_with fail
  go_meet
  exact⟨false,rfl,hzz (by first|exact HF1.out|simpa using HF1.out|simp),hzz (by first|exact HF2.out|simpa using HF2.out|simp),HBW3,HTW3⟩
 obtain⟨bad,rfl,HBAD,HGOOD,HB1,HT1⟩:=hcut;clear k0 HPR HC1 HC2 HB0 HT0;have k3:=A0a HT1.out 3 rfl
 cases bad with
 |true=>
  have HF:=hzz (HBAD.out rfl)
  go_wp2_with fail
  go_ret;exact A0m.of HF.out HB1.out
 |false=>
 have HGD:=hzz (HGOOD.out rfl);clear HBAD HGOOD
 go_wp2_with fail
 clear k3
 go_loopg [47] fn (fun gn i wr=>∃j:Nat,j<=fn/\gn=fn-j/\i= .int .i64 j/\Hid ((fields.take j).all (fun d=>A3b pool d.fl d.nm d.ds)=true)/\Hid (Below w.heap.size w wr)/\Hid (wr.heap[bf]? =some (.cells #[.slice pa pn pc,.int .i64 th,.int .i64 su,.slice fa fn fc,.slice ma mn mc] 26)))
 case atStart=>exact⟨0,by omega,by omega,by go_num,hzz (by simp),HB1,HT1⟩
 clear HB1 HT1;obtain⟨j,hj,rfl,rfl,HA,HB,HT⟩:=hrel;by_cases hlt:j<fn
 ·obtain⟨b,off,x,rfl,_,hv,q⟩:=Ss.getC (HX.out.fields.below HB.out) j hlt
  have HN:=hzz (fun(h:A3b pool x.fl x.nm x.ds=false)=>show false=R from A7t HQ.out (fun hq=>by have h2:=hq.2.2.2.2.1;rw[A4u hv h]at h2;cases h2))
  have HY:=hzz (fun(h:A3b pool x.fl x.nm x.ds=true)=>show(fields.take (j+1)).all (fun d=>A3b pool d.fl d.nm d.ds)=true by rw[A5g _ _ _ _ hv,HA.out,h];rfl);obtain⟨fl,nm,ds⟩:=x
  dsimp only at HN HY;have q0:wr.cell? ⟨b,off+j*3,none⟩=some (.int .i64 fl):=q 0 (by omega);have q1:wr.cell? ⟨b,off+j*3+1,none⟩=some (.int .i64 nm):=q 1 (by omega)
  have q2:wr.cell? ⟨b,off+j*3+2,none⟩=some (.int .i64 ds):=q 2 (by omega);clear q hv;have hal:Below wr.heap.size wr (wr.alloc (.cells #[.int .i64 fl,.int .i64 nm,.int .i64 ds] 75)):=A0f _ _
  have HXF:=hzz (heap_alloc_last wr (.cells #[.int .i64 fl,.int .i64 nm,.int .i64 ds] 75));have HB2:=btz HB hal;have HT2:=hzz (A0c HT.out hal);have hj1:(j:Int)<fn:=by omega
  go_upto_region 6 with fail
  clear q0 q1 q2 hal HB HT;generalize wr.alloc _=W1 at*;generalize wr.heap.size=bt at*;have p0:=A0a HXF.out 0 rfl;have p1:=A0a HXF.out 1 rfl;have p2:=A0a HXF.out 2 rfl
  have k0:=A0a HT2.out 0 rfl;have HMB:=hzz (B5w W1 pa pn pc pool fl nm ds (HX.out.pool.below HB2.out) hpn);generalize A3b pool fl nm ds=ok at*
  go_wp2_with fail
  refine HMB.out.mono ?_;rintro e w2 ⟨rfl,hb⟩;have HB3:=btz HB2 hb;have HT3:=hzz (A0c HT2.out hb);clear hb HMB p0 p1 p2 k0 HB2 HT2
  cases ok with
  |false=>
   have HF:=hzz (HN.out rfl)
   go_wp2_with fail
   go_ret;exact A0m.of HF.out HB3.out
  |true=>
  have HF:=hzz (HY.out rfl)
  go_wp2_with fail
  go_roundg (fn-(j+1))
  case measure=>omega
  exact⟨j+1,by omega,rfl,by go_num,HF,HB3,HT3⟩
 obtain rfl:fn=j:=by omega
 have HFA:=hzz (show fields.all (fun d=>A3b pool d.fl d.nm d.ds)=true from B0i HA.out HX.out.fields.1);clear HA;have k4:=A0a HT.out 4 rfl
 go_wp2_with fail
 clear k4
 go_loopg [65] mn (fun gn i wr=>∃j:Nat,j<=mn/\gn=mn-j/\i= .int .i64 j/\Hid ((methods.take j).all (A3h pool)=true)/\Hid (Below w.heap.size w wr)/\Hid (wr.heap[bf]? =some (.cells #[.slice pa pn pc,.int .i64 th,.int .i64 su,.slice fa fn fc,.slice ma mn mc] 26)))
 case atStart=>exact⟨0,by omega,by omega,by go_num,hzz (by simp),HB,HT⟩
 clear HB HT;obtain⟨j,hj,rfl,rfl,HA,HB,HT⟩:=hrel;by_cases hlt:j<mn
 ·obtain⟨b,off,x,rfl,_,hv,q⟩:=Ss.getC (HX.out.methods.below HB.out) j hlt
  have HN:=hzz (fun(h:A3h pool x=false)=>show false=R from A7t HQ.out (fun hq=>by have h2:=hq.2.2.2.2.2;rw[A4u hv h]at h2;cases h2))
  have HY:=hzz (fun(h:A3h pool x=true)=>show(methods.take (j+1)).all (A3h pool)=true by rw[A5g _ _ _ _ hv,HA.out,h];rfl);have hxr:=HX.out.each x (List.mem_of_getElem? hv)
  have hxb:=HBE.out x (List.mem_of_getElem? hv);have HMB:=hzz (fun w' (hb:Below w.heap.size w w')=>C2s w' pa pn pc pool x (HX.out.pool.below hb) hpn (hxr.below hb) hxb.1 hxb.2.1 hxb.2.2.1 hxb.2.2.2)
  clear hxr hxb;generalize A3h pool x=ok at*;obtain⟨fl,nm,ds,st,lo,ca,cn,cc,code,ta,tn,tc,traps,na,nn,nc,maps⟩:=x;dsimp only at HMB
  have q0:wr.cell? ⟨b,off+j*8,none⟩=some (.int .i64 fl):=q 0 (by omega);have q1:wr.cell? ⟨b,off+j*8+1,none⟩=some (.int .i64 nm):=q 1 (by omega)
  have q2:wr.cell? ⟨b,off+j*8+2,none⟩=some (.int .i64 ds):=q 2 (by omega);have q3:wr.cell? ⟨b,off+j*8+3,none⟩=some (.int .i64 st):=q 3 (by omega)
  have q4:wr.cell? ⟨b,off+j*8+4,none⟩=some (.int .i64 lo):=q 4 (by omega);have q5:wr.cell? ⟨b,off+j*8+5,none⟩=some (.slice ca cn cc):=q 5 (by omega)
  have q6:wr.cell? ⟨b,off+j*8+6,none⟩=some (.slice ta tn tc):=q 6 (by omega);have q7:wr.cell? ⟨b,off+j*8+7,none⟩=some (.slice na nn nc):=q 7 (by omega);clear q hv
  have hal:Below wr.heap.size wr (wr.alloc (.cells #[.int .i64 fl,.int .i64 nm,.int .i64 ds,.int .i64 st,.int .i64 lo,.slice ca cn cc,.slice ta tn tc,.slice na nn nc] 65)):=A0f _ _
  have HXM:=hzz (heap_alloc_last wr (.cells #[.int .i64 fl,.int .i64 nm,.int .i64 ds,.int .i64 st,.int .i64 lo,.slice ca cn cc,.slice ta tn tc,.slice na nn nc] 65));have HB2:=btz HB hal
  have HT2:=hzz (A0c HT.out hal);have hj1:(j:Int)<mn:=by omega
  go_upto_region 12 with fail
  clear q0 q1 q2 q3 q4 q5 q6 q7 hal HB HT;generalize wr.alloc _=W1 at*;generalize wr.heap.size=bt at*;have p0:=A0a HXM.out 0 rfl;have p1:=A0a HXM.out 1 rfl;have p2:=A0a HXM.out 2 rfl
  have p3:=A0a HXM.out 3 rfl;have p4:=A0a HXM.out 4 rfl;have p5:=A0a HXM.out 5 rfl;have p6:=A0a HXM.out 6 rfl;have p7:=A0a HXM.out 7 rfl;dsimp at p0 p1 p2 p3 p4 p5 p6 p7
  have k0:=A0a HT2.out 0 rfl
  go_wp2_with fail
  refine(HMB.out W1 HB2.out).mono ?_;rintro e w2 ⟨rfl,hb⟩;have HB3:=btz HB2 hb;have HT3:=hzz (A0c HT2.out hb);clear hb HMB p0 p1 p2 p3 p4 p5 p6 p7 k0 HB2 HT2
  cases ok with
  |false=>
   have HF:=hzz (HN.out rfl)
   go_wp2_with fail
   go_ret;exact A0m.of HF.out HB3.out
  |true=>
  have HF:=hzz (HY.out rfl)
  go_wp2_with fail
  go_roundg (mn-(j+1))
  case measure=>omega
  exact⟨j+1,by omega,rfl,by go_num,HF,HB3,HT3⟩
 obtain rfl:mn=j:=by omega
 have HMA:=hzz (show methods.all (A3h pool)=true from B0i HA.out HX.out.methods.1);have HF:=hzz (D1n HQ.out ⟨HGD.out.1,HGD.out.2.1,HGD.out.2.2.1,HGD.out.2.2.2,HFA.out,HMA.out⟩)
 go_wp2_with fail
 go_ret;exact A0m.of HF.out HB.out
theorem A5b{P:Program}{ρ:Operand->Value}{o:Oper}{op:BinOp}{t:TypeId}{x y:Operand}{ty:TypeId}(ho:o.op= .binOp op t x y ty){v:Value}{w:World}
  (h:((eqGuard op t x y (ρ x) (ρ y)).run P w).andThen (fun _ w'=>(binOp op t (ρ x) (ρ y)).run P w')= .ok v w):(execOp ρ o).run P w= .ok (.value v) w:=by
 unfold execOp;simp only[ho,Sem.run_bind,Sem.run_pure];rw[h];rfl
theorem A4h{e:TypeId}{d:TypeDesc}(h1:Tryz.prog.underlying e=some d)(h2:(match d with| .struct _| .array _ _=>false|_=>true)=true)(w:World)(cs:Array Value)(i:Nat)(v:Value)(h3:cs[i]? =some v):(part e cs i).run Tryz.prog w= .ok v w:=by
 cases d<;>simp[part,isAgg,run_underlying h1,h3]at h2⊢
theorem A0t{W u:World}{a:Addr}{v:Value}(h:EqW W.drew u)(hc:W.cell? a=some v):u.cell? a=some v:=by rw[show u=W.drew from h];exact hc
theorem C6p{α β:Type}{f:α->β}{l m:List α}(h:l.map f=m.map f){j:Nat}{x y:α}(hx:l[j]? =some x)(hy:m[j]? =some y):f x=f y:=by
 have e:(l.map f)[j]? =(m.map f)[j]? :=by rw[h]
 rw[List.getElem?_map,List.getElem?_map,hx,hy]at e;simpa using e
theorem C2v:Tryz.prog.underlying 174=some (.struct (Tryz.prog.fieldsOf 174)):=by kernel_rfl
theorem D3s:Tryz.prog.stoodInHeld 174=false:=by kernel_rfl
theorem C8t:Tryz.prog.eqGuardType Tryz.prog.depth 174=false:=by kernel_rfl
theorem D2j:(Tryz.prog.fieldsOf 174).toList.map (fun f=>(f.name,f.type,f.offset))=[("Tag",3,0),("A",3,1)]:=by kernel_rfl
theorem C8s(w:World)(d:Nat)(x0 x1:Int):(Op.equalIn (d+1+1) 174 (.agg #[.int .i64 x0,.int .i64 x1]) (.agg #[.int .i64 x0,.int .i64 x1])).run Tryz.prog w= .ok true w:=by
 rw[run_equalIn_struct w (d+1) _ _ _ C2v D3s];have hl:=D2j
 match hf:(Tryz.prog.fieldsOf 174).toList,hl with
 |[f0,f1],hl=>
  simp only[List.map_cons,List.map_nil,List.cons.injEq,Prod.mk.injEq,and_true]at hl;obtain⟨⟨n0,t0,o0⟩,⟨n1,t1,o1⟩⟩:=hl;simp only[Op.eqFields,n0,n1,t0,t1,o0,o1]
  have i0:∀(i:Nat) (cs:Array Value) (w:World) (h:i<cs.size),(part 3 cs i).run Tryz.prog w= .ok cs[i] w:=fun i cs w h=>A4h Tryz.underlying3 rfl w cs i _ (Array.getElem?_eq_getElem h)
  simp[i0,run_equalIn_int _ _ _ _ _ _ _ Tryz.underlying3]
 |[],hl|[_],hl|_::_::_::_,hl=>simp at hl
theorem D5z(w:World)(x0 x1:Int)(y1 y2:Operand):((eqGuard .neq 174 y1 y2 (.agg #[.int .i64 x0,.int .i64 x1]) (.agg #[.int .i64 x0,.int .i64 x1])).run Tryz.prog w).andThen (fun _ w'=>(binOp .neq 174 (.agg #[.int .i64 x0,.int .i64 x1]) (.agg #[.int .i64 x0,.int .i64 x1])).run Tryz.prog w')= .ok (.bool false) w:=by
 have h:=C8s w 9998 x0 x1;rw[run_eqGuard_agg w _ _ _ _ _ _ C8t,Result.andThen_ok,run_neq_struct,h,Result.andThen_ok];rfl
theorem C3z:Tryz.prog.underlying 123=some (.struct (Tryz.prog.fieldsOf 123)):=by kernel_rfl
theorem D1v:Tryz.prog.stoodInHeld 123=false:=by kernel_rfl
theorem C9p:Tryz.prog.eqGuardType Tryz.prog.depth 123=false:=by kernel_rfl
theorem D3w:(Tryz.prog.fieldsOf 123).toList.map (fun f=>(f.name,f.type,f.offset))=[("From",3,0),("To",3,1),("At",3,2),("Class",3,3)]:=by kernel_rfl
theorem C9v(w:World)(d:Nat)(x0 x1 x2 x3:Int):(Op.equalIn (d+1+1) 123 (.agg #[.int .i64 x0,.int .i64 x1,.int .i64 x2,.int .i64 x3]) (.agg #[.int .i64 x0,.int .i64 x1,.int .i64 x2,.int .i64 x3])).run Tryz.prog w= .ok true w:=by
 rw[run_equalIn_struct w (d+1) _ _ _ C3z D1v];have hl:=D3w
 match hf:(Tryz.prog.fieldsOf 123).toList,hl with
 |[f0,f1,f2,f3],hl=>
  simp only[List.map_cons,List.map_nil,List.cons.injEq,Prod.mk.injEq,and_true]at hl;obtain⟨⟨n0,t0,o0⟩,⟨n1,t1,o1⟩,⟨n2,t2,o2⟩,⟨n3,t3,o3⟩⟩:=hl
  simp only[Op.eqFields,n0,n1,n2,n3,t0,t1,t2,t3,o0,o1,o2,o3]
  have i0:∀(i:Nat) (cs:Array Value) (w:World) (h:i<cs.size),(part 3 cs i).run Tryz.prog w= .ok cs[i] w:=fun i cs w h=>A4h Tryz.underlying3 rfl w cs i _ (Array.getElem?_eq_getElem h)
  simp[i0,run_equalIn_int _ _ _ _ _ _ _ Tryz.underlying3]
 |[],hl|[_],hl|[_,_],hl|[_,_,_],hl|_::_::_::_::_::_,hl=>simp at hl
theorem D4r(w:World)(x0 x1 x2 x3:Int)(y1 y2:Operand):((eqGuard .neq 123 y1 y2 (.agg #[.int .i64 x0,.int .i64 x1,.int .i64 x2,.int .i64 x3]) (.agg #[.int .i64 x0,.int .i64 x1,.int .i64 x2,.int .i64 x3])).run Tryz.prog w).andThen (fun _ w'=>(binOp .neq 123 (.agg #[.int .i64 x0,.int .i64 x1,.int .i64 x2,.int .i64 x3]) (.agg #[.int .i64 x0,.int .i64 x1,.int .i64 x2,.int .i64 x3])).run Tryz.prog w')= .ok (.bool false) w:=by
 have h:=C9v w 9998 x0 x1 x2 x3;rw[run_eqGuard_agg w _ _ _ _ _ _ C9p,Result.andThen_ok,run_neq_struct,h,Result.andThen_ok];rfl
theorem C0h:Tryz.prog.underlying 75=some (.struct (Tryz.prog.fieldsOf 75)):=by kernel_rfl
theorem C7u:Tryz.prog.stoodInHeld 75=false:=by kernel_rfl
theorem C3h:Tryz.prog.eqGuardType Tryz.prog.depth 75=false:=by kernel_rfl
theorem C9b:(Tryz.prog.fieldsOf 75).toList.map (fun f=>(f.name,f.type,f.offset))=[("Flags",3,0),("Name",3,1),("Desc",3,2)]:=by kernel_rfl
theorem C3e(w:World)(d:Nat)(x0 x1 x2:Int):(Op.equalIn (d+1+1) 75 (.agg #[.int .i64 x0,.int .i64 x1,.int .i64 x2]) (.agg #[.int .i64 x0,.int .i64 x1,.int .i64 x2])).run Tryz.prog w= .ok true w:=by
 rw[run_equalIn_struct w (d+1) _ _ _ C0h C7u];have hl:=C9b
 match hf:(Tryz.prog.fieldsOf 75).toList,hl with
 |[f0,f1,f2],hl=>
  simp only[List.map_cons,List.map_nil,List.cons.injEq,Prod.mk.injEq,and_true]at hl;obtain⟨⟨n0,t0,o0⟩,⟨n1,t1,o1⟩,⟨n2,t2,o2⟩⟩:=hl;simp only[Op.eqFields,n0,n1,n2,t0,t1,t2,o0,o1,o2]
  have i0:∀(i:Nat) (cs:Array Value) (w:World) (h:i<cs.size),(part 3 cs i).run Tryz.prog w= .ok cs[i] w:=fun i cs w h=>A4h Tryz.underlying3 rfl w cs i _ (Array.getElem?_eq_getElem h)
  simp[i0,run_equalIn_int _ _ _ _ _ _ _ Tryz.underlying3]
 |[],hl|[_],hl|[_,_],hl|_::_::_::_::_,hl=>simp at hl
theorem D0e(w:World)(x0 x1 x2:Int)(y1 y2:Operand):((eqGuard .neq 75 y1 y2 (.agg #[.int .i64 x0,.int .i64 x1,.int .i64 x2]) (.agg #[.int .i64 x0,.int .i64 x1,.int .i64 x2])).run Tryz.prog w).andThen (fun _ w'=>(binOp .neq 75 (.agg #[.int .i64 x0,.int .i64 x1,.int .i64 x2]) (.agg #[.int .i64 x0,.int .i64 x1,.int .i64 x2])).run Tryz.prog w')= .ok (.bool false) w:=by
 have h:=C3e w 9998 x0 x1 x2;rw[run_eqGuard_agg w _ _ _ _ _ _ C3h,Result.andThen_ok,run_neq_struct,h,Result.andThen_ok];rfl
theorem B2j(w:World)(a:Option Addr)(n cap:Nat)(b:Option Addr)(cb:Nat)(l:List KS)(hs:Ss 2 KS.cells w a n l)(ht:Ss 2 KS.cells w b n l)(hn:n<=1000000000):
  Calls Tryz.prog 76 #[.slice a n cap,.slice b n cb] w (A0m true w):=by
 have HS:=hzz hs;have HT:=hzz ht;clear hs ht;go_enter Tryz.func76,Tryz.ntmps76;have e1:((n:Int) !=(n:Int))=false:=by simp
 go_wp2_with fail
 go_loopg [13] n (fun gn i wr=>∃j:Nat,j<=n/\gn=n-j/\i= .int .i64 j/\Hid (Below w.heap.size w wr))
 case atStart=>exact⟨0,by omega,by omega,by go_num,hzz brz⟩
 obtain⟨j,hj,rfl,rfl,HB⟩:=hrel;by_cases hlt:j<n
 ·obtain⟨b1,off1,x,rfl,_,hv,p⟩:=Ss.getC (HS.out.below HB.out) j hlt;obtain⟨b2,off2,y,rfl,_,hv2,q⟩:=Ss.getC (HT.out.below HB.out) j hlt
  obtain rfl:x=y:=by rw[hv]at hv2;exact Option.some.inj hv2
  obtain⟨tg,sa⟩:=x;have p0:wr.cell? ⟨b1,off1+j*2,none⟩=some (.int .i64 tg):=p 0 (by omega);have p1:wr.cell? ⟨b1,off1+j*2+1,none⟩=some (.int .i64 sa):=p 1 (by omega)
  have q0:wr.cell? ⟨b2,off2+j*2,none⟩=some (.int .i64 tg):=q 0 (by omega);have q1:wr.cell? ⟨b2,off2+j*2+1,none⟩=some (.int .i64 sa):=q 1 (by omega);clear p q hv hv2
  have hj1:(j:Int)<n:=by omega
  go_upto_region 6 with fail
  have hSw:EqW wr.drew wr.drew:=rfl;have l0:=fun u (h:EqW wr.drew u)=>A0t h p0
  have l1:=fun u (h:EqW wr.drew u)=>A0t h p1
  have m0:=fun u (h:EqW wr.drew u)=>A0t h q0
  have m1:=fun u (h:EqW wr.drew u)=>A0t h q1
  have HNE:=hzz (fun u o1 o2=>D5z u tg sa o1 o2);clear p0 p1 q0 q1
  refine A0g (EqW wr.drew) (.stir [(0,true),(1,true),(2,true),(3,true),(4,true),(5,true),(6,true),(7,true),(8,true)]) (by kernel_rfl) (by kernel_rfl) (fun c a d v w h=>by cases d<;>exact h) ?_
  refine A0k (EqW wr.drew) (fun y hy=>hy) rfl ?_
  iterate 8
   refine A0h fun K hK=>tkX ?_
   go_simp
   try go_bits
   refine hK _ ?_;clear hK K
  refine A0h (fun K hK=> ?_);simp only[A2h,List.getElem?_toArray,List.getElem?_cons_succ,List.getElem?_cons_zero];rw[if_pos (by rfl)];refine⟨Value.bool false,fun w' hS'=> ?_,?_⟩
  ·exact A5b (by rfl) (HNE.out w' _ _)
  go_simp;refine hK _ ?_;clear hK K;refine A0n (fun u hu=> ?_);obtain rfl:u=wr.drew:=hu;clear l0 l1 m0 m1 HNE hSw
  go_wp2_with fail
  go_roundg (n-(j+1))
  case measure=>omega
  exact⟨j+1,by omega,rfl,by go_num,hzz HB.out.drew⟩
 obtain rfl:n=j:=by omega
 go_wp2_with fail
 go_ret;exact⟨rfl,HB.out⟩
theorem C0y(w:World)(m m2:KM)(h:m.Rd w)(h2:m2.Rd w)(hp:m.p=m2.p)(hb1:m.cn<=1000000000)(hb2:m.tn<=1000000000)(hb3:m.mn<=1000000000)(hb4:∀p∈m.maps,p.ln<=1000000000/\p.sn<=1000000000):
  Calls Tryz.prog 38 #[.agg #[.int .i64 m.fl,.int .i64 m.nm,.int .i64 m.ds,.int .i64 m.st,.int .i64 m.lo,.slice m.ca m.cn m.cc,.slice m.ta m.tn m.tc,.slice m.ma m.mn m.mc],.agg #[.int .i64 m2.fl,.int .i64 m2.nm,.int .i64 m2.ds,.int .i64 m2.st,.int .i64 m2.lo,.slice m2.ca m2.cn m2.cc,.slice m2.ta m2.tn m2.tc,.slice m2.ma m2.mn m2.mc]] w (A0m true w):=by
 have HX:=hzz h;have HY:=hzz h2;have HB4:=hzz hb4;have l1:=h.code.1;have l2:=h.traps.1;have l3:=h.maps.1;have r1:=h2.code.1;have r2:=h2.traps.1;have r3:=h2.maps.1;clear h h2 hb4
 obtain⟨fl,nm,ds,st,lo,ca,cn,cc,code,ta,tn,tc,traps,na,nn,nc,maps⟩:=m;obtain⟨fl2,nm2,ds2,st2,lo2,ca2,cn2,cc2,code2,ta2,tn2,tc2,traps2,na2,nn2,nc2,maps2⟩:=m2
 simp only[KM.p,KM.mk.injEq]at hp;obtain⟨rfl,rfl,rfl,rfl,rfl,-,-,-,rfl,-,-,-,rfl,-,-,-,hpm⟩:=hp;dsimp only at*;have l4:=congrArg List.length hpm;rw[List.length_map,List.length_map]at l4
 obtain rfl:cn=cn2:=by omega
 obtain rfl:tn=tn2:=by omega
 obtain rfl:nn=nn2:=by omega
 have HPM:=hzz hpm;clear l1 l2 l3 r1 r2 r3 l4 hpm
 have hal1:Below w.heap.size w (w.alloc (.cells #[.int .i64 fl,.int .i64 nm,.int .i64 ds,.int .i64 st,.int .i64 lo,.slice ca cn cc,.slice ta tn tc,.slice na nn nc] 65)):=A0f _ _
 have hal2:=A0f (w.alloc (.cells #[.int .i64 fl,.int .i64 nm,.int .i64 ds,.int .i64 st,.int .i64 lo,.slice ca cn cc,.slice ta tn tc,.slice na nn nc] 65)) (.cells #[.int .i64 fl,.int .i64 nm,.int .i64 ds,.int .i64 st,.int .i64 lo,.slice ca2 cn cc2,.slice ta2 tn tc2,.slice na2 nn nc2] 65)
 have HT1:=hzz (A0c (heap_alloc_last w (.cells #[.int .i64 fl,.int .i64 nm,.int .i64 ds,.int .i64 st,.int .i64 lo,.slice ca cn cc,.slice ta tn tc,.slice na nn nc] 65)) hal2)
 have HT2:=heap_alloc_last (w.alloc (.cells #[.int .i64 fl,.int .i64 nm,.int .i64 ds,.int .i64 st,.int .i64 lo,.slice ca cn cc,.slice ta tn tc,.slice na nn nc] 65)) (.cells #[.int .i64 fl,.int .i64 nm,.int .i64 ds,.int .i64 st,.int .i64 lo,.slice ca2 cn cc2,.slice ta2 tn tc2,.slice na2 nn nc2] 65)
 rw[show(w.alloc (.cells #[.int .i64 fl,.int .i64 nm,.int .i64 ds,.int .i64 st,.int .i64 lo,.slice ca cn cc,.slice ta tn tc,.slice na nn nc] 65)).heap.size=w.heap.size+1 by simp]at HT2
 replace HT2:=hzz HT2;have HB0:=hzz (hal1.trans (hal2.mono hal1.size));clear hal1 hal2;go_enter Tryz.func38,Tryz.ntmps38
 go_upto_region 1 with fail
 generalize(w.alloc (.cells #[.int .i64 fl,.int .i64 nm,.int .i64 ds,.int .i64 st,.int .i64 lo,.slice ca cn cc,.slice ta tn tc,.slice na nn nc] 65)).alloc (.cells #[.int .i64 fl,.int .i64 nm,.int .i64 ds,.int .i64 st,.int .i64 lo,.slice ca2 cn cc2,.slice ta2 tn tc2,.slice na2 nn nc2] 65)=W0 at*
 obtain⟨u1,hu1⟩:∃b,b=w.heap.size:=⟨_,rfl⟩;obtain⟨u2,hu2⟩:∃b,b=w.heap.size+1:=⟨_,rfl⟩;rw[<-hu1]at HT1;rw[<-hu2]at HT2;rw[<-hu2,<-hu1];clear hu1 hu2;have k0:=A0a HT1.out 0 rfl
 have k1:=A0a HT1.out 1 rfl;have k2:=A0a HT1.out 2 rfl;have k3:=A0a HT1.out 3 rfl;have k4:=A0a HT1.out 4 rfl;have k5:=A0a HT1.out 5 rfl;have k6:=A0a HT1.out 6 rfl
 have k7:=A0a HT1.out 7 rfl;have j0:=A0a HT2.out 0 rfl;have j1:=A0a HT2.out 1 rfl;have j2:=A0a HT2.out 2 rfl;have j3:=A0a HT2.out 3 rfl;have j4:=A0a HT2.out 4 rfl
 have j5:=A0a HT2.out 5 rfl;have j6:=A0a HT2.out 6 rfl;have j7:=A0a HT2.out 7 rfl;dsimp at k0 k1 k2 k3 k4 k5 k6 k7 j0 j1 j2 j3 j4 j5 j6 j7;have e0:(fl !=fl)=false:=by simp
 have e1:(nm !=nm)=false:=by simp
 have e2:(ds !=ds)=false:=by simp
 have e3:(st !=st)=false:=by simp
 have e4:(lo !=lo)=false:=by simp
 have e5:(code !=code)=false:=by simp
 have e6:((tn:Int) !=(tn:Int))=false:=by simp
 have e7:((nn:Int) !=(nn:Int))=false:=by simp
 have cv1:=B4k (HX.out.code.below HB0.out) cc;have cv2:=B4k (HY.out.code.below HB0.out) cc2
 go_cut [66] (fun r wx=>r= .bool false/\wx=W0)
 case first=>
  go_wp2_with fail
  go_meet;exact⟨by simp,rfl⟩
 obtain⟨rfl,rfl⟩:=hcut;clear e0 e1 e2 e3 e4 e5 e6 e7 cv1 cv2 k0 k1 k2 k3 k4 k5 j0 j1 j2 j3 j4 j5 k7 j7 j6
 go_wp2_with fail
 clear k6
 go_loopg [70] tn (fun gn i wr=>∃j:Nat,j<=tn/\gn=tn-j/\i= .int .i64 j/\Hid (Below wc.heap.size wc wr))
 case atStart=>exact⟨0,by omega,by omega,by go_num,hzz brz⟩
 obtain⟨j,hj,rfl,rfl,HB⟩:=hrel;have HWB:=btz HB0 HB.out;by_cases hlt:j<tn
 ·obtain⟨b1,off1,x,rfl,_,hv,p⟩:=Ss.getC (HX.out.traps.below HWB.out) j hlt;obtain⟨b2,off2,y,rfl,_,hv2,q⟩:=Ss.getC (HY.out.traps.below HWB.out) j hlt
  obtain rfl:x=y:=by rw[hv]at hv2;exact Option.some.inj hv2
  obtain⟨fr,tt,pl,cl⟩:=x;have p0:wr.cell? ⟨b1,off1+j*4,none⟩=some (.int .i64 fr):=p 0 (by omega);have p1:wr.cell? ⟨b1,off1+j*4+1,none⟩=some (.int .i64 tt):=p 1 (by omega)
  have p2:wr.cell? ⟨b1,off1+j*4+2,none⟩=some (.int .i64 pl):=p 2 (by omega);have p3:wr.cell? ⟨b1,off1+j*4+3,none⟩=some (.int .i64 cl):=p 3 (by omega)
  have q0:wr.cell? ⟨b2,off2+j*4,none⟩=some (.int .i64 fr):=q 0 (by omega);have q1:wr.cell? ⟨b2,off2+j*4+1,none⟩=some (.int .i64 tt):=q 1 (by omega)
  have q2:wr.cell? ⟨b2,off2+j*4+2,none⟩=some (.int .i64 pl):=q 2 (by omega);have q3:wr.cell? ⟨b2,off2+j*4+3,none⟩=some (.int .i64 cl):=q 3 (by omega)
  have k6:=A0a (A0c HT1.out HB.out) 6 rfl;have j6:=A0a (A0c HT2.out HB.out) 6 rfl;dsimp at k6 j6;clear p q hv hv2;have hj1:(j:Int)<tn:=by omega
  go_upto_region 6 with fail
  have hSw:EqW wr.drew wr.drew:=rfl;have l0:=fun u (h:EqW wr.drew u)=>A0t h p0
  have l1:=fun u (h:EqW wr.drew u)=>A0t h p1
  have l2:=fun u (h:EqW wr.drew u)=>A0t h p2
  have l3:=fun u (h:EqW wr.drew u)=>A0t h p3
  have m0:=fun u (h:EqW wr.drew u)=>A0t h q0
  have m1:=fun u (h:EqW wr.drew u)=>A0t h q1
  have m2:=fun u (h:EqW wr.drew u)=>A0t h q2
  have m3:=fun u (h:EqW wr.drew u)=>A0t h q3
  have n0:=fun u (h:EqW wr.drew u)=>A0t h k6
  have n1:=fun u (h:EqW wr.drew u)=>A0t h j6
  have HNE:=hzz (fun u o1 o2=>D4r u fr tt pl cl o1 o2);clear p0 p1 p2 p3 q0 q1 q2 q3 k6 j6
  refine A0g (EqW wr.drew) (.stir [(0,true),(1,true),(2,true),(3,true),(4,true),(5,true),(6,true),(7,true),(8,true),(9,true),(10,true)]) (by kernel_rfl) (by kernel_rfl) (fun c a d v w h=>by cases d<;>exact h) ?_
  refine A0k (EqW wr.drew) (fun y hy=>hy) rfl ?_
  iterate 10
   refine A0h fun K hK=>tkX ?_
   go_simp
   try go_bits
   refine hK _ ?_;clear hK K
  refine A0h (fun K hK=> ?_);simp only[A2h,List.getElem?_toArray,List.getElem?_cons_succ,List.getElem?_cons_zero];rw[if_pos (by rfl)];refine⟨Value.bool false,fun w' hS'=> ?_,?_⟩
  ·exact A5b (by rfl) (HNE.out w' _ _)
  go_simp;refine hK _ ?_;clear hK K;refine A0n (fun u hu=> ?_);obtain rfl:u=wr.drew:=hu;clear l0 l1 l2 l3 m0 m1 m2 m3 n0 n1 HNE hSw
  go_wp2_with fail
  go_roundg (tn-(j+1))
  case measure=>omega
  exact⟨j+1,by omega,rfl,by go_num,hzz HB.out.drew⟩
 obtain rfl:tn=j:=by omega
 have HT1':=hzz (A0c HT1.out HB.out);have HT2':=hzz (A0c HT2.out HB.out);clear HB HB0 HT1 HT2;have k7:=A0a HT1'.out 7 rfl;dsimp at k7
 go_wp2_with fail
 clear k7
 go_loopg [88] nn (fun gn i wx=>∃j:Nat,j<=nn/\gn=nn-j/\i= .int .i64 j/\Hid (Below wr.heap.size wr wx))
 case atStart=>exact⟨0,by omega,by omega,by go_num,hzz brz⟩
 rename_i wq
 obtain⟨j,hj,rfl,rfl,HB⟩:=hrel;have HWC:=btz HWB HB.out;by_cases hlt:j<nn
 ·obtain⟨b1,off1,x,rfl,_,hv,p⟩:=Ss.getC (HX.out.maps.below HWC.out) j hlt;obtain⟨b2,off2,y,rfl,_,hv2,q⟩:=Ss.getC (HY.out.maps.below HWC.out) j hlt;have hpp:=C6p HPM.out hv hv2
  have hxr:=HX.out.each x (List.mem_of_getElem? hv);have hyr:=HY.out.each y (List.mem_of_getElem? hv2);have hx4:=HB4.out x (List.mem_of_getElem? hv);have s1:=hxr.loc.1;have s2:=hxr.stk.1
  have s3:=hyr.loc.1;have s4:=hyr.stk.1;obtain⟨pl,la,ln,lc,loc,sa,sn,sc,stk⟩:=x;obtain⟨pl2,la2,ln2,lc2,loc2,sa2,sn2,sc2,stk2⟩:=y;simp only[KP.p,KP.mk.injEq]at hpp
  obtain⟨rfl,-,-,-,rfl,-,-,-,rfl⟩:=hpp;dsimp only at s1 s2 s3 s4 hx4;obtain rfl:ln=ln2:=by omega
  obtain rfl:sn=sn2:=by omega
  have HC1:=hzz (fun w' (hb:Below w.heap.size w w')=>B2j w' la ln lc la2 lc2 loc (hxr.loc.below hb) (hyr.loc.below hb) hx4.1)
  have HC2:=hzz (fun w' (hb:Below w.heap.size w w')=>B2j w' sa sn sc sa2 sc2 stk (hxr.stk.below hb) (hyr.stk.below hb) hx4.2)
  have p0:wr.cell? ⟨b1,off1+j*3,none⟩=some (.int .i64 pl):=p 0 (by omega);have p1:wr.cell? ⟨b1,off1+j*3+1,none⟩=some (.slice la ln lc):=p 1 (by omega)
  have p2:wr.cell? ⟨b1,off1+j*3+2,none⟩=some (.slice sa sn sc):=p 2 (by omega);have q0:wr.cell? ⟨b2,off2+j*3,none⟩=some (.int .i64 pl):=q 0 (by omega)
  have q1:wr.cell? ⟨b2,off2+j*3+1,none⟩=some (.slice la2 ln lc2):=q 1 (by omega);have q2:wr.cell? ⟨b2,off2+j*3+2,none⟩=some (.slice sa2 sn sc2):=q 2 (by omega)
  have k7:=A0a (A0c HT1'.out HB.out) 7 rfl;have j7:=A0a (A0c HT2'.out HB.out) 7 rfl;dsimp at k7 j7;clear p q hv hv2 s1 s2 s3 s4 hx4 hxr hyr;have hj1:(j:Int)<nn:=by omega
  have ep:(pl !=pl)=false:=by simp
  go_upto_region 12 with fail
  have hSw:Below wr.heap.size wr wr.drew:=brz.drew;have l0:=fun u (h:Below wr.heap.size wr u)=>A0e h p0
  have l1:=fun u (h:Below wr.heap.size wr u)=>A0e h p1
  have l2:=fun u (h:Below wr.heap.size wr u)=>A0e h p2
  have m0:=fun u (h:Below wr.heap.size wr u)=>A0e h q0
  have m1:=fun u (h:Below wr.heap.size wr u)=>A0e h q1
  have m2:=fun u (h:Below wr.heap.size wr u)=>A0e h q2
  have n0:=fun u (h:Below wr.heap.size wr u)=>A0e h k7
  have n1:=fun u (h:Below wr.heap.size wr u)=>A0e h j7
  have HD1:=hzz (fun u (h:Below wr.heap.size wr u)=>HC1.out u (HWC.out.trans (h.mono HWC.out.size)));have HD2:=hzz (fun u (h:Below wr.heap.size wr u)=>HC2.out u (HWC.out.trans (h.mono HWC.out.size)))
  clear p0 p1 p2 q0 q1 q2 k7 j7 HC1 HC2
  refine A0g (Below wr.heap.size wr) (.stir [(0,true),(1,true),(2,true),(3,true),(4,true),(5,true),(6,true),(7,true),(8,true),(9,true),(10,true),(11,true),(12,true),(13,true),(14,true),(15,true),(16,true),(17,true),(18,true),(19,true),(20,true),(21,true),(22,true),(23,true),(24,true),(25,true),(26,false),(27,true),(28,true),(29,true),(30,true),(31,true),(32,true),(33,true),(34,true),(35,true),(36,true),(37,true),(38,true),(39,true),(40,true),(41,true),(42,false),(43,true),(44,true)]) (by kernel_rfl) (by kernel_rfl) (fun c a d v w h=>by cases d<;>exact h) ?_
  refine A0k (Below wr.heap.size wr) (fun y hy=>hy) hSw ?_
  iterate 26
   refine A0h fun K hK=>tkX ?_
   go_simp
   try go_bits
   refine hK _ ?_;clear hK K
  refine A0h (fun K hK=> ?_);simp only[A2h,List.getElem?_toArray,List.getElem?_cons_succ,List.getElem?_cons_zero];rw[if_pos (by rfl)];apply Exists.intro;refine⟨fun w' hS'=> ?_,?_⟩
  ·go_simp;exact A4r.call (Calls.mono ((HD1.out w' hS')) fun e w'' h=>⟨h.1,(fun hb''=>hS'.trans (hb''.mono hS'.size)) h.2⟩)
  go_simp;refine hK _ ?_;clear hK K
  iterate 15
   refine A0h fun K hK=>tkX ?_
   go_simp
   try go_bits
   refine hK _ ?_;clear hK K
  refine A0h (fun K hK=> ?_);simp only[A2h,List.getElem?_toArray,List.getElem?_cons_succ,List.getElem?_cons_zero];rw[if_pos (by rfl)];apply Exists.intro;refine⟨fun w' hS'=> ?_,?_⟩
  ·go_simp;exact A4r.call (Calls.mono ((HD2.out w' hS')) fun e w'' h=>⟨h.1,(fun hb''=>hS'.trans (hb''.mono hS'.size)) h.2⟩)
  go_simp;refine hK _ ?_;clear hK K
  iterate 2
   refine A0h fun K hK=>tkX ?_
   go_simp
   try go_bits
   refine hK _ ?_;clear hK K
  refine A0n (fun u hu=> ?_);clear l0 l1 l2 m0 m1 m2 n0 n1 HD1 HD2 hSw
  go_wp2_with fail
  go_roundg (nn-(j+1))
  case measure=>omega
  exact⟨j+1,by omega,rfl,by go_num,btz HB hu⟩
 obtain rfl:nn=j:=by omega
 go_wp2_with fail
 go_ret;exact⟨rfl,HWC.out⟩
structure KF.Sml(f:KF):Prop where
 pn:f.pn<=65536
 fn:f.fn<=1000000000
 mn:f.mn<=1000000000
 each:∀m∈f.methods,m.cn<=1000000000/\m.tn<=1000000000/\m.mn<=1000000000/\∀p∈m.maps,p.ln<=1000000000/\p.sn<=1000000000
theorem B8u(w:World)(x y:KF)(hx:x.Rd w)(hy:y.Rd w)(hp:x.p=y.p)(hb:x.Sml):
  Calls Tryz.prog 15 #[.agg x.vals,.agg y.vals] w (A0m true w):=by
 have HX:=hzz hx;have HY:=hzz hy;have hpn:=hb.pn;have hfn:=hb.fn;have hmn:=hb.mn;have HBE:=hzz hb.each;have l1:=hx.pool.1;have l2:=hx.fields.1;have l3:=hx.methods.1;have r1:=hy.pool.1
 have r2:=hy.fields.1;have r3:=hy.methods.1;clear hx hy hb;obtain⟨pa,pn,pc,pool,th,su,fa,fn,fc,fields,ma,mn,mc,methods⟩:=x
 obtain⟨pa2,pn2,pc2,pool2,th2,su2,fa2,fn2,fc2,fields2,ma2,mn2,mc2,methods2⟩:=y;simp only[KF.p,KF.mk.injEq]at hp;obtain⟨-,-,-,rfl,rfl,rfl,-,-,-,rfl,-,-,-,hpm⟩:=hp;dsimp only at*
 have l4:=congrArg List.length hpm;rw[List.length_map,List.length_map]at l4;obtain rfl:pn=pn2:=by omega
 obtain rfl:fn=fn2:=by omega
 obtain rfl:mn=mn2:=by omega
 have HPM:=hzz hpm;unfold KF.vals;dsimp only;clear l1 l2 l3 r1 r2 r3 l4 hpm
 have hal1:Below w.heap.size w (w.alloc (.cells #[.slice pa pn pc,.int .i64 th,.int .i64 su,.slice fa fn fc,.slice ma mn mc] 26)):=A0f _ _
 have hal2:=A0f (w.alloc (.cells #[.slice pa pn pc,.int .i64 th,.int .i64 su,.slice fa fn fc,.slice ma mn mc] 26)) (.cells #[.slice pa2 pn pc2,.int .i64 th,.int .i64 su,.slice fa2 fn fc2,.slice ma2 mn mc2] 26)
 have HT1:=hzz (A0c (heap_alloc_last w (.cells #[.slice pa pn pc,.int .i64 th,.int .i64 su,.slice fa fn fc,.slice ma mn mc] 26)) hal2)
 have HT2:=heap_alloc_last (w.alloc (.cells #[.slice pa pn pc,.int .i64 th,.int .i64 su,.slice fa fn fc,.slice ma mn mc] 26)) (.cells #[.slice pa2 pn pc2,.int .i64 th,.int .i64 su,.slice fa2 fn fc2,.slice ma2 mn mc2] 26)
 rw[show(w.alloc (.cells #[.slice pa pn pc,.int .i64 th,.int .i64 su,.slice fa fn fc,.slice ma mn mc] 26)).heap.size=w.heap.size+1 by simp]at HT2;replace HT2:=hzz HT2
 have HB0:=hzz (hal1.trans (hal2.mono hal1.size));clear hal1 hal2;go_enter Tryz.func15,Tryz.ntmps15
 go_upto_region 1 with fail
 generalize(w.alloc (.cells #[.slice pa pn pc,.int .i64 th,.int .i64 su,.slice fa fn fc,.slice ma mn mc] 26)).alloc (.cells #[.slice pa2 pn pc2,.int .i64 th,.int .i64 su,.slice fa2 fn fc2,.slice ma2 mn mc2] 26)=W0 at*
 obtain⟨u1,hu1⟩:∃b,b=w.heap.size:=⟨_,rfl⟩;obtain⟨u2,hu2⟩:∃b,b=w.heap.size+1:=⟨_,rfl⟩;rw[<-hu1]at HT1;rw[<-hu2]at HT2;rw[<-hu2,<-hu1];clear hu1 hu2
 have HSK:=hzz (D3m W0 pa pa2 pn pc pc2 pool (HX.out.pool.below HB0.out) (HY.out.pool.below HB0.out) hpn)
 go_cut [44] (fun r wx=>r= .bool false/\Hid (Below W0.heap.size W0 wx))
 case first=>
  have k0:=A0a HT1.out 0 rfl;have j0:=A0a HT2.out 0 rfl;dsimp at k0 j0;have e1:(th !=th)=false:=by simp
  have e2:(su !=su)=false:=by simp
  have e3:((fn:Int) !=(fn:Int))=false:=by simp
  have e4:((mn:Int) !=(mn:Int))=false:=by simp
  go_wp2_with fail
  refine HSK.out.mono ?_;rintro e W1 ⟨rfl,hb⟩;have k1:=A0a (A0c HT1.out hb) 1 rfl;have j1:=A0a (A0c HT2.out hb) 1 rfl;have k2:=A0a (A0c HT1.out hb) 2 rfl
  have j2:=A0a (A0c HT2.out hb) 2 rfl;have k3:=A0a (A0c HT1.out hb) 3 rfl;have j3:=A0a (A0c HT2.out hb) 3 rfl;have k4:=A0a (A0c HT1.out hb) 4 rfl
  have j4:=A0a (A0c HT2.out hb) 4 rfl;dsimp at k1 j1 k2 j2 k3 j3 k4 j4
  go_wp2_with fail
  go_meet;exact⟨by simp,hzz hb⟩
 obtain⟨rfl,HBC⟩:=hcut;have HB1:=btz HB0 HBC.out;have HR1:=hzz (A0c HT1.out HBC.out);have HR2:=hzz (A0c HT2.out HBC.out);clear HSK HBC HB0 HT1 HT2;have k3:=A0a HR1.out 3 rfl
 dsimp at k3
 go_wp2_with fail
 clear k3
 go_loopg [48] fn (fun gn i wr=>∃j:Nat,j<=fn/\gn=fn-j/\i= .int .i64 j/\Hid (Below w.heap.size w wr)/\Hid (wr.heap[u1]? =some (.cells #[.slice pa pn pc,.int .i64 th,.int .i64 su,.slice fa fn fc,.slice ma mn mc] 26))/\Hid (wr.heap[u2]? =some (.cells #[.slice pa2 pn pc2,.int .i64 th,.int .i64 su,.slice fa2 fn fc2,.slice ma2 mn mc2] 26)))
 case atStart=>exact⟨0,by omega,by omega,by go_num,HB1,HR1,HR2⟩
 clear HB1 HR1 HR2;obtain⟨j,hj,rfl,rfl,HB,HR1,HR2⟩:=hrel;by_cases hlt:j<fn
 ·obtain⟨b1,off1,x,rfl,_,hv,p⟩:=Ss.getC (HX.out.fields.below HB.out) j hlt;obtain⟨b2,off2,y,rfl,_,hv2,q⟩:=Ss.getC (HY.out.fields.below HB.out) j hlt
  obtain rfl:x=y:=by rw[hv]at hv2;exact Option.some.inj hv2
  obtain⟨fl,nm,ds⟩:=x;have p0:wr.cell? ⟨b1,off1+j*3,none⟩=some (.int .i64 fl):=p 0 (by omega);have p1:wr.cell? ⟨b1,off1+j*3+1,none⟩=some (.int .i64 nm):=p 1 (by omega)
  have p2:wr.cell? ⟨b1,off1+j*3+2,none⟩=some (.int .i64 ds):=p 2 (by omega);have q0:wr.cell? ⟨b2,off2+j*3,none⟩=some (.int .i64 fl):=q 0 (by omega)
  have q1:wr.cell? ⟨b2,off2+j*3+1,none⟩=some (.int .i64 nm):=q 1 (by omega);have q2:wr.cell? ⟨b2,off2+j*3+2,none⟩=some (.int .i64 ds):=q 2 (by omega);have k3:=A0a HR1.out 3 rfl
  have j3:=A0a HR2.out 3 rfl;dsimp at k3 j3;clear p q hv hv2;have hj1:(j:Int)<fn:=by omega
  go_upto_region 6 with fail
  have hSw:EqW wr.drew wr.drew:=rfl;have l0:=fun u (h:EqW wr.drew u)=>A0t h p0
  have l1:=fun u (h:EqW wr.drew u)=>A0t h p1
  have l2:=fun u (h:EqW wr.drew u)=>A0t h p2
  have m0:=fun u (h:EqW wr.drew u)=>A0t h q0
  have m1:=fun u (h:EqW wr.drew u)=>A0t h q1
  have m2:=fun u (h:EqW wr.drew u)=>A0t h q2
  have n0:=fun u (h:EqW wr.drew u)=>A0t h k3
  have n1:=fun u (h:EqW wr.drew u)=>A0t h j3
  have HNE:=hzz (fun u o1 o2=>D0e u fl nm ds o1 o2);clear p0 p1 p2 q0 q1 q2 k3 j3
  refine A0g (EqW wr.drew) (.stir [(0,true),(1,true),(2,true),(3,true),(4,true),(5,true),(6,true),(7,true),(8,true),(9,true),(10,true)]) (by kernel_rfl) (by kernel_rfl) (fun c a d v w h=>by cases d<;>exact h) ?_
  refine A0k (EqW wr.drew) (fun y hy=>hy) rfl ?_
  iterate 10
   refine A0h fun K hK=>tkX ?_
   go_simp
   try go_bits
   refine hK _ ?_;clear hK K
  refine A0h (fun K hK=> ?_);simp only[A2h,List.getElem?_toArray,List.getElem?_cons_succ,List.getElem?_cons_zero];rw[if_pos (by rfl)];refine⟨Value.bool false,fun w' hS'=> ?_,?_⟩
  ·exact A5b (by rfl) (HNE.out w' _ _)
  go_simp;refine hK _ ?_;clear hK K;refine A0n (fun u hu=> ?_);obtain rfl:u=wr.drew:=hu;clear l0 l1 l2 m0 m1 m2 n0 n1 HNE hSw
  go_wp2_with fail
  go_roundg (fn-(j+1))
  case measure=>omega
  exact⟨j+1,by omega,rfl,by go_num,hzz HB.out.drew,hzz (A0c HR1.out brz.drew),hzz (A0c HR2.out brz.drew)⟩
 obtain rfl:fn=j:=by omega
 have k4:=A0a HR1.out 4 rfl;dsimp at k4
 go_wp2_with fail
 clear k4
 go_loopg [66] mn (fun gn i wr=>∃j:Nat,j<=mn/\gn=mn-j/\i= .int .i64 j/\Hid (Below w.heap.size w wr)/\Hid (wr.heap[u1]? =some (.cells #[.slice pa pn pc,.int .i64 th,.int .i64 su,.slice fa fn fc,.slice ma mn mc] 26))/\Hid (wr.heap[u2]? =some (.cells #[.slice pa2 pn pc2,.int .i64 th,.int .i64 su,.slice fa2 fn fc2,.slice ma2 mn mc2] 26)))
 case atStart=>exact⟨0,by omega,by omega,by go_num,HB,HR1,HR2⟩
 clear HB HR1 HR2;obtain⟨j,hj,rfl,rfl,HB,HR1,HR2⟩:=hrel;by_cases hlt:j<mn
 ·obtain⟨b1,off1,x,rfl,_,hv,p⟩:=Ss.getC (HX.out.methods.below HB.out) j hlt;obtain⟨b2,off2,y,rfl,_,hv2,q⟩:=Ss.getC (HY.out.methods.below HB.out) j hlt;have hpp:=C6p HPM.out hv hv2
  have hxr:=HX.out.each x (List.mem_of_getElem? hv);have hyr:=HY.out.each y (List.mem_of_getElem? hv2);have hx4:=HBE.out x (List.mem_of_getElem? hv)
  have HCM:=hzz (fun w' (h:Below w.heap.size w w')=>C0y w' x y (hxr.below h) (hyr.below h) hpp hx4.1 hx4.2.1 hx4.2.2.1 hx4.2.2.2);clear hpp hxr hyr hx4
  obtain⟨fl,nm,ds,st,lo,ca,cn,cc,code,ta,tn,tc,traps,na,nn,nc,maps⟩:=x;obtain⟨fl2,nm2,ds2,st2,lo2,ca2,cn2,cc2,code2,ta2,tn2,tc2,traps2,na2,nn2,nc2,maps2⟩:=y;dsimp only at HCM
  have p0:wr.cell? ⟨b1,off1+j*8,none⟩=some (.int .i64 fl):=p 0 (by omega);have p1:wr.cell? ⟨b1,off1+j*8+1,none⟩=some (.int .i64 nm):=p 1 (by omega)
  have p2:wr.cell? ⟨b1,off1+j*8+2,none⟩=some (.int .i64 ds):=p 2 (by omega);have p3:wr.cell? ⟨b1,off1+j*8+3,none⟩=some (.int .i64 st):=p 3 (by omega)
  have p4:wr.cell? ⟨b1,off1+j*8+4,none⟩=some (.int .i64 lo):=p 4 (by omega);have p5:wr.cell? ⟨b1,off1+j*8+5,none⟩=some (.slice ca cn cc):=p 5 (by omega)
  have p6:wr.cell? ⟨b1,off1+j*8+6,none⟩=some (.slice ta tn tc):=p 6 (by omega);have p7:wr.cell? ⟨b1,off1+j*8+7,none⟩=some (.slice na nn nc):=p 7 (by omega)
  have q0:wr.cell? ⟨b2,off2+j*8,none⟩=some (.int .i64 fl2):=q 0 (by omega);have q1:wr.cell? ⟨b2,off2+j*8+1,none⟩=some (.int .i64 nm2):=q 1 (by omega)
  have q2:wr.cell? ⟨b2,off2+j*8+2,none⟩=some (.int .i64 ds2):=q 2 (by omega);have q3:wr.cell? ⟨b2,off2+j*8+3,none⟩=some (.int .i64 st2):=q 3 (by omega)
  have q4:wr.cell? ⟨b2,off2+j*8+4,none⟩=some (.int .i64 lo2):=q 4 (by omega);have q5:wr.cell? ⟨b2,off2+j*8+5,none⟩=some (.slice ca2 cn2 cc2):=q 5 (by omega)
  have q6:wr.cell? ⟨b2,off2+j*8+6,none⟩=some (.slice ta2 tn2 tc2):=q 6 (by omega);have q7:wr.cell? ⟨b2,off2+j*8+7,none⟩=some (.slice na2 nn2 nc2):=q 7 (by omega)
  have k4:=A0a HR1.out 4 rfl;have j4:=A0a HR2.out 4 rfl;dsimp at k4 j4;clear p q hv hv2;have hj1:(j:Int)<mn:=by omega
  go_upto_region 12 with fail
  have hSw:Below wr.heap.size wr wr.drew:=brz.drew;have l0:=fun u (h:Below wr.heap.size wr u)=>A0e h p0
  have l1:=fun u (h:Below wr.heap.size wr u)=>A0e h p1
  have l2:=fun u (h:Below wr.heap.size wr u)=>A0e h p2
  have l3:=fun u (h:Below wr.heap.size wr u)=>A0e h p3
  have l4:=fun u (h:Below wr.heap.size wr u)=>A0e h p4
  have l5:=fun u (h:Below wr.heap.size wr u)=>A0e h p5
  have l6:=fun u (h:Below wr.heap.size wr u)=>A0e h p6
  have l7:=fun u (h:Below wr.heap.size wr u)=>A0e h p7
  have m0:=fun u (h:Below wr.heap.size wr u)=>A0e h q0
  have m1:=fun u (h:Below wr.heap.size wr u)=>A0e h q1
  have m2:=fun u (h:Below wr.heap.size wr u)=>A0e h q2
  have m3:=fun u (h:Below wr.heap.size wr u)=>A0e h q3
  have m4:=fun u (h:Below wr.heap.size wr u)=>A0e h q4
  have m5:=fun u (h:Below wr.heap.size wr u)=>A0e h q5
  have m6:=fun u (h:Below wr.heap.size wr u)=>A0e h q6
  have m7:=fun u (h:Below wr.heap.size wr u)=>A0e h q7
  have n0:=fun u (h:Below wr.heap.size wr u)=>A0e h k4
  have n1:=fun u (h:Below wr.heap.size wr u)=>A0e h j4
  have HD:=hzz (fun u (h:Below wr.heap.size wr u)=>HCM.out u (HB.out.trans (h.mono HB.out.size)));clear k4 j4 HCM p0 q0 p1 q1 p2 q2 p3 q3 p4 q4 p5 q5 p6 q6 p7 q7
  refine A0g (Below wr.heap.size wr) (.stir [(0,true),(1,true),(2,true),(3,true),(4,true),(5,true),(6,true),(7,true),(8,true),(9,true),(10,false),(11,true)]) (by kernel_rfl) (by kernel_rfl) (fun c a d v w h=>by cases d<;>exact h) ?_
  refine A0k (Below wr.heap.size wr) (fun y hy=>hy) hSw ?_
  iterate 10
   refine A0h fun K hK=>tkX ?_
   go_simp
   try go_bits
   refine hK _ ?_;clear hK K
  refine A0h (fun K hK=> ?_);simp only[A2h,List.getElem?_toArray,List.getElem?_cons_succ,List.getElem?_cons_zero];rw[if_pos (by rfl)];apply Exists.intro;refine⟨fun w' hS'=> ?_,?_⟩
  ·go_simp;exact A4r.call (Calls.mono ((HD.out w' hS')) fun e w'' h=>⟨h.1,(fun hb''=>hS'.trans (hb''.mono hS'.size)) h.2⟩)
  go_simp;refine hK _ ?_;clear hK K
  iterate 1
   refine A0h fun K hK=>tkX ?_
   go_simp
   try go_bits
   refine hK _ ?_;clear hK K
  refine A0n (fun u hu=> ?_);clear HD hSw n0 n1 l0 m0 l1 m1 l2 m2 l3 m3 l4 m4 l5 m5 l6 m6 l7 m7;have HB2:=btz HB hu;have HR12:=hzz (A0c HR1.out hu);have HR22:=hzz (A0c HR2.out hu)
  go_wp2_with fail
  go_roundg (mn-(j+1))
  case measure=>omega
  exact⟨j+1,by omega,rfl,by go_num,HB2,HR12,HR22⟩
 obtain rfl:mn=j:=by omega
 go_wp2_with fail
 go_ret;exact⟨rfl,HB.out⟩
end
end Go.Proofs.YtclpkipaehpkdaaGreatDoor
