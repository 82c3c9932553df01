/- asm: own texts, merged (wip/merge3.py). No condition. -/
import Derived.Test.YtclpkipaehpkdaaGreatDoorQ14AsmLifts
import Derived.Test.YtclpkipaehpkdaaGreatDoorQ02AsmLifts
import Derived.Test.YtclpkipaehpkdaaGreatDoorQ00AsmLifts
import Derived.Test.YtclpkipaehpkdaaGreatDoorQ01AsmLifts
set_option linter.unusedVariables false
set_option linter.unusedSimpArgs false
set_option maxRecDepth 100000
set_option maxHeartbeats 64000000
namespace Go.Proofs.YtclpkipaehpkdaaGreatDoor
section
open Go.ChangeShapes Go.WideShapes Go.ChangeAt Go.RowKit
theorem C6q(L:List KV)(m:KM):A2y L m=true↔(A3d L m.fl m.nm m.ds=true∧(0≤m.st∧m.st≤64∧0≤m.lo∧m.lo≤64)∧(0<m.code.length∧m.code.length≤4096∧m.traps.length≤255∧m.maps.length≤255)∧m.traps.all (A5j L)=true∧m.maps.all (A6f L)=true∧(0<A6a L A7u∧(m.maps.length=0∨0<A6a L B6c))):=by
 unfold A2y B0t A8z A7s;simp only[Bool.and_eq_true,decide_eq_true_eq];constructor
 ·rintro⟨⟨⟨⟨⟨h1,h2⟩,h3⟩,h4⟩,h5⟩,h6⟩;exact⟨h1,h2,h3,h4,h5,h6⟩
 ·rintro⟨h1,h2,h3,h4,h5,h6⟩;exact⟨⟨⟨⟨⟨h1,h2⟩,h3⟩,h4⟩,h5⟩,h6⟩
def D9h(L:List KV)(mb:Bool)(st lo:Int)(cn tn nn:Nat)(ts ms:Bool):Prop:=mb=true∧(0≤st∧st≤64∧0≤lo∧lo≤64)∧(0<cn∧cn≤4096∧tn≤255∧nn≤255)∧ts=true∧ms=true∧(0<A6a L A7u∧(nn=0∨0<A6a L B6c))
theorem A7d{R:Bool}{P:Prop}(h:R=true↔P)(hn:¬P):false=R:=by cases R with
 |false=>rfl
 |true=>exact absurd (h.1 rfl) hn
theorem C9f{R:Bool}{P:Prop}(h:R=true↔P)(hn:P):true=R:=(h.2 hn).symm
theorem C3h(w:World)(a:Option Addr)(n cap:Nat)(L:List KV)(m:KM)(hs:Ks w a n L)(hn:n≤65536)(hm:m.Rd w)(hc1:m.cn≤140737488355328)(hc2:m.tn≤140737488355328)(hc3:m.mn≤140737488355328)(hc4:∀p∈m.maps,p.ln≤140737488355328∧p.sn≤140737488355328):
  Calls Tryz.prog 61 #[.slice a n cap,.agg #[.int .i64 m.fl,.int .i64 m.nm,.int .i64 m.ds,.int .i64 m.st,.int .i64 m.lo,.slice m.ca m.cn m.cc,.slice m.ta m.tn m.tc,.slice m.ma m.mn m.mc]] w (A0k (A2y L m) w):=by
 obtain⟨R,hR⟩:∃R,R=A2y L m:=⟨_,rfl⟩;have hq:=C6q L m;rw[←hR]at hq⊢;have hl1:=hm.code.1;have hl2:=hm.traps.1;have hl3:=hm.maps.1
 have HQ:=Lib.hid (show R=true↔D9h L (A3d L m.fl m.nm m.ds) m.st m.lo m.cn m.tn m.mn (m.traps.all (A5j L)) (m.maps.all (A6f L)) by
  rw[hq,hl1,hl2,hl3];rfl)
 have HS:=Lib.hid hs;have HM:=Lib.hid hm;have HM4:=Lib.hid hc4;clear hq hR hl1 hl2 hl3 hm hc4 hs;obtain⟨fl,nm,ds,st,lo,ca,cn,cc,code,ta,tn,tc,traps,na,nn,nc,maps⟩:=m;dsimp only at*
 have hal:Below w.heap.size w (w.alloc (.cells #[.int .i64 fl,.int .i64 nm,.int .i64 ds,.int .i64 st,.int .i64 lo,.slice ca cn cc,.slice ta tn tc,.slice na nn nc] 65)):=A0e _ _
 have HT0:=Lib.hid (heap_alloc_last w (.cells #[.int .i64 fl,.int .i64 nm,.int .i64 ds,.int .i64 st,.int .i64 lo,.slice ca cn cc,.slice ta tn tc,.slice na nn nc] 65));have HB0:=Lib.hid hal;clear hal
 go_enter Tryz.func61,Tryz.ntmps61
 go_upto_region 1 with fail
 generalize w.alloc (.cells #[.int .i64 fl,.int .i64 nm,.int .i64 ds,.int .i64 st,.int .i64 lo,.slice ca cn cc,.slice ta tn tc,.slice na nn nc] 65)=W0 at*;obtain⟨bm,hbm⟩:∃b,b=w.heap.size:=⟨_,rfl⟩
 rw[←hbm]at HT0⊢;clear hbm;have HMB:=Lib.hid (B4d W0 a n cap L fl nm ds (HS.out.below HB0.out) hn);generalize A3d L fl nm ds=mb at*;have k0:=A0a HT0.out 0 rfl
 have k1:=A0a HT0.out 1 rfl;have k2:=A0a HT0.out 2 rfl
 go_cut [61] (fun r wx=>∃bad:Bool,r= .bool bad∧Hid (bad=true→false=R)∧Hid (bad=false→mb=true∧(0≤st∧st≤64∧0≤lo∧lo≤64)∧(0<cn∧cn≤4096∧tn≤255∧nn≤255))∧Hid (Below W0.heap.size W0 wx))
 case first=>
  cases mb with
  |false=>
   have HF1:=Lib.hid (show true=true→false=R from fun _=>A7d HQ.out (fun hq=>by have h1:=hq.1;cases h1))
   have HF2:=Lib.hid (show true=false→(false:Bool)=true∧(0≤st∧st≤64∧0≤lo∧lo≤64)∧(0<cn∧cn≤4096∧tn≤255∧nn≤255)from fun h=>by cases h)
   clear HQ
   go_wp2_with fail
   refine HMB.out.mono ?_;rintro e w2 ⟨rfl,hb⟩
   go_wp2_with fail
   go_meet
   exact⟨true,rfl,Lib.hid (by first|exact HF1.out|simpa using HF1.out|simp),Lib.hid (by first|exact HF2.out|simpa using HF2.out|simp),Lib.hid hb⟩
  |true=>
   by_cases h0:st<0
   ·have e0:decide (st<0)=true:=decide_eq_true (by omega);have HF1:=Lib.hid (show true=true→false=R from fun _=>A7d HQ.out (fun hq=>by have h1:=hq.2.1;have h2:=hq.2.2.1;omega))
    have HF2:=Lib.hid (show true=false→(true:Bool)=true∧(0≤st∧st≤64∧0≤lo∧lo≤64)∧(0<cn∧cn≤4096∧tn≤255∧nn≤255)from fun h=>by cases h)
    clear h0;clear HQ
    go_wp2_with fail
    refine HMB.out.mono ?_;rintro e w2 ⟨rfl,hb⟩;have k3:=A0a (A0c HT0.out hb) 3 rfl;have k4:=A0a (A0c HT0.out hb) 4 rfl;have k5:=A0a (A0c HT0.out hb) 5 rfl
    have k6:=A0a (A0c HT0.out hb) 6 rfl;have k7:=A0a (A0c HT0.out hb) 7 rfl
    go_wp2_with fail
    go_meet
    exact⟨true,rfl,Lib.hid (by first|exact HF1.out|simpa using HF1.out|simp),Lib.hid (by first|exact HF2.out|simpa using HF2.out|simp),Lib.hid hb⟩
   ·have e0:decide (st<0)=false:=decide_eq_false (by omega);by_cases h1:64<st
    ·have e1:decide ((64:Int)<st)=true:=decide_eq_true (by omega)
     have HF1:=Lib.hid (show true=true→false=R from fun _=>A7d HQ.out (fun hq=>by have h1:=hq.2.1;have h2:=hq.2.2.1;omega))
     have HF2:=Lib.hid (show true=false→(true:Bool)=true∧(0≤st∧st≤64∧0≤lo∧lo≤64)∧(0<cn∧cn≤4096∧tn≤255∧nn≤255)from fun h=>by cases h)
     clear h0 h1;clear HQ
     go_wp2_with fail
     refine HMB.out.mono ?_;rintro e w2 ⟨rfl,hb⟩;have k3:=A0a (A0c HT0.out hb) 3 rfl;have k4:=A0a (A0c HT0.out hb) 4 rfl;have k5:=A0a (A0c HT0.out hb) 5 rfl
     have k6:=A0a (A0c HT0.out hb) 6 rfl;have k7:=A0a (A0c HT0.out hb) 7 rfl
     go_wp2_with fail
     go_meet
     exact⟨true,rfl,Lib.hid (by first|exact HF1.out|simpa using HF1.out|simp),Lib.hid (by first|exact HF2.out|simpa using HF2.out|simp),Lib.hid hb⟩
    ·have e1:decide ((64:Int)<st)=false:=decide_eq_false (by omega);by_cases h2:lo<0
     ·have e2:decide (lo<0)=true:=decide_eq_true (by omega)
      have HF1:=Lib.hid (show true=true→false=R from fun _=>A7d HQ.out (fun hq=>by have h1:=hq.2.1;have h2:=hq.2.2.1;omega))
      have HF2:=Lib.hid (show true=false→(true:Bool)=true∧(0≤st∧st≤64∧0≤lo∧lo≤64)∧(0<cn∧cn≤4096∧tn≤255∧nn≤255)from fun h=>by cases h)
      clear h0 h1 h2;clear HQ
      go_wp2_with fail
      refine HMB.out.mono ?_;rintro e w2 ⟨rfl,hb⟩;have k3:=A0a (A0c HT0.out hb) 3 rfl;have k4:=A0a (A0c HT0.out hb) 4 rfl;have k5:=A0a (A0c HT0.out hb) 5 rfl
      have k6:=A0a (A0c HT0.out hb) 6 rfl;have k7:=A0a (A0c HT0.out hb) 7 rfl
      go_wp2_with fail
      go_meet
      exact⟨true,rfl,Lib.hid (by first|exact HF1.out|simpa using HF1.out|simp),Lib.hid (by first|exact HF2.out|simpa using HF2.out|simp),Lib.hid hb⟩
     ·have e2:decide (lo<0)=false:=decide_eq_false (by omega);by_cases h3:64<lo
      ·have e3:decide ((64:Int)<lo)=true:=decide_eq_true (by omega)
       have HF1:=Lib.hid (show true=true→false=R from fun _=>A7d HQ.out (fun hq=>by have h1:=hq.2.1;have h2:=hq.2.2.1;omega))
       have HF2:=Lib.hid (show true=false→(true:Bool)=true∧(0≤st∧st≤64∧0≤lo∧lo≤64)∧(0<cn∧cn≤4096∧tn≤255∧nn≤255)from fun h=>by cases h)
       clear h0 h1 h2 h3;clear HQ
       go_wp2_with fail
       refine HMB.out.mono ?_;rintro e w2 ⟨rfl,hb⟩;have k3:=A0a (A0c HT0.out hb) 3 rfl;have k4:=A0a (A0c HT0.out hb) 4 rfl
       have k5:=A0a (A0c HT0.out hb) 5 rfl;have k6:=A0a (A0c HT0.out hb) 6 rfl;have k7:=A0a (A0c HT0.out hb) 7 rfl
       go_wp2_with fail
       go_meet
       exact⟨true,rfl,Lib.hid (by first|exact HF1.out|simpa using HF1.out|simp),Lib.hid (by first|exact HF2.out|simpa using HF2.out|simp),Lib.hid hb⟩
      ·have e3:decide ((64:Int)<lo)=false:=decide_eq_false (by omega);by_cases h4:cn<1
       ·have e4:decide ((cn:Int)<1)=true:=decide_eq_true (by omega)
        have HF1:=Lib.hid (show true=true→false=R from fun _=>A7d HQ.out (fun hq=>by have h1:=hq.2.1;have h2:=hq.2.2.1;omega))
        have HF2:=Lib.hid (show true=false→(true:Bool)=true∧(0≤st∧st≤64∧0≤lo∧lo≤64)∧(0<cn∧cn≤4096∧tn≤255∧nn≤255)from fun h=>by cases h)
        clear h0 h1 h2 h3 h4;clear HQ
        go_wp2_with fail
        refine HMB.out.mono ?_;rintro e w2 ⟨rfl,hb⟩;have k3:=A0a (A0c HT0.out hb) 3 rfl;have k4:=A0a (A0c HT0.out hb) 4 rfl
        have k5:=A0a (A0c HT0.out hb) 5 rfl;have k6:=A0a (A0c HT0.out hb) 6 rfl;have k7:=A0a (A0c HT0.out hb) 7 rfl
        go_wp2_with fail
        go_meet
        exact⟨true,rfl,Lib.hid (by first|exact HF1.out|simpa using HF1.out|simp),Lib.hid (by first|exact HF2.out|simpa using HF2.out|simp),Lib.hid hb⟩
       ·have e4:decide ((cn:Int)<1)=false:=decide_eq_false (by omega);by_cases h5:4096<cn
        ·have e5:decide ((4096:Int)<cn)=true:=decide_eq_true (by omega)
         have HF1:=Lib.hid (show true=true→false=R from fun _=>A7d HQ.out (fun hq=>by have h1:=hq.2.1;have h2:=hq.2.2.1;omega))
         have HF2:=Lib.hid (show true=false→(true:Bool)=true∧(0≤st∧st≤64∧0≤lo∧lo≤64)∧(0<cn∧cn≤4096∧tn≤255∧nn≤255)from fun h=>by cases h)
         clear h0 h1 h2 h3 h4 h5;clear HQ
         go_wp2_with fail
         refine HMB.out.mono ?_;rintro e w2 ⟨rfl,hb⟩;have k3:=A0a (A0c HT0.out hb) 3 rfl;have k4:=A0a (A0c HT0.out hb) 4 rfl
         have k5:=A0a (A0c HT0.out hb) 5 rfl;have k6:=A0a (A0c HT0.out hb) 6 rfl;have k7:=A0a (A0c HT0.out hb) 7 rfl
         go_wp2_with fail
         go_meet
         exact⟨true,rfl,Lib.hid (by first|exact HF1.out|simpa using HF1.out|simp),Lib.hid (by first|exact HF2.out|simpa using HF2.out|simp),Lib.hid hb⟩
        ·have e5:decide ((4096:Int)<cn)=false:=decide_eq_false (by omega);by_cases h6:255<tn
         ·have e6:decide ((255:Int)<tn)=true:=decide_eq_true (by omega)
          have HF1:=Lib.hid (show true=true→false=R from fun _=>A7d HQ.out (fun hq=>by have h1:=hq.2.1;have h2:=hq.2.2.1;omega))
          have HF2:=Lib.hid (show true=false→(true:Bool)=true∧(0≤st∧st≤64∧0≤lo∧lo≤64)∧(0<cn∧cn≤4096∧tn≤255∧nn≤255)from fun h=>by cases h)
          clear h0 h1 h2 h3 h4 h5 h6;clear HQ
          go_wp2_with fail
          refine HMB.out.mono ?_;rintro e w2 ⟨rfl,hb⟩;have k3:=A0a (A0c HT0.out hb) 3 rfl;have k4:=A0a (A0c HT0.out hb) 4 rfl
          have k5:=A0a (A0c HT0.out hb) 5 rfl;have k6:=A0a (A0c HT0.out hb) 6 rfl;have k7:=A0a (A0c HT0.out hb) 7 rfl
          go_wp2_with fail
          go_meet
          exact⟨true,rfl,Lib.hid (by first|exact HF1.out|simpa using HF1.out|simp),Lib.hid (by first|exact HF2.out|simpa using HF2.out|simp),Lib.hid hb⟩
         ·have e6:decide ((255:Int)<tn)=false:=decide_eq_false (by omega);by_cases h7:255<nn
          ·have e7:decide ((255:Int)<nn)=true:=decide_eq_true (by omega)
           have HF1:=Lib.hid (show true=true→false=R from fun _=>A7d HQ.out (fun hq=>by have h1:=hq.2.1;have h2:=hq.2.2.1;omega))
           have HF2:=Lib.hid (show true=false→(true:Bool)=true∧(0≤st∧st≤64∧0≤lo∧lo≤64)∧(0<cn∧cn≤4096∧tn≤255∧nn≤255)from fun h=>by cases h)
           clear h0 h1 h2 h3 h4 h5 h6 h7;clear HQ
           go_wp2_with fail
           refine HMB.out.mono ?_;rintro e w2 ⟨rfl,hb⟩;have k3:=A0a (A0c HT0.out hb) 3 rfl;have k4:=A0a (A0c HT0.out hb) 4 rfl
           have k5:=A0a (A0c HT0.out hb) 5 rfl;have k6:=A0a (A0c HT0.out hb) 6 rfl;have k7:=A0a (A0c HT0.out hb) 7 rfl
           go_wp2_with fail
           go_meet
           exact⟨true,rfl,Lib.hid (by first|exact HF1.out|simpa using HF1.out|simp),Lib.hid (by first|exact HF2.out|simpa using HF2.out|simp),Lib.hid hb⟩
          ·have e7:decide ((255:Int)<nn)=false:=decide_eq_false (by omega)
           have HF1:=Lib.hid (show false=true→false=R from fun h=>by cases h)
           have HF2:=Lib.hid (show false=false→(true:Bool)=true∧(0≤st∧st≤64∧0≤lo∧lo≤64)∧(0<cn∧cn≤4096∧tn≤255∧nn≤255)from fun _=>⟨rfl,⟨by omega,by omega,by omega,by omega⟩,by omega,by omega,by omega,by omega⟩)
           clear h0 h1 h2 h3 h4 h5 h6 h7;clear HQ
           go_wp2_with fail
           refine HMB.out.mono ?_;rintro e w2 ⟨rfl,hb⟩;have k3:=A0a (A0c HT0.out hb) 3 rfl;have k4:=A0a (A0c HT0.out hb) 4 rfl
           have k5:=A0a (A0c HT0.out hb) 5 rfl;have k6:=A0a (A0c HT0.out hb) 6 rfl;have k7:=A0a (A0c HT0.out hb) 7 rfl
           go_wp2_with fail
           go_meet
           exact⟨false,rfl,Lib.hid (by first|exact HF1.out|simpa using HF1.out|simp),Lib.hid (by first|exact HF2.out|simpa using HF2.out|simp),Lib.hid hb⟩
 case rest=>
  obtain⟨bad,rfl,HBAD,HGOOD,HB⟩:=hcut;have HB1:=Lib.hid (HB0.out.trans (HB.out.mono HB0.out.size));have HT1:=Lib.hid (A0c HT0.out HB.out);clear k0 k1 k2 HMB HB HB0 HT0
  have k6:=A0a HT1.out 6 rfl
  cases bad with
  |true=>
   have HF:=Lib.hid (HBAD.out rfl)
   go_wp2_with fail
   go_ret;exact A0k.of HF.out HB1.out
  |false=>
  have HGD:=Lib.hid (HGOOD.out rfl);clear HBAD HGOOD
  go_wp2_with fail
  clear k6
  go_loopg [65] tn (fun gn i wr=>∃j:Nat,j≤tn∧gn=tn-j∧i= .int .i64 j∧Hid ((traps.take j).all (A5j L)=true)∧Hid (Below w.heap.size w wr)∧Hid (wr.heap[bm]? =some (.cells #[.int .i64 fl,.int .i64 nm,.int .i64 ds,.int .i64 st,.int .i64 lo,.slice ca cn cc,.slice ta tn tc,.slice na nn nc] 65)))
  case atStart=>exact⟨0,by omega,by omega,by go_num,Lib.hid (by simp),HB1,HT1⟩
  case round=>
   clear HB1 HT1;obtain⟨j,hj,rfl,rfl,HA,HB,HT⟩:=hrel;by_cases hlt:j<tn
   ·obtain⟨b,off,x,rfl,_,hv,q⟩:=Ss.getC (HM.out.traps.below HB.out) j hlt
    have HN:=Lib.hid (fun(h:A5j L x=false)=>show false=R from A7d HQ.out (fun hq=>by have h2:=hq.2.2.2.1;rw[A4t hv h]at h2;cases h2))
    have HY:=Lib.hid (fun(h:A5j L x=true)=>show(traps.take (j+1)).all (A5j L)=true by rw[A5g _ _ _ _ hv,HA.out,h];rfl);obtain⟨fr,tt,pl,cl⟩:=x
    have HTO:=Lib.hid (show A5j L ⟨fr,tt,pl,cl⟩=([fr,tt,pl].all A3t&&(decide (cl=0)||clsOk L cl))from rfl)
    have q0:wr.cell? ⟨b,off+j*4,none⟩=some (.int .i64 fr):=q 0 (by omega);have q1:wr.cell? ⟨b,off+j*4+1,none⟩=some (.int .i64 tt):=q 1 (by omega)
    have q2:wr.cell? ⟨b,off+j*4+2,none⟩=some (.int .i64 pl):=q 2 (by omega);have q3:wr.cell? ⟨b,off+j*4+3,none⟩=some (.int .i64 cl):=q 3 (by omega);clear q hv
    have hal:Below wr.heap.size wr (wr.alloc (.cells #[.int .i64 fr,.int .i64 tt,.int .i64 pl,.int .i64 cl] 123)):=A0e _ _
    have HX:=Lib.hid (heap_alloc_last wr (.cells #[.int .i64 fr,.int .i64 tt,.int .i64 pl,.int .i64 cl] 123));have HB2:=Lib.hid (HB.out.trans (hal.mono HB.out.size))
    have HT2:=Lib.hid (A0c HT.out hal);have hj1:(j:Int)<tn:=by omega
    go_upto_region 6 with fail
    clear q0 q1 q2 q3 hal HB HT;generalize wr.alloc (.cells #[.int .i64 fr,.int .i64 tt,.int .i64 pl,.int .i64 cl] 123)=W1 at*;generalize wr.heap.size=bt at*;have k0:=A0a HX.out 0 rfl
    have k1:=A0a HX.out 1 rfl;have k2:=A0a HX.out 2 rfl;have k3:=A0a HX.out 3 rfl
    have hb3:Below W1.heap.size W1 (W1.alloc (.cells #[.int .i64 fr,.int .i64 tt,.int .i64 pl] 3)):=A0e _ _
    have HWD:=Lib.hid (C0r (W1.alloc (.cells #[.int .i64 fr,.int .i64 tt,.int .i64 pl] 3)) _ 3 3 [fr,tt,pl] (Sl.litZ W1 3 [fr,tt,pl] 3 rfl) (by decide))
    generalize [fr,tt,pl].all A3t=wd at*
    cases wd with
    |false=>
     have HF:=Lib.hid (HN.out (by rw[HTO.out];rfl))
     go_wp2_with fail
     refine HWD.out.mono ?_;rintro e w2 ⟨rfl,hb⟩;have HB3:=Lib.hid (HB2.out.trans ((hb3.trans (hb.mono hb3.size)).mono HB2.out.size))
     go_wp2_with fail
     go_ret;exact A0k.of HF.out HB3.out
    |true=>
     rw[Bool.true_and]at HTO;by_cases h0:cl=0
     ·have e0:(cl !=0)=false:=by simp[h0]
      have HF:=Lib.hid (HY.out (by rw[HTO.out];simp[h0]));clear h0 HN HY HTO
      go_wp2_with fail
      refine HWD.out.mono ?_;rintro e w2 ⟨rfl,hb⟩;have hb4:=hb3.trans (hb.mono hb3.size);have HB3:=Lib.hid (HB2.out.trans (hb4.mono HB2.out.size));have HT3:=Lib.hid (A0c HT2.out hb4)
      have k3:=A0a (A0c HX.out hb4) 3 rfl;clear k0 k1 k2 hb hb3 hb4
      go_wp2_with fail
      go_roundg (tn-(j+1))
      case measure=>omega
      case rel=>exact⟨j+1,by omega,rfl,by go_num,HF,HB3,HT3⟩
     ·have e0:(cl !=0)=true:=by simp[h0]
      have HTO:=Lib.hid (show A5j L ⟨fr,tt,pl,cl⟩=clsOk L cl by rw[HTO.out];simp[h0]);rw[HTO.out]at HN HY;clear h0 HTO
      go_wp2_with fail
      refine HWD.out.mono ?_;rintro e w2 ⟨rfl,hb⟩;have hb4:=hb3.trans (hb.mono hb3.size);have HB3:=Lib.hid (HB2.out.trans (hb4.mono HB2.out.size));have HT3:=Lib.hid (A0c HT2.out hb4)
      have k3:=A0a (A0c HX.out hb4) 3 rfl;have HC:=Lib.hid (B0b w2 a n cap L cl (HS.out.below HB3.out) hn);generalize clsOk L cl=ok at*;clear k0 k1 k2 hb hb3 hb4
      go_wp2_with fail
      refine HC.out.mono ?_;rintro e w3 ⟨rfl,hb⟩;have HB5:=Lib.hid (HB3.out.trans (hb.mono HB3.out.size));have HT5:=Lib.hid (A0c HT3.out hb);clear hb HC HB3 HT3
      cases ok with
      |false=>
       have HF:=Lib.hid (HN.out rfl)
       go_wp2_with fail
       go_ret;exact A0k.of HF.out HB5.out
      |true=>
       have HF:=Lib.hid (HY.out rfl)
       go_wp2_with fail
       go_roundg (tn-(j+1))
       case measure=>omega
       case rel=>exact⟨j+1,by omega,rfl,by go_num,HF,HB5,HT5⟩
   ·obtain rfl:tn=j:=by omega
    have HTA:=Lib.hid (show traps.all (A5j L)=true from B0c HA.out HM.out.traps.1);clear HA;have k7:=A0a HT.out 7 rfl
    go_wp2_with fail
    clear k7
    go_loopg [94] nn (fun gn i wr=>∃j:Nat,j≤nn∧gn=nn-j∧i= .int .i64 j∧Hid ((maps.take j).all (A6f L)=true)∧Hid (Below w.heap.size w wr)∧Hid (wr.heap[bm]? =some (.cells #[.int .i64 fl,.int .i64 nm,.int .i64 ds,.int .i64 st,.int .i64 lo,.slice ca cn cc,.slice ta tn tc,.slice na nn nc] 65)))
    case atStart=>exact⟨0,by omega,by omega,by go_num,Lib.hid (by simp),HB,HT⟩
    case round=>
     clear HB HT;obtain⟨j,hj,rfl,rfl,HA,HB,HT⟩:=hrel;by_cases hlt:j<nn
     ·obtain⟨b,off,x,rfl,_,hv,q⟩:=Ss.getC (HM.out.maps.below HB.out) j hlt
      have HN:=Lib.hid (fun(h:A6f L x=false)=>show false=R from A7d HQ.out (fun hq=>by have h2:=hq.2.2.2.2.1;rw[A4t hv h]at h2;cases h2))
      have HY:=Lib.hid (fun(h:A6f L x=true)=>show(maps.take (j+1)).all (A6f L)=true by rw[A5g _ _ _ _ hv,HA.out,h];rfl)
      have HXR:=Lib.hid (HM.out.each x (List.mem_of_getElem? hv));have hx4:=HM4.out x (List.mem_of_getElem? hv);obtain⟨pl,la,ln,lc,loc,sa,sn,sc,stk⟩:=x;dsimp only at hx4
      obtain⟨hx5,hx6⟩:=hx4;have HMO:=Lib.hid (show A6f L ⟨pl,la,ln,lc,loc,sa,sn,sc,stk⟩=((A3t pl&&A4s L 64 loc)&&A4s L 64 stk)from rfl)
      have q0:wr.cell? ⟨b,off+j*3,none⟩=some (.int .i64 pl):=q 0 (by omega);have q1:wr.cell? ⟨b,off+j*3+1,none⟩=some (.slice la ln lc):=q 1 (by omega)
      have q2:wr.cell? ⟨b,off+j*3+2,none⟩=some (.slice sa sn sc):=q 2 (by omega);clear q hv
      have hal:Below wr.heap.size wr (wr.alloc (.cells #[.int .i64 pl,.slice la ln lc,.slice sa sn sc] 68)):=A0e _ _
      have HX:=Lib.hid (heap_alloc_last wr (.cells #[.int .i64 pl,.slice la ln lc,.slice sa sn sc] 68));have HB2:=Lib.hid (HB.out.trans (hal.mono HB.out.size))
      have HT2:=Lib.hid (A0c HT.out hal);have hj1:(j:Int)<nn:=by omega
      go_upto_region 12 with fail
      clear q0 q1 q2 hal HB HT;generalize wr.alloc (.cells #[.int .i64 pl,.slice la ln lc,.slice sa sn sc] 68)=W1 at*;generalize wr.heap.size=bt at*;have k0:=A0a HX.out 0 rfl
      have hb3:Below W1.heap.size W1 (W1.alloc (.cells #[.int .i64 pl] 3)):=A0e _ _;have HWD:=C0r (W1.alloc (.cells #[.int .i64 pl] 3)) _ 1 1 [pl] (Sl.litZ W1 1 [pl] 3 rfl) (by decide)
      rw[show [pl].all A3t=A3t pl by simp]at HWD;replace HWD:=Lib.hid HWD
      have HL1:=Lib.hid (fun w' (hb:Below w.heap.size w w')=>B6i w' a n cap L la ln lc loc 64 (HS.out.below hb) hn (HXR.out.loc.below hb) hx5)
      have HL2:=Lib.hid (fun w' (hb:Below w.heap.size w w')=>B6i w' a n cap L sa sn sc stk 64 (HS.out.below hb) hn (HXR.out.stk.below hb) hx6);rw[HMO.out]at HN HY;clear HMO
      generalize A3t pl=wd at*;generalize A4s L 64 loc=s1 at*;generalize A4s L 64 stk=s2 at*
      cases wd with
      |false=>
       have HF:=Lib.hid (HN.out rfl)
       go_wp2_with fail
       refine HWD.out.mono ?_;rintro e w2 ⟨rfl,hb⟩;have HB3:=Lib.hid (HB2.out.trans ((hb3.trans (hb.mono hb3.size)).mono HB2.out.size))
       go_wp2_with fail
       go_ret;exact A0k.of HF.out HB3.out
      |true=>
       go_wp2_with fail
       refine HWD.out.mono ?_;rintro e w2 ⟨rfl,hb⟩;have hb4:=hb3.trans (hb.mono hb3.size);have HB3:=Lib.hid (HB2.out.trans (hb4.mono HB2.out.size));have HT3:=Lib.hid (A0c HT2.out hb4)
       have HX3:=Lib.hid (A0c HX.out hb4);have k1:=A0a HX3.out 1 rfl;clear k0 hb hb3 hb4 HX HT2 HB2 HWD
       go_wp2_with fail
       refine(HL1.out w2 HB3.out).mono ?_;rintro e w3 ⟨rfl,hb⟩;have HB4:=Lib.hid (HB3.out.trans (hb.mono HB3.out.size));have HT4:=Lib.hid (A0c HT3.out hb)
       have HX4:=Lib.hid (A0c HX3.out hb);clear hb k1 HB3 HT3 HX3 HL1;have k2:=A0a HX4.out 2 rfl
       cases s1 with
       |false=>
        have HF:=Lib.hid (HN.out rfl)
        go_wp2_with fail
        go_ret;exact A0k.of HF.out HB4.out
       |true=>
        go_wp2_with fail
        refine(HL2.out w3 HB4.out).mono ?_;rintro e w4 ⟨rfl,hb⟩;have HB5:=Lib.hid (HB4.out.trans (hb.mono HB4.out.size));have HT5:=Lib.hid (A0c HT4.out hb)
        clear hb k2 HB4 HT4 HX4 HL2
        cases s2 with
        |false=>
         have HF:=Lib.hid (HN.out rfl)
         go_wp2_with fail
         go_ret;exact A0k.of HF.out HB5.out
        |true=>
         have HF:=Lib.hid (HY.out rfl)
         go_wp2_with fail
         go_roundg (nn-(j+1))
         case measure=>omega
         case rel=>exact⟨j+1,by omega,rfl,by go_num,HF,HB5,HT5⟩
     ·obtain rfl:nn=j:=by omega
      have HMA:=Lib.hid (show maps.all (A6f L)=true from B0c HA.out HM.out.maps.1);clear HA;have HC1:=Lib.hid (B9k wr a n cap L A7u (HS.out.below HB.out) hn)
      have HC2:=Lib.hid (fun w' (hb:Below w.heap.size w w')=>B9k w' a n cap L B6c (HS.out.below hb) hn);unfold D9h at HQ;generalize A6a L A7u=f1 at*
      generalize A6a L B6c=f2 at*;unfold A7u at HC1;unfold B6c at HC2;have k7:=A0a HT.out 7 rfl;by_cases h1:0<f1
      ·have e1:decide ((0:Int)<(f1:Int))=true:=by simp;omega
       by_cases h2:nn=0
       ·have e2:((nn:Int)==0)=true:=by simp[h2]
        have HF:=Lib.hid (C9f HQ.out ⟨HGD.out.1,HGD.out.2.1,HGD.out.2.2,HTA.out,HMA.out,h1,.inl h2⟩);clear h2
        go_wp2_with fail
        refine HC1.out.mono ?_;rintro e w2 ⟨rfl,hb⟩;have k7:=A0a (A0c HT.out hb) 7 rfl
        go_wp2_with fail
        go_ret;exact A0k.of HF.out (HB.out.trans (hb.mono HB.out.size))
       ·have e2:((nn:Int)==0)=false:=by simp[h2]
        go_wp2_with fail
        refine HC1.out.mono ?_;rintro e w2 ⟨rfl,hb⟩;have HB3:=Lib.hid (HB.out.trans (hb.mono HB.out.size));have k7:=A0a (A0c HT.out hb) 7 rfl
        go_wp2_with fail
        refine(HC2.out w2 HB3.out).mono ?_;rintro e w3 ⟨rfl,hb⟩;have HB4:=Lib.hid (HB3.out.trans (hb.mono HB3.out.size));by_cases h3:0<f2
        ·have HF:=Lib.hid (C9f HQ.out ⟨HGD.out.1,HGD.out.2.1,HGD.out.2.2,HTA.out,HMA.out,h1,.inr h3⟩);have e3:decide ((0:Int)<(f2:Int))=true:=by simp;omega
         go_wp2_with fail
         go_ret;exact A0k.of HF.out HB4.out
        ·have HF:=Lib.hid (A7d HQ.out (fun hq=>by have h4:=hq.2.2.2.2.2.2;omega));have e3:decide ((0:Int)<(f2:Int))=false:=by simp;omega
         go_wp2_with fail
         go_ret;exact A0k.of HF.out HB4.out
      ·have e1:decide ((0:Int)<(f1:Int))=false:=by simp;omega
       have HF:=Lib.hid (A7d HQ.out (fun hq=>by have h4:=hq.2.2.2.2.2.1;omega))
       go_wp2_with fail
       refine HC1.out.mono ?_;rintro e w2 ⟨rfl,hb⟩
       go_wp2_with fail
       go_ret;exact A0k.of HF.out (HB.out.trans (hb.mono HB.out.size))
attribute [local go_sem↓] Go.wp_at_zero Go.wp_at_succ
attribute [local go_sem↓] Go.wp_at_zero Go.wp_at_succ
theorem B7i(w:World)(a:Option Addr)(n cap:Nat)(bs:List UInt8)(hs:Sl A5f w a n bs)(hn:n≤65536)(hcap:n≤cap):
  Calls Tryz.prog 151 #[.slice a n cap] w (D4t w (A3p bs)):=by
 have HS:=Lib.hid hs;have hnl:=hs.1;clear hs;go_enter Tryz.func151,Tryz.ntmps151
 go_wp2
 go_loopw [4,5] (fun t i wr=>∃j f k:Nat,i= .int .i64 j∧j≤n∧n-j≤f∧k≤j∧∃us,Hid (wr.ownsRow w.heap.size 231 1 t k (us.map D4x))∧Hid (Below w.heap.size w wr)∧Hid (A3p bs=(A5x f (bs.drop j)).map (us++·))) (fun _ i _=>n-(intOf i).toNat)
 case atStart=>exact⟨0,n,0,rfl,by omega,by omega,by omega,[],World.ownsRow_nil _ _ _ _,Below.refl _ _,by show _=_;unfold A3p;rw[hnl];simp⟩
 case round=>
  obtain⟨j,f,k,rfl,hj,hf,hkj,us,HO,HW,HD⟩:=hrel;by_cases hlt:j<n
  ·obtain⟨b,off,rfl,hbl,hc⟩:=(HS.out.below HW.out).2 (by omega);have hjl:j<bs.length:=by omega
   obtain⟨f,rfl⟩:∃f',f=f'+1:=⟨f-1,by omega⟩;have hne:bs.drop j≠[]:=by rw[Ne,List.drop_eq_nil_iff];omega
   have HST:=Lib.hid (B3b (f:=f) (bs:=bs.drop j) (by rw[List.length_drop];omega) hne);have hrt:=D2k (bs.drop j) hne;clear hne
   have hck:wr.cell? ⟨b,off+j,none⟩=some (.int .u8 (bs[j].toNat:Int)):=hc j hjl
   have hRN:B6g (bs.drop j)=B4n bs[j].toNat (n-j) (bs[j+1]?.getD 0).toNat (bs[j+2]?.getD 0).toNat:=by
    unfold B6g;simp[hnl,List.getElem?_eq_getElem hjl]
   obtain⟨c,hcq⟩:∃c,c=bs[j].toNat:=⟨_,rfl⟩;have hc2:c<256:=by have:=bs[j].toNat_lt;omega
   rw[←hcq]at hck hRN;obtain⟨v,hv⟩:∃v,v=(B6g (bs.drop j)).1:=⟨_,rfl⟩;obtain⟨q,hq⟩:∃q,q=(B6g (bs.drop j)).2:=⟨_,rfl⟩;rw[←hv,←hq]at hrt;have HRT:=Lib.hid hrt;clear hrt
   have HV:=Lib.hid hv;have HQ:=Lib.hid hq;have HRN:=Lib.hid hRN;have hj1:(0:Int)≤(j:Int):=by omega
   have hways:(192≤c∧c<224∧j+1<n)∨(224≤c∧c<240∧j+2<n)∨c<192∨(192≤c∧c<224∧n≤j+1)∨(224≤c∧c<240∧n≤j+2)∨240≤c:=by omega
   have HSL:∀m,j+m≤n→Sl A5f w (some ⟨b,off+j,none⟩) m ((bs.drop j).take m):=fun m hm=>by
    obtain⟨b',off',he,hSl⟩:=HS.out.drop hlt;simp only[Option.some.injEq,Addr.mk.injEq,and_true]at he;rw[he.1,he.2];exact hSl.take (by omega)
   have HSLL:=Lib.hid HSL;clear hv hq hRN hcq hbl HSL
   rcases hways with⟨c3,c4,c5⟩|⟨c3,c4,c5⟩|c3|⟨c3,c4,c5⟩|⟨c3,c4,c5⟩|c3
   case' inl=>
    have hjl1:j+1<bs.length:=by omega
    have hck1:wr.cell? ⟨b,off+(j+1),none⟩=some (.int .u8 (bs[j+1].toNat:Int)):=hc (j+1) hjl1
    have hr:B6g (bs.drop j)=(((c:Int) -192)*64+bs[j+1].toNat-128,2):=by
     rw[HRN.out,List.getElem?_eq_getElem hjl1];unfold B4n;rw[if_pos ⟨c3,c4,by omega⟩];rfl
    obtain⟨x,hxq⟩:∃c,c=bs[j+1].toNat:=⟨_,rfl⟩;have hx2:x<256:=by have:=bs[j+1].toNat_lt;omega
    rw[←hxq]at hck1 hr;have HR:=Lib.hid hr;have HSl:=Lib.hid (HSLL.out 2 (by omega));have HQ2:=Lib.hid (show q=2 by rw[HQ.out,hr]);obtain⟨S,hS⟩:∃S,S=(bs.drop j).take 2:=⟨_,rfl⟩
    rw[←hS]at HSl;have HSq:=Lib.hid (show S=(bs.drop j).take q by rw[HQ2.out,hS]);clear hS;have hve:((c:Int) -192)*64+x-128=v:=by rw[HV.out,hr]
    have HVE:=Lib.hid hve;clear hc hxq hr hjl hjl1 hve
    go_wp2_with fail
    rw[HVE.out];have hjq:j+2≤n:=by omega
    have g4:(j:Int)+2≤(cap:Int):=by omega
    have g5:(0:Int)≤(j:Int)+2:=by omega
    have g6:(j:Int)≤(j:Int)+2:=by omega
    clear hck1 hck HVE c3 c4 c5 hc2 hx2;obtain⟨wx,hwx⟩:∃wx,wx=wr:=⟨_,rfl⟩;rw[←hwx]at HO HW⊢;clear hwx
   case' inr.inl=>
    have hjl1:j+1<bs.length:=by omega
    have hjl2:j+2<bs.length:=by omega
    have hck1:wr.cell? ⟨b,off+(j+1),none⟩=some (.int .u8 (bs[j+1].toNat:Int)):=hc (j+1) hjl1
    have hck2:wr.cell? ⟨b,off+(j+2),none⟩=some (.int .u8 (bs[j+2].toNat:Int)):=hc (j+2) hjl2
    have hr:B6g (bs.drop j)=(((c:Int) -224)*4096+((bs[j+1].toNat:Int) -128)*64+bs[j+2].toNat-128,3):=by
     rw[HRN.out,List.getElem?_eq_getElem hjl1,List.getElem?_eq_getElem hjl2];unfold B4n;rw[if_neg (by omega),if_pos ⟨c3,c4,by omega⟩];rfl
    obtain⟨x,hxq⟩:∃c,c=bs[j+1].toNat:=⟨_,rfl⟩;have hx2:x<256:=by have:=bs[j+1].toNat_lt;omega
    obtain⟨y,hyq⟩:∃c,c=bs[j+2].toNat:=⟨_,rfl⟩;have hy2:y<256:=by have:=bs[j+2].toNat_lt;omega
    rw[←hxq]at hck1 hr;rw[←hyq]at hck2 hr;have HR:=Lib.hid hr;have HSl:=Lib.hid (HSLL.out 3 (by omega));have HQ2:=Lib.hid (show q=3 by rw[HQ.out,hr])
    obtain⟨S,hS⟩:∃S,S=(bs.drop j).take 3:=⟨_,rfl⟩;rw[←hS]at HSl;have HSq:=Lib.hid (show S=(bs.drop j).take q by rw[HQ2.out,hS]);clear hS
    have hve:((c:Int) -224)*4096+((x:Int) -128)*64+y-128=v:=by rw[HV.out,hr]
    have HVE:=Lib.hid hve;have g1:(j:Int)+1<n:=by omega
    have g2:(j:Int)+2<n:=by omega
    clear hc hxq hyq hr hjl hjl1 hjl2 hve
    go_wp2_with fail
    go_quiet (fail)
    go_wp2_with fail
    rw[HVE.out];have hjq:j+3≤n:=by omega
    have g4:(j:Int)+3≤(cap:Int):=by omega
    have g5:(0:Int)≤(j:Int)+3:=by omega
    have g6:(j:Int)≤(j:Int)+3:=by omega
    clear hck1 hck2 hck HVE c3 c4 c5 hc2 hx2 hy2 g1 g2;replace HO:Hid ((wr.drewN nq).ownsRow w.heap.size 231 1 u4 k (us.map D4x)):=HO
    replace HW:Hid (Below w.heap.size w (wr.drewN nq)):=D8h HW.out nq;obtain⟨wx,hwx⟩:∃wx,wx=wr.drewN nq:=⟨_,rfl⟩;rw[←hwx]at HO HW⊢;clear hwx
   case' inr.inr.inl|inr.inr.inr.inl|inr.inr.inr.inr.inl|inr.inr.inr.inr.inr=>
    have hr:B6g (bs.drop j)=((c:Int),1):=by
     rw[HRN.out];unfold B4n;rw[if_neg (by omega),if_neg (by omega)]
    have HR:=Lib.hid hr;have HSl:=Lib.hid (HSLL.out 1 (by omega));have HQ2:=Lib.hid (show q=1 by rw[HQ.out,hr]);obtain⟨S,hS⟩:∃S,S=(bs.drop j).take 1:=⟨_,rfl⟩;rw[←hS]at HSl
    have HSq:=Lib.hid (show S=(bs.drop j).take q by rw[HQ2.out,hS]);clear hS;have hve:(c:Int)=v:=by rw[HV.out,hr]
    have HVE:=Lib.hid hve;clear hc hr hjl hve
    go_wp2_with fail
    rw[HVE.out];have hjq:j+1≤n:=by omega
    have g4:(j:Int)+1≤(cap:Int):=by omega
    have g5:(0:Int)≤(j:Int)+1:=by omega
    have g6:(j:Int)≤(j:Int)+1:=by omega
    obtain⟨wx,hwx⟩:∃wx,wx=wr:=⟨_,rfl⟩;rw[←hwx]at HO HW⊢;clear hwx hck HVE hc2
   all_goals
    have hcj:¬cap=j:=by omega
    have g1:(j:Int)≤(n:Int):=by omega
    by_cases inr:0≤v∧v≤65535
    ·obtain⟨i1,i2⟩:=inr;obtain⟨u,rfl⟩:=Int.eq_ofNat_of_zero_le i1
     have hcv0:∀w',Below wx.heap.size wx w'→_:=fun w' h=>C4v (HSl.out.below (HW.out.trans (h.mono HW.out.size))) (cap-j)
     have u1:u<65536:=by omega
     have hd1:decide ((65535:Int)<(u:Int))=false:=by simp;omega
     have hd2:decide ((u:Int)<0)=false:=by simp
     have hd4:(u:Int)≤65535:=by omega
     have hSw:Below wx.heap.size wx wx.drew:=(Below.refl _ _).drew;clear i1 i2
     refine A4g (Below wx.heap.size wx) [(0,true),(1,true),(2,true),(3,true),(4,true),(5,true),(6,true),(7,true),(8,true),(11,true),(12,true),(13,true),(14,true),(15,true),(16,true),(17,true),(9,false),(10,false),(18,true),(19,true)] (by kernel_rfl) (by kernel_rfl) (fun c a d v w h=>by cases d<;>exact h) ?_
     iterate 16
      refine A1m fun K hK=>tkF ?_
      go_simp
      try go_bits
      refine hK _ _ ?_;clear hK K
     refine A1m fun K hK=>alF ?_
     go_step;refine(C2f _ u u1).mono ?_;rintro e w5 ⟨v5,m5,rfl,hown5,hb5⟩;obtain⟨a5,cap5,rfl,hsl5,_⟩:=Sl.ofOwn hown5;replace hSw:Below wx.heap.size wx w5:=hSw.trans hb5
     have hcv1:=C4v hsl5 cap5;have H5:=Lib.hid (HW.out.trans (hSw.mono HW.out.size));clear hown5 hsl5 hb5;go_simp;refine hK _ _ ?_;clear hK K;refine A1m fun K hK=>alF ?_
     go_step;refine hK _ _ ?_;clear hK K hcv1 hcv0
     cases hE:(A9t u==S)
     ·have HN:=Lib.hid (show A3p bs=none by
       rw[HD.out,HST.out,if_pos (HRT.out.2 (fun h=>by
        have h3:=h.2.2;rw[Int.toNat_natCast,←HSq.out]at h3;simp[h3]at hE))];rfl)
      iterate 2
       refine A1m fun K hK=>tkF ?_
       go_simp
       try go_bits
       refine hK _ _ ?_;clear hK K
      refine A9r ?_
      go_wp2_with fail
      go_ret2;rw[HN.out];exact⟨rfl,H5.out⟩
     ·have hE2:A9t u=S:=by simpa using hE
      have htk:=HRT.out.1 ⟨by omega,by omega,by rw[Int.toNat_natCast,←HSq.out];exact hE2⟩;have hq1:q≠0:=by rw[HQ2.out];decide
      have HD2:=Lib.hid (show A3p bs=(A5x f (bs.drop (j+q))).map ((us++[UInt16.ofNat u])++·) by
       rw[HD.out,HST.out,htk,if_neg hq1,Int.toNat_natCast,List.drop_drop]
       cases A5x f (bs.drop (j+q))<;>simp)
      rw[HQ2.out]at HD2;have HE:=Lib.hid (show(Value.int .u16 (u:Int))=D4x (UInt16.ofNat u) by unfold D4x;rw[UInt16.toNat_ofNat_of_lt' u1]);have HO5:=Lib.hid (A1n HO.out hSw)
      clear hE2 htk hq1
      iterate 2
       refine A1m fun K hK=>tkF ?_
       go_simp
       try go_bits
       refine hK _ _ ?_;clear hK K
      refine A9r ?_;clear hE hSw
      go_wp2_with (at_builtin;refine A6b E0w rfl _ _ rfl w.heap.size _ _ _ rfl HO5.out _ 1 _ rfl rfl rfl (by omega) (by unfold maxLen;omega) H5.out.size ?_;intro v1 w7 hown1 hg1 hb1;have HO7:=Lib.hid hown1;have HB7:=Lib.hid (H5.out.trans hb1);clear hown1 hg1 hb1)
      go_roundw
      case rel=>exact⟨_,f,k+1,by go_num,by omega,by omega,by omega,us++[UInt16.ofNat u],by rw[List.map_append];show World.ownsRow _ _ _ _ _ _ (_++[_]);rw[←HE.out];exact HO7.out,HB7,HD2⟩
      case measure=>simp[intOf];omega
    ·have HN:=Lib.hid (show A3p bs=none by rw[HD.out,HST.out,if_pos (HRT.out.2 (fun h=>inr ⟨h.1,h.2.1⟩))];rfl);have hSw:Below wx.heap.size wx wx.drew:=(Below.refl _ _).drew
     by_cases neg:v<0
     ·refine A4g (Below wx.heap.size wx) [(0,true),(1,true),(2,true),(3,true),(4,true),(5,true),(6,true),(7,true),(8,true),(11,true),(12,true),(13,true),(14,true),(15,true),(16,true),(17,true),(9,false),(10,false),(18,true),(19,true)] (by kernel_rfl) (by kernel_rfl) (fun c a d v w h=>by cases d<;>exact h) ?_
      have hd:=decide_eq_true neg
      iterate 3
       refine A1m fun K hK=>tkF ?_
       go_simp
       try go_bits
       refine hK _ _ ?_;clear hK K
      iterate 2
       refine A1m fun K hK=>skF ?_
       go_simp;refine hK _ _ ?_;clear hK K
      iterate 2
       refine A1m fun K hK=>tkF ?_
       go_simp
       try go_bits
       refine hK _ _ ?_;clear hK K
      iterate 12
       refine A1m fun K hK=>skF ?_
       go_simp;refine hK _ _ ?_;clear hK K
      iterate 1
       refine A1m fun K hK=>tkF ?_
       go_simp
       try go_bits
       refine hK _ _ ?_;clear hK K
      refine A9r ?_
      go_wp2_with fail
      go_ret2;rw[HN.out];exact⟨rfl,HW.out.drew⟩
     ·have pos:65535<v:=by omega
      have hd:=decide_eq_true pos;have hd0:=decide_eq_false neg
      refine A4g (Below wx.heap.size wx) [(0,true),(1,true),(2,true),(3,true),(4,true),(5,true),(6,true),(7,true),(8,true),(11,true),(12,true),(13,true),(14,true),(15,true),(16,true),(17,true),(9,false),(10,false),(18,true),(19,true)] (by kernel_rfl) (by kernel_rfl) (fun c a d v w h=>by cases d<;>exact h) ?_
      iterate 7
       refine A1m fun K hK=>tkF ?_
       go_simp
       try go_bits
       refine hK _ _ ?_;clear hK K
      iterate 12
       refine A1m fun K hK=>skF ?_
       go_simp;refine hK _ _ ?_;clear hK K
      iterate 1
       refine A1m fun K hK=>tkF ?_
       go_simp
       try go_bits
       refine hK _ _ ?_;clear hK K
      refine A9r ?_
      go_wp2_with fail
      go_ret2;rw[HN.out];exact⟨rfl,HW.out.drew⟩
  ·have hN:A3p bs=some us:=by
    rw[HD.out,List.drop_of_length_le (by omega)]
    cases f<;>simp[A5x]
   have HN:=Lib.hid hN;clear hN
   go_wp2
   go_ret2;rw[HN.out];exact⟨_,k,rfl,HO.out,HW.out⟩
end
end Go.Proofs.YtclpkipaehpkdaaGreatDoor
