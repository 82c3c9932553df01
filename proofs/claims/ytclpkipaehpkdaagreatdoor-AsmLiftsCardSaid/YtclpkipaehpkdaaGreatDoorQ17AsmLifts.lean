/- asm: own texts, merged (wip/merge3.py). No condition. -/
import Derived.Test.YtclpkipaehpkdaaGreatDoorQ15AsmLifts
import Derived.Test.YtclpkipaehpkdaaGreatDoorQ16AsmLifts
import Derived.Laws.StructEq
import Derived.Lib.SmallJoins
import Derived.OpenShut
import Derived.SizedLaws
set_option linter.unusedVariables false
set_option linter.unusedSimpArgs false
set_option maxRecDepth 100000
set_option maxHeartbeats 64000000
namespace Go.Proofs.YtclpkipaehpkdaaGreatDoor
section
open Go.ChangeShapes Go.WideShapes Go.ChangeAt Go.RowKit
theorem C0w(f:KF):A2i f=true↔(A5a f.pool=true∧clsOk f.pool f.th=true∧(f.su=0∨clsOk f.pool f.su=true)∧(f.fields.length≤64∧f.methods.length≤64)∧f.fields.all (fun d=>A3d f.pool d.fl d.nm d.ds)=true∧f.methods.all (A2y f.pool)=true):=by
 unfold A2i;simp only[Bool.and_eq_true,Bool.or_eq_true,decide_eq_true_eq];constructor
 ·rintro⟨⟨⟨⟨⟨h1,h2⟩,h3⟩,h4⟩,h5⟩,h6⟩;exact⟨h1,h2,h3,h4,h5,h6⟩
 ·rintro⟨h1,h2,h3,h4,h5,h6⟩;exact⟨⟨⟨⟨⟨h1,h2⟩,h3⟩,h4⟩,h5⟩,h6⟩
def E1e(pr c1:Bool)(su:Int)(c2:Bool)(fn mn:Nat)(fs ms:Bool):Prop:=pr=true∧c1=true∧(su=0∨c2=true)∧(fn≤64∧mn≤64)∧fs=true∧ms=true
theorem C6g(w:World)(f:KF)(h:f.Rd w)(hpn:f.pn≤65536)(hps:∀i:Nat,i<f.pn→(kAt f.pool i).s.length≤65536)(hbig:f.Big):
  Calls Tryz.prog 25 #[.agg f.vals] w (A0k (A2i f) w):=by
 obtain⟨R,hR⟩:∃R,R=A2i f:=⟨_,rfl⟩;have hq:=C0w f;rw[←hR]at hq⊢;have hl2:=h.fields.1;have hl3:=h.methods.1
 have HQ:=Lib.hid (show R=true↔E1e (A5a f.pool) (clsOk f.pool f.th) f.su (clsOk f.pool f.su) f.fn f.mn (f.fields.all (fun d=>A3d f.pool d.fl d.nm d.ds)) (f.methods.all (A2y f.pool)) by
  rw[hq,hl2,hl3];rfl)
 have HX:=Lib.hid h;have HPS:=Lib.hid hps;have HBE:=Lib.hid hbig.each;have hfb:=hbig.fn;have hmb:=hbig.mn;clear hq hR hl2 hl3 h hps hbig
 obtain⟨pa,pn,pc,pool,th,su,fa,fn,fc,fields,ma,mn,mc,methods⟩:=f;unfold KF.vals;dsimp only at*
 have hal:Below w.heap.size w (w.alloc (.cells #[.slice pa pn pc,.int .i64 th,.int .i64 su,.slice fa fn fc,.slice ma mn mc] 26)):=A0e _ _
 have HT0:=Lib.hid (heap_alloc_last w (.cells #[.slice pa pn pc,.int .i64 th,.int .i64 su,.slice fa fn fc,.slice ma mn mc] 26));have HB0:=Lib.hid hal;clear hal;go_enter Tryz.func25,Tryz.ntmps25
 go_upto_region 1 with fail
 generalize w.alloc (.cells #[.slice pa pn pc,.int .i64 th,.int .i64 su,.slice fa fn fc,.slice ma mn mc] 26)=W0 at*;obtain⟨bf,hbf⟩:∃b,b=w.heap.size:=⟨_,rfl⟩;rw[←hbf]at HT0⊢;clear hbf
 have HPR:=Lib.hid (C0u W0 pa pn pc pool (HX.out.pool.below HB0.out) hpn HPS.out);have HC1:=Lib.hid (fun w' (hb:Below w.heap.size w w')=>B0b w' pa pn pc pool th (HX.out.pool.below hb) hpn)
 have HC2:=Lib.hid (fun w' (hb:Below w.heap.size w w')=>B0b w' pa pn pc pool su (HX.out.pool.below hb) hpn);generalize A5a pool=pr at*;generalize clsOk pool th=c1 at*
 generalize clsOk pool su=c2 at*;have k0:=A0a HT0.out 0 rfl
 go_cut [43] (fun r wx=>∃bad:Bool,r= .bool bad∧Hid (bad=true→false=R)∧Hid (bad=false→pr=true∧c1=true∧(su=0∨c2=true)∧(fn≤64∧mn≤64))∧Hid (Below w.heap.size w wx)∧Hid (wx.heap[bf]? =some (.cells #[.slice pa pn pc,.int .i64 th,.int .i64 su,.slice fa fn fc,.slice ma mn mc] 26)))
 case first=>
  have k1:=A0a HT0.out 1 rfl;have k2:=A0a HT0.out 2 rfl;have k3:=A0a HT0.out 3 rfl;have k4:=A0a HT0.out 4 rfl
  go_wp2_with fail
  refine HPR.out.mono ?_;rintro e W1 ⟨rfl,hb⟩;have HBW1:=Lib.hid (HB0.out.trans (hb.mono HB0.out.size));have HTW1:=Lib.hid (A0c HT0.out hb);clear hb;have k1:=A0a HTW1.out 1 rfl
  have k2:=A0a HTW1.out 2 rfl;have k0:=A0a HTW1.out 0 rfl;have k3:=A0a HTW1.out 3 rfl;have k4:=A0a HTW1.out 4 rfl
  cases pr with
  |false=>
   have HF1:=Lib.hid (show true=true→false=R from fun _=>A7d HQ.out (fun hq=>by cases hq.1))
   have HF2:=Lib.hid (show true=false→(false:Bool)=true∧c1=true∧(su=0∨c2=true)∧(fn≤64∧mn≤64)from fun h=>by cases h)
   clear HQ
   go_wp2_with fail
   go_meet
   exact⟨true,rfl,Lib.hid (by first|exact HF1.out|simpa using HF1.out|simp),Lib.hid (by first|exact HF2.out|simpa using HF2.out|simp),HBW1,HTW1⟩
  |true=>
   go_wp2_with fail
   refine(HC1.out W1 HBW1.out).mono ?_;rintro e W2 ⟨rfl,hb⟩;have HBW2:=Lib.hid (HBW1.out.trans (hb.mono HBW1.out.size));have HTW2:=Lib.hid (A0c HTW1.out hb);clear hb
   have k1:=A0a HTW2.out 1 rfl;have k2:=A0a HTW2.out 2 rfl;have k0:=A0a HTW2.out 0 rfl;have k3:=A0a HTW2.out 3 rfl;have k4:=A0a HTW2.out 4 rfl
   cases c1 with
   |false=>
    have HF1:=Lib.hid (show true=true→false=R from fun _=>A7d HQ.out (fun hq=>by cases hq.2.1))
    have HF2:=Lib.hid (show true=false→(true:Bool)=true∧(false:Bool)=true∧(su=0∨c2=true)∧(fn≤64∧mn≤64)from fun h=>by cases h)
    clear HQ
    go_wp2_with fail
    go_meet
    exact⟨true,rfl,Lib.hid (by first|exact HF1.out|simpa using HF1.out|simp),Lib.hid (by first|exact HF2.out|simpa using HF2.out|simp),HBW2,HTW2⟩
   |true=>
    by_cases h0:su=0
    ·have e0:(su !=0)=false:=by simp[h0]
     have HS0:=Lib.hid h0;clear h0;by_cases h1:64<fn
     ·have e1:decide ((64:Int)<fn)=true:=decide_eq_true (by omega);have HF1:=Lib.hid (show true=true→false=R from fun _=>A7d HQ.out (fun hq=>by have h2:=hq.2.2.2.1;omega))
      have HF2:=Lib.hid (show true=false→(true:Bool)=true∧(true:Bool)=true∧(su=0∨c2=true)∧(fn≤64∧mn≤64)from fun h=>by cases h)
      clear HQ
      go_wp2_with fail
      go_meet
      exact⟨true,rfl,Lib.hid (by first|exact HF1.out|simpa using HF1.out|simp),Lib.hid (by first|exact HF2.out|simpa using HF2.out|simp),HBW2,HTW2⟩
     ·have e1:decide ((64:Int)<fn)=false:=decide_eq_false (by omega);by_cases h2:64<mn
      ·have e2:decide ((64:Int)<mn)=true:=decide_eq_true (by omega);have HF1:=Lib.hid (show true=true→false=R from fun _=>A7d HQ.out (fun hq=>by have h2:=hq.2.2.2.1;omega))
       have HF2:=Lib.hid (show true=false→(true:Bool)=true∧(true:Bool)=true∧(su=0∨c2=true)∧(fn≤64∧mn≤64)from fun h=>by cases h)
       clear HQ
       go_wp2_with fail
       go_meet
       exact⟨true,rfl,Lib.hid (by first|exact HF1.out|simpa using HF1.out|simp),Lib.hid (by first|exact HF2.out|simpa using HF2.out|simp),HBW2,HTW2⟩
      ·have e2:decide ((64:Int)<mn)=false:=decide_eq_false (by omega)
       have HF1:=Lib.hid (show false=true→false=R from fun h=>by cases h)
       have HF2:=Lib.hid (show false=false→(true:Bool)=true∧(true:Bool)=true∧(su=0∨c2=true)∧(fn≤64∧mn≤64)from fun _=>⟨rfl,rfl,.inl HS0.out,by omega,by omega⟩)
       clear HQ
       go_wp2_with fail
       go_meet
       exact⟨false,rfl,Lib.hid (by first|exact HF1.out|simpa using HF1.out|simp),Lib.hid (by first|exact HF2.out|simpa using HF2.out|simp),HBW2,HTW2⟩
    ·have e0:(su !=0)=true:=by simp[h0]
     have HS0:=Lib.hid h0;clear h0
     go_wp2_with fail
     refine(HC2.out W2 HBW2.out).mono ?_;rintro e W3 ⟨rfl,hb⟩;have HBW3:=Lib.hid (HBW2.out.trans (hb.mono HBW2.out.size));have HTW3:=Lib.hid (A0c HTW2.out hb);clear hb
     have k1:=A0a HTW3.out 1 rfl;have k2:=A0a HTW3.out 2 rfl;have k0:=A0a HTW3.out 0 rfl;have k3:=A0a HTW3.out 3 rfl;have k4:=A0a HTW3.out 4 rfl
     cases c2 with
     |false=>
      have HF1:=Lib.hid (show true=true→false=R from fun _=>A7d HQ.out (fun hq=>by exact hq.2.2.1.elim HS0.out (fun h=>by cases h)))
      have HF2:=Lib.hid (show true=false→(true:Bool)=true∧(true:Bool)=true∧(su=0∨(false:Bool)=true)∧(fn≤64∧mn≤64)from fun h=>by cases h)
      clear HQ
      go_wp2_with fail
      go_meet
      exact⟨true,rfl,Lib.hid (by first|exact HF1.out|simpa using HF1.out|simp),Lib.hid (by first|exact HF2.out|simpa using HF2.out|simp),HBW3,HTW3⟩
     |true=>
      by_cases h1:64<fn
      ·have e1:decide ((64:Int)<fn)=true:=decide_eq_true (by omega);have HF1:=Lib.hid (show true=true→false=R from fun _=>A7d HQ.out (fun hq=>by have h2:=hq.2.2.2.1;omega))
       have HF2:=Lib.hid (show true=false→(true:Bool)=true∧(true:Bool)=true∧(su=0∨(true:Bool)=true)∧(fn≤64∧mn≤64)from fun h=>by cases h)
       clear HQ
       go_wp2_with fail
       go_meet
       exact⟨true,rfl,Lib.hid (by first|exact HF1.out|simpa using HF1.out|simp),Lib.hid (by first|exact HF2.out|simpa using HF2.out|simp),HBW3,HTW3⟩
      ·have e1:decide ((64:Int)<fn)=false:=decide_eq_false (by omega);by_cases h2:64<mn
       ·have e2:decide ((64:Int)<mn)=true:=decide_eq_true (by omega)
        have HF1:=Lib.hid (show true=true→false=R from fun _=>A7d HQ.out (fun hq=>by have h2:=hq.2.2.2.1;omega))
        have HF2:=Lib.hid (show true=false→(true:Bool)=true∧(true:Bool)=true∧(su=0∨(true:Bool)=true)∧(fn≤64∧mn≤64)from fun h=>by cases h)
        clear HQ
        go_wp2_with fail
        go_meet
        exact⟨true,rfl,Lib.hid (by first|exact HF1.out|simpa using HF1.out|simp),Lib.hid (by first|exact HF2.out|simpa using HF2.out|simp),HBW3,HTW3⟩
       ·have e2:decide ((64:Int)<mn)=false:=decide_eq_false (by omega)
        have HF1:=Lib.hid (show false=true→false=R from fun h=>by cases h)
        have HF2:=Lib.hid (show false=false→(true:Bool)=true∧(true:Bool)=true∧(su=0∨(true:Bool)=true)∧(fn≤64∧mn≤64)from fun _=>⟨rfl,rfl,.inr rfl,by omega,by omega⟩)
        clear HQ
        go_wp2_with fail
        go_meet
        exact⟨false,rfl,Lib.hid (by first|exact HF1.out|simpa using HF1.out|simp),Lib.hid (by first|exact HF2.out|simpa using HF2.out|simp),HBW3,HTW3⟩
 case rest=>
  obtain⟨bad,rfl,HBAD,HGOOD,HB1,HT1⟩:=hcut;clear k0 HPR HC1 HC2 HB0 HT0;have k3:=A0a HT1.out 3 rfl
  cases bad with
  |true=>
   have HF:=Lib.hid (HBAD.out rfl)
   go_wp2_with fail
   go_ret;exact A0k.of HF.out HB1.out
  |false=>
  have HGD:=Lib.hid (HGOOD.out rfl);clear HBAD HGOOD
  go_wp2_with fail
  clear k3
  go_loopg [47] fn (fun gn i wr=>∃j:Nat,j≤fn∧gn=fn-j∧i= .int .i64 j∧Hid ((fields.take j).all (fun d=>A3d pool d.fl d.nm d.ds)=true)∧Hid (Below w.heap.size w wr)∧Hid (wr.heap[bf]? =some (.cells #[.slice pa pn pc,.int .i64 th,.int .i64 su,.slice fa fn fc,.slice ma mn mc] 26)))
  case atStart=>exact⟨0,by omega,by omega,by go_num,Lib.hid (by simp),HB1,HT1⟩
  case round=>
   clear HB1 HT1;obtain⟨j,hj,rfl,rfl,HA,HB,HT⟩:=hrel;by_cases hlt:j<fn
   ·obtain⟨b,off,x,rfl,_,hv,q⟩:=Ss.getC (HX.out.fields.below HB.out) j hlt
    have HN:=Lib.hid (fun(h:A3d pool x.fl x.nm x.ds=false)=>show false=R from A7d HQ.out (fun hq=>by have h2:=hq.2.2.2.2.1;rw[A4t hv h]at h2;cases h2))
    have HY:=Lib.hid (fun(h:A3d pool x.fl x.nm x.ds=true)=>show(fields.take (j+1)).all (fun d=>A3d pool d.fl d.nm d.ds)=true by rw[A5g _ _ _ _ hv,HA.out,h];rfl)
    obtain⟨fl,nm,ds⟩:=x;dsimp only at HN HY;have q0:wr.cell? ⟨b,off+j*3,none⟩=some (.int .i64 fl):=q 0 (by omega)
    have q1:wr.cell? ⟨b,off+j*3+1,none⟩=some (.int .i64 nm):=q 1 (by omega);have q2:wr.cell? ⟨b,off+j*3+2,none⟩=some (.int .i64 ds):=q 2 (by omega);clear q hv
    have hal:Below wr.heap.size wr (wr.alloc (.cells #[.int .i64 fl,.int .i64 nm,.int .i64 ds] 75)):=A0e _ _
    have HXF:=Lib.hid (heap_alloc_last wr (.cells #[.int .i64 fl,.int .i64 nm,.int .i64 ds] 75));have HB2:=Lib.hid (HB.out.trans (hal.mono HB.out.size));have HT2:=Lib.hid (A0c HT.out hal)
    have hj1:(j:Int)<fn:=by omega
    go_upto_region 6 with fail
    clear q0 q1 q2 hal HB HT;generalize wr.alloc (.cells #[.int .i64 fl,.int .i64 nm,.int .i64 ds] 75)=W1 at*;generalize wr.heap.size=bt at*;have p0:=A0a HXF.out 0 rfl
    have p1:=A0a HXF.out 1 rfl;have p2:=A0a HXF.out 2 rfl;have k0:=A0a HT2.out 0 rfl;have HMB:=Lib.hid (B4d W1 pa pn pc pool fl nm ds (HX.out.pool.below HB2.out) hpn)
    generalize A3d pool fl nm ds=ok at*
    go_wp2_with fail
    refine HMB.out.mono ?_;rintro e w2 ⟨rfl,hb⟩;have HB3:=Lib.hid (HB2.out.trans (hb.mono HB2.out.size));have HT3:=Lib.hid (A0c HT2.out hb);clear hb HMB p0 p1 p2 k0 HB2 HT2
    cases ok with
    |false=>
     have HF:=Lib.hid (HN.out rfl)
     go_wp2_with fail
     go_ret;exact A0k.of HF.out HB3.out
    |true=>
     have HF:=Lib.hid (HY.out rfl)
     go_wp2_with fail
     go_roundg (fn-(j+1))
     case measure=>omega
     case rel=>exact⟨j+1,by omega,rfl,by go_num,HF,HB3,HT3⟩
   ·obtain rfl:fn=j:=by omega
    have HFA:=Lib.hid (show fields.all (fun d=>A3d pool d.fl d.nm d.ds)=true from B0c HA.out HX.out.fields.1);clear HA;have k4:=A0a HT.out 4 rfl
    go_wp2_with fail
    clear k4
    go_loopg [65] mn (fun gn i wr=>∃j:Nat,j≤mn∧gn=mn-j∧i= .int .i64 j∧Hid ((methods.take j).all (A2y pool)=true)∧Hid (Below w.heap.size w wr)∧Hid (wr.heap[bf]? =some (.cells #[.slice pa pn pc,.int .i64 th,.int .i64 su,.slice fa fn fc,.slice ma mn mc] 26)))
    case atStart=>exact⟨0,by omega,by omega,by go_num,Lib.hid (by simp),HB,HT⟩
    case round=>
     clear HB HT;obtain⟨j,hj,rfl,rfl,HA,HB,HT⟩:=hrel;by_cases hlt:j<mn
     ·obtain⟨b,off,x,rfl,_,hv,q⟩:=Ss.getC (HX.out.methods.below HB.out) j hlt
      have HN:=Lib.hid (fun(h:A2y pool x=false)=>show false=R from A7d HQ.out (fun hq=>by have h2:=hq.2.2.2.2.2;rw[A4t hv h]at h2;cases h2))
      have HY:=Lib.hid (fun(h:A2y pool x=true)=>show(methods.take (j+1)).all (A2y pool)=true by rw[A5g _ _ _ _ hv,HA.out,h];rfl)
      have hxr:=HX.out.each x (List.mem_of_getElem? hv);have hxb:=HBE.out x (List.mem_of_getElem? hv)
      have HMB:=Lib.hid (fun w' (hb:Below w.heap.size w w')=>C3h w' pa pn pc pool x (HX.out.pool.below hb) hpn (hxr.below hb) hxb.1 hxb.2.1 hxb.2.2.1 hxb.2.2.2);clear hxr hxb
      generalize A2y pool x=ok at*;obtain⟨fl,nm,ds,st,lo,ca,cn,cc,code,ta,tn,tc,traps,na,nn,nc,maps⟩:=x;dsimp only at HMB
      have q0:wr.cell? ⟨b,off+j*8,none⟩=some (.int .i64 fl):=q 0 (by omega);have q1:wr.cell? ⟨b,off+j*8+1,none⟩=some (.int .i64 nm):=q 1 (by omega)
      have q2:wr.cell? ⟨b,off+j*8+2,none⟩=some (.int .i64 ds):=q 2 (by omega);have q3:wr.cell? ⟨b,off+j*8+3,none⟩=some (.int .i64 st):=q 3 (by omega)
      have q4:wr.cell? ⟨b,off+j*8+4,none⟩=some (.int .i64 lo):=q 4 (by omega);have q5:wr.cell? ⟨b,off+j*8+5,none⟩=some (.slice ca cn cc):=q 5 (by omega)
      have q6:wr.cell? ⟨b,off+j*8+6,none⟩=some (.slice ta tn tc):=q 6 (by omega);have q7:wr.cell? ⟨b,off+j*8+7,none⟩=some (.slice na nn nc):=q 7 (by omega);clear q hv
      have hal:Below wr.heap.size wr (wr.alloc (.cells #[.int .i64 fl,.int .i64 nm,.int .i64 ds,.int .i64 st,.int .i64 lo,.slice ca cn cc,.slice ta tn tc,.slice na nn nc] 65)):=A0e _ _
      have HXM:=Lib.hid (heap_alloc_last wr (.cells #[.int .i64 fl,.int .i64 nm,.int .i64 ds,.int .i64 st,.int .i64 lo,.slice ca cn cc,.slice ta tn tc,.slice na nn nc] 65))
      have HB2:=Lib.hid (HB.out.trans (hal.mono HB.out.size));have HT2:=Lib.hid (A0c HT.out hal);have hj1:(j:Int)<mn:=by omega
      go_upto_region 12 with fail
      clear q0 q1 q2 q3 q4 q5 q6 q7 hal HB HT
      generalize wr.alloc (.cells #[.int .i64 fl,.int .i64 nm,.int .i64 ds,.int .i64 st,.int .i64 lo,.slice ca cn cc,.slice ta tn tc,.slice na nn nc] 65)=W1 at*
      generalize wr.heap.size=bt at*;have p0:=A0a HXM.out 0 rfl;have p1:=A0a HXM.out 1 rfl;have p2:=A0a HXM.out 2 rfl;have p3:=A0a HXM.out 3 rfl
      have p4:=A0a HXM.out 4 rfl;have p5:=A0a HXM.out 5 rfl;have p6:=A0a HXM.out 6 rfl;have p7:=A0a HXM.out 7 rfl;dsimp at p0 p1 p2 p3 p4 p5 p6 p7
      have k0:=A0a HT2.out 0 rfl
      go_wp2_with fail
      refine(HMB.out W1 HB2.out).mono ?_;rintro e w2 ⟨rfl,hb⟩;have HB3:=Lib.hid (HB2.out.trans (hb.mono HB2.out.size));have HT3:=Lib.hid (A0c HT2.out hb)
      clear hb HMB p0 p1 p2 p3 p4 p5 p6 p7 k0 HB2 HT2
      cases ok with
      |false=>
       have HF:=Lib.hid (HN.out rfl)
       go_wp2_with fail
       go_ret;exact A0k.of HF.out HB3.out
      |true=>
       have HF:=Lib.hid (HY.out rfl)
       go_wp2_with fail
       go_roundg (mn-(j+1))
       case measure=>omega
       case rel=>exact⟨j+1,by omega,rfl,by go_num,HF,HB3,HT3⟩
     ·obtain rfl:mn=j:=by omega
      have HMA:=Lib.hid (show methods.all (A2y pool)=true from B0c HA.out HX.out.methods.1)
      have HF:=Lib.hid (C9f HQ.out ⟨HGD.out.1,HGD.out.2.1,HGD.out.2.2.1,HGD.out.2.2.2,HFA.out,HMA.out⟩)
      go_wp2_with fail
      go_ret;exact A0k.of HF.out HB.out
theorem A8s{P:Program}{ρ:Operand→Value}{o:Oper}{op:BinOp}{t:TypeId}{x y:Operand}{ty:TypeId}(ho:o.op= .binOp op t x y ty){v:Value}{w:World}
  (h:((eqGuard op t x y (ρ x) (ρ y)).run P w).andThen (fun _ w'=>(binOp op t (ρ x) (ρ y)).run P w')= .ok v w):(execOp ρ o).run P w= .ok (.value v) w:=by
 unfold execOp;simp only[ho,Sem.run_bind,Sem.run_pure];rw[h];rfl
theorem A5y{e:TypeId}{d:TypeDesc}(h1:Tryz.prog.underlying e=some d)(h2:(match d with| .struct _| .array _ _=>false|_=>true)=true)(w:World)(cs:Array Value)(i:Nat)(v:Value)(h3:cs[i]? =some v):(part e cs i).run Tryz.prog w= .ok v w:=by
 cases d<;>simp[part,isAgg,run_underlying h1,h3]at h2⊢
theorem A1e{W u:World}{a:Addr}{v:Value}(h:EqW W.drew u)(hc:W.cell? a=some v):u.cell? a=some v:=by rw[show u=W.drew from h];exact hc
theorem D5h{α β:Type}{f:α→β}{l m:List α}(h:l.map f=m.map f){j:Nat}{x y:α}(hx:l[j]? =some x)(hy:m[j]? =some y):f x=f y:=by
 have e:(l.map f)[j]? =(m.map f)[j]? :=by rw[h]
 rw[List.getElem?_map,List.getElem?_map,hx,hy]at e;simpa using e
end
section
open Go.ChangeShapes Go.WideShapes Go.ChangeAt Go.RowKit Go.Joins Go.Deep
theorem D1q{α:Type}(n:Nat)(P:Nat→α→Prop)(h:∀i,i<n→∃x,P i x):∃L:List α,L.length=n∧∀i (hi:i<L.length),P i L[i]:=by
 induction n with
 |zero=>exact⟨[],rfl,fun i hi=>by simp at hi⟩
 |succ n ih=>
  obtain⟨L,hl,hL⟩:=ih (fun i hi=>h i (by omega));obtain⟨x,hx⟩:=h n (by omega);refine⟨L++[x],by simp[hl],fun i hi=> ?_⟩;by_cases hin:i<L.length
  ·rw[List.getElem_append_left hin];exact hL i hin
  ·have:i=n:=by simp at hi;omega
   subst this;rw[List.getElem_append_right (by omega)];simpa[hl]using hx
theorem D2i(b off k j:Nat):((⟨b,off,none⟩:Addr).add k).add j=⟨b,off+k+j,none⟩:=by rw[B7f,B7f]
theorem C8f(x:Addr)(k:Nat):(x.add (0*k)).add 0=x:=by simp[Addr.add]
theorem C1n{n:Int}(h:(Lit.int .i64 n).wf=true):A4x n:=bounds_i64 h
theorem E1a{α:Type}{enc:α→Value}{w:World}{a:Option Addr}{n:Nat}{L:List α}(h:Ss 1 (fun v=>[enc v]) w a n L):Sl enc w a n L:=by
 refine⟨h.1,fun hn=> ?_⟩;obtain⟨b,off,ha,hlt,hc⟩:=h.2 hn;refine⟨b,off,ha,hlt,fun i hi=> ?_⟩;have:=hc i hi 0 (by omega);simpa using this
theorem D9j{cs:List Value}(h:cs.length=1):∃v,cs=[v]:=by
 match cs,h with
 |[v],_=>exact⟨v,rfl⟩
theorem A6s:reachBytes=140737488351232:=rfl
theorem A3n{H:Type}{enc:TypeId×Value→H}{w:World}{k:IntKind}{t:TypeId}{fuel:Nat}{v:Value}{x:DataW H×List MemPlace}(ht:Tryz.prog.underlying t=some (.int k))(hf:DataW.trod enc Tryz.prog w 0 (fun _=>true) true fuel t [v]=some x):∃n,v= .int k n∧(Lit.int k n).wf=true:=by
 obtain⟨n,hcs,_,hw⟩:=DataW.trod_int ht hf;simp at hcs;exact⟨n,hcs,hw⟩
theorem D6c{H:Type}{enc:TypeId×Value→H}{w:World}{fuel:Nat}{x:DataW H×List MemPlace}{v:Value}(hf:DataW.trod enc Tryz.prog w 0 (fun _=>true) true fuel 9 [v]=some x)(hw:∀m∈x.1.weights Tryz.prog 9,m≤reachBytes):∃s:List UInt8,v= .string ⟨s.toArray⟩∧s.length≤140737488351232:=by
 obtain⟨s,hcs,hx,h2⟩:=DataW.trod_string Tryz.underlying9 hf;simp at hcs;subst hcs hx;refine⟨s.data.toList,rfl,hw _ (by simp[DataW.weights])⟩
theorem B3g{H:Type}{enc:TypeId×Value→H}{w:World}{fuel:Nat}{x:DataW H×List MemPlace}{t e:TypeId}{v:Value}(ht:Tryz.prog.underlying t=some (.slice e))(hf:DataW.trod enc Tryz.prog w 0 (fun _=>true) true fuel t [v]=some x):∃a n c,v= .slice a n c:=by
 rcases open_slice ht hf with⟨hcs,_⟩|⟨x',len,c,m,n',D,Pl,hcs,_⟩
 ·simp at hcs;exact⟨none,0,0,hcs⟩
 ·simp at hcs;exact⟨some x',len,c,hcs⟩
theorem A9v{H:Type}{P:Program}{e:TypeId}:∀{l:List (DataW H)} {d:DataW H},d∈l→∀n∈d.weights P e,n∈DataW.weightsAll P e l
 |d'::r,d,hd,n,hn=>by
  simp only[DataW.weightsAll,List.mem_append]
  rcases List.mem_cons.1 hd with rfl|h
  ·exact Or.inl hn
  ·exact Or.inr (A9v h n hn)
theorem A6z{H:Type}{enc:TypeId×Value→H}{w:World}{α:Type}{t e:TypeId}{z:Nat}(hz:0<z)(hu:Tryz.prog.underlying t=some (.slice e))(hc:Tryz.prog.cellsOf e=z)(cells:α→List Value)(Q:α→Prop)
  (hitem:∀(fuel:Nat) (cs:List Value) (x:DataW H×List MemPlace),cs.length=z→DataW.trod enc Tryz.prog w 0 (fun _=>true) true fuel e cs=some x→(∀n∈x.1.weights Tryz.prog e,n≤reachBytes)→∃c:α,cs=cells c∧Q c)
  {fuel:Nat} {a:Option Addr} {n cap:Nat} {x:DataW H×List MemPlace} (hf:DataW.trod enc Tryz.prog w 0 (fun _=>true) true fuel t [.slice a n cap]=some x) (hw:∀m∈x.1.weights Tryz.prog t,m≤reachBytes):
  n≤cap∧n≤maxLen∧n*Tryz.prog.bytesOf e≤reachBytes∧∃L:List α,Ss z cells w a n L∧∀c∈L,Q c:=by
 rcases open_slice hu hf with⟨hcs,_⟩|⟨x',len,c,m,n',D,Pl,hcs,_,hl,hm,hmm,hx,hi⟩
 ·simp at hcs;obtain⟨rfl,rfl,rfl⟩:=hcs
  exact⟨by omega,by unfold maxLen;omega,by omega,[],Ss.nil _ _,fun c hc=>by cases hc⟩
 ·simp at hcs;obtain⟨rfl,rfl,rfl⟩:=hcs;simp only[if_true]at hmm;subst hmm;subst hx
  have hreach:n*Tryz.prog.bytesOf e≤reachBytes:=by
   have h1:=hw ((n+(m-n))*Tryz.prog.bytesOf e) (by simp[DataW.weights,hu]);exact Nat.le_trans (Nat.mul_le_mul_right _ (by omega)) h1
  refine⟨hl,by omega,hreach,?_⟩;by_cases hn:0<n
  ·have hsp:x'.spot=none:=by
    obtain⟨cs',hc',ht⟩:=hi 0 (by omega);rw[hc]at hc';obtain⟨_,hcl,hat⟩:=World.cells?_some hc';have q0:=hat 0 hz;rw[C8f]at q0;have h0:0<cs'.length:=by omega
    rw[List.getElem?_eq_getElem h0]at q0;exact World.cell?_spot q0
   obtain⟨b,off,spot⟩:=x';simp only at hsp;subst hsp
   have key:∀i,i<n→∃c:α,(∀j,j<z→w.cell? ⟨b,off+i*z+j,none⟩=(cells c)[j]?)∧Q c∧(cells c).length=z:=by
    intro i hin;obtain⟨cs',hc',ht⟩:=hi i (by omega);rw[hc]at hc';obtain⟨_,hcl,hat⟩:=World.cells?_some hc'
    obtain⟨c,rfl,hQ⟩:=hitem n' cs' _ hcl ht (fun k hk=>hw k (by
     simp only[DataW.weights,hu,List.mem_cons,List.mem_append];exact Or.inr (Or.inl (A9v (List.mem_map.2 ⟨i,List.mem_range.2 hin,rfl⟩) k hk))))
    refine⟨c,fun j hj=> ?_,hQ,hcl⟩;have q:=hat j hj;rw[D2i]at q;exact q
   obtain⟨L,hL,hat⟩:=D1q n _ key;refine⟨L,⟨hL,fun _=>⟨b,off,rfl,?_,fun i hi j hj=>(hat i hi).1 j hj⟩⟩,fun c hc=> ?_⟩
   ·have q:=(hat 0 (by omega)).1 0 hz;have h0:0<(cells (L[0]'(by omega))).length:=by rw[(hat 0 (by omega)).2.2];exact hz
    rw[List.getElem?_eq_getElem h0]at q;exact World.block_lt_of_cell? w _ q
   ·obtain⟨i,hi,rfl⟩:=List.getElem_of_mem hc;exact(hat i hi).2.1
  ·have h0:n=0:=by omega
   subst h0
   exact⟨[],Ss.nil _ _,fun c hc=>by cases hc⟩
theorem D1e:Tryz.prog.cellsOf 5=1:=by kernel_rfl
theorem D1g:Tryz.prog.bytesOf 5=1:=by kernel_rfl
theorem C3q{H:Type}{enc:TypeId×Value→H}{w:World}{fuel:Nat}{a:Option Addr}{n cap:Nat}{x:DataW H×List MemPlace}(hf:DataW.trod enc Tryz.prog w 0 (fun _=>true) true fuel 43 [.slice a n cap]=some x)(hw:∀m∈x.1.weights Tryz.prog 43,m≤reachBytes):
  n≤cap∧n≤140737488355328∧∃L:List UInt8,Sl A5f w a n L∧∀c∈L,True:=by
 obtain⟨h1,h2,h3,L,h4,h5⟩:=A6z (by omega) Tryz.underlying43 D1e (fun v:UInt8=>[A5f v]) (fun _=>True) (fun fuel cs x hl ht _=>by
  obtain⟨v,rfl⟩:=D9j hl;obtain⟨k,rfl,hk⟩:=A3n Tryz.underlying5 ht
  have hr:0≤k∧k≤255:=by
   unfold Lit.wf at hk;simp only[Bool.and_eq_true,decide_eq_true_eq]at hk;exact hk
  refine⟨UInt8.ofNat k.toNat,?_,trivial⟩;unfold A5f;simp only[List.cons.injEq,Value.int.injEq,true_and,and_true];rw[UInt8.toNat_ofNat'];omega) hf hw
 rw[D1g,A6s]at h3;exact⟨h1,by omega,L,E1a h4,h5⟩
theorem B8m:16≤Tryz.prog.bytesOf 61:=of_decide_eq_true (by kernel_rfl)
theorem B8w:Tryz.prog.cellsOf 61=5:=by kernel_rfl
theorem C2u{H:Type}{enc:TypeId×Value→H}{w:World}{fuel:Nat}{a:Option Addr}{n cap:Nat}{x:DataW H×List MemPlace}(hf:DataW.trod enc Tryz.prog w 0 (fun _=>true) true fuel 22 [.slice a n cap]=some x)(hw:∀m∈x.1.weights Tryz.prog 22,m≤reachBytes):
  n≤cap∧n≤140737488355328∧∃L:List KV,Ss 5 KV.cells w a n L∧∀c∈L,(-9223372036854775808≤c.n∧c.n≤9223372036854775807)∧c.s.length≤140737488355328:=by
 obtain⟨h1,h2,h3,L,h4,h5⟩:=A6z (by omega) Tryz.underlying22 B8w KV.cells (fun c:KV=>(-9223372036854775808≤c.n∧c.n≤9223372036854775807)∧c.s.length≤140737488355328) (fun fuel cs x hl ht hx=>by
  match cs,hl with
  |[c0,c1,c2,c3,c4],_=>
   obtain⟨xs,k,_,hxe,_,hlen,hg⟩:=DataW.trod_struct Tryz.underlying61 ht;subst hxe
   match xs,hlen with
   |[y0,y1,y2,y3,y4],_=>
    have g0:DataW.trod enc Tryz.prog w 0 (fun _=>true) true k 3 [c0]=some y0:=hg 0 _ rfl;have g1:DataW.trod enc Tryz.prog w 0 (fun _=>true) true k 3 [c1]=some y1:=hg 1 _ rfl
    have g2:DataW.trod enc Tryz.prog w 0 (fun _=>true) true k 3 [c2]=some y2:=hg 2 _ rfl;have g3:DataW.trod enc Tryz.prog w 0 (fun _=>true) true k 2 [c3]=some y3:=hg 3 _ rfl
    have g4:DataW.trod enc Tryz.prog w 0 (fun _=>true) true k 9 [c4]=some y4:=hg 4 _ rfl
    have hx':∀m∈DataW.weightsEach Tryz.prog [3,3,3,2,9] [y0.1,y1.1,y2.1,y3.1,y4.1],m≤reachBytes:=fun m hm=>hx m (by
     simp only[DataW.weights,Tryz.underlying61];exact hm)
    obtain⟨e0,rfl,w0⟩:=A3n Tryz.underlying3 g0;obtain⟨e1,rfl,w1⟩:=A3n Tryz.underlying3 g1;obtain⟨e2,rfl,w2⟩:=A3n Tryz.underlying3 g2
    obtain⟨e3,rfl,w3⟩:=A3n Tryz.underlying2 g3;obtain⟨e4,rfl,w4⟩:=D6c g4 fun m hm=>hx' m (DataW.weights_mem_each (j:=4) rfl rfl m hm)
    exact⟨⟨e0,e1,e2,e3,e4⟩,rfl,(by have h:=C1n w3;unfold A4x at h;exact h),(by show e4.length≤_;omega)⟩) hf hw
 have hb:=B8m;rw[A6s]at h3;exact⟨h1,by have:=Nat.mul_le_mul_left n hb;omega,L,h4,h5⟩
theorem C0z:16≤Tryz.prog.bytesOf 174:=of_decide_eq_true (by kernel_rfl)
theorem C2w:Tryz.prog.cellsOf 174=2:=by kernel_rfl
theorem B6s{H:Type}{enc:TypeId×Value→H}{w:World}{fuel:Nat}{a:Option Addr}{n cap:Nat}{x:DataW H×List MemPlace}(hf:DataW.trod enc Tryz.prog w 0 (fun _=>true) true fuel 66 [.slice a n cap]=some x)(hw:∀m∈x.1.weights Tryz.prog 66,m≤reachBytes):
  n≤cap∧n≤140737488355328∧∃L:List KS,Ss 2 KS.cells w a n L∧∀c∈L,True:=by
 obtain⟨h1,h2,h3,L,h4,h5⟩:=A6z (by omega) Tryz.underlying66 C2w KS.cells (fun c:KS=>True) (fun fuel cs x hl ht hx=>by
  match cs,hl with
  |[c0,c1],_=>
   obtain⟨xs,k,_,hxe,_,hlen,hg⟩:=DataW.trod_struct Tryz.underlying174 ht;subst hxe
   match xs,hlen with
   |[y0,y1],_=>
    have g0:DataW.trod enc Tryz.prog w 0 (fun _=>true) true k 3 [c0]=some y0:=hg 0 _ rfl;have g1:DataW.trod enc Tryz.prog w 0 (fun _=>true) true k 3 [c1]=some y1:=hg 1 _ rfl
    have hx':∀m∈DataW.weightsEach Tryz.prog [3,3] [y0.1,y1.1],m≤reachBytes:=fun m hm=>hx m (by
     simp only[DataW.weights,Tryz.underlying174];exact hm)
    obtain⟨e0,rfl,w0⟩:=A3n Tryz.underlying3 g0;obtain⟨e1,rfl,w1⟩:=A3n Tryz.underlying3 g1;exact⟨⟨e0,e1⟩,rfl,trivial⟩) hf hw
 have hb:=C0z;rw[A6s]at h3;exact⟨h1,by have:=Nat.mul_le_mul_left n hb;omega,L,h4,h5⟩
theorem C2t:16≤Tryz.prog.bytesOf 123:=of_decide_eq_true (by kernel_rfl)
theorem C3k:Tryz.prog.cellsOf 123=4:=by kernel_rfl
theorem C6m{H:Type}{enc:TypeId×Value→H}{w:World}{fuel:Nat}{a:Option Addr}{n cap:Nat}{x:DataW H×List MemPlace}(hf:DataW.trod enc Tryz.prog w 0 (fun _=>true) true fuel 62 [.slice a n cap]=some x)(hw:∀m∈x.1.weights Tryz.prog 62,m≤reachBytes):
  n≤cap∧n≤140737488355328∧∃L:List KT,Ss 4 KT.cells w a n L∧∀c∈L,True:=by
 obtain⟨h1,h2,h3,L,h4,h5⟩:=A6z (by omega) Tryz.underlying62 C3k KT.cells (fun c:KT=>True) (fun fuel cs x hl ht hx=>by
  match cs,hl with
  |[c0,c1,c2,c3],_=>
   obtain⟨xs,k,_,hxe,_,hlen,hg⟩:=DataW.trod_struct Tryz.underlying123 ht;subst hxe
   match xs,hlen with
   |[y0,y1,y2,y3],_=>
    have g0:DataW.trod enc Tryz.prog w 0 (fun _=>true) true k 3 [c0]=some y0:=hg 0 _ rfl;have g1:DataW.trod enc Tryz.prog w 0 (fun _=>true) true k 3 [c1]=some y1:=hg 1 _ rfl
    have g2:DataW.trod enc Tryz.prog w 0 (fun _=>true) true k 3 [c2]=some y2:=hg 2 _ rfl;have g3:DataW.trod enc Tryz.prog w 0 (fun _=>true) true k 3 [c3]=some y3:=hg 3 _ rfl
    have hx':∀m∈DataW.weightsEach Tryz.prog [3,3,3,3] [y0.1,y1.1,y2.1,y3.1],m≤reachBytes:=fun m hm=>hx m (by
     simp only[DataW.weights,Tryz.underlying123];exact hm)
    obtain⟨e0,rfl,w0⟩:=A3n Tryz.underlying3 g0;obtain⟨e1,rfl,w1⟩:=A3n Tryz.underlying3 g1;obtain⟨e2,rfl,w2⟩:=A3n Tryz.underlying3 g2
    obtain⟨e3,rfl,w3⟩:=A3n Tryz.underlying3 g3;exact⟨⟨e0,e1,e2,e3⟩,rfl,trivial⟩) hf hw
 have hb:=C2t;rw[A6s]at h3;exact⟨h1,by have:=Nat.mul_le_mul_left n hb;omega,L,h4,h5⟩
theorem C0g:16≤Tryz.prog.bytesOf 75:=of_decide_eq_true (by kernel_rfl)
theorem B9n:Tryz.prog.cellsOf 75=3:=by kernel_rfl
theorem C2i{H:Type}{enc:TypeId×Value→H}{w:World}{fuel:Nat}{a:Option Addr}{n cap:Nat}{x:DataW H×List MemPlace}(hf:DataW.trod enc Tryz.prog w 0 (fun _=>true) true fuel 23 [.slice a n cap]=some x)(hw:∀m∈x.1.weights Tryz.prog 23,m≤reachBytes):
  n≤cap∧n≤140737488355328∧∃L:List KD,Ss 3 KD.cells w a n L∧∀c∈L,A4x c.fl:=by
 obtain⟨h1,h2,h3,L,h4,h5⟩:=A6z (by omega) Tryz.underlying23 B9n KD.cells (fun c:KD=>A4x c.fl) (fun fuel cs x hl ht hx=>by
  match cs,hl with
  |[c0,c1,c2],_=>
   obtain⟨xs,k,_,hxe,_,hlen,hg⟩:=DataW.trod_struct Tryz.underlying75 ht;subst hxe
   match xs,hlen with
   |[y0,y1,y2],_=>
    have g0:DataW.trod enc Tryz.prog w 0 (fun _=>true) true k 3 [c0]=some y0:=hg 0 _ rfl;have g1:DataW.trod enc Tryz.prog w 0 (fun _=>true) true k 3 [c1]=some y1:=hg 1 _ rfl
    have g2:DataW.trod enc Tryz.prog w 0 (fun _=>true) true k 3 [c2]=some y2:=hg 2 _ rfl
    have hx':∀m∈DataW.weightsEach Tryz.prog [3,3,3] [y0.1,y1.1,y2.1],m≤reachBytes:=fun m hm=>hx m (by
     simp only[DataW.weights,Tryz.underlying75];exact hm)
    obtain⟨e0,rfl,w0⟩:=A3n Tryz.underlying3 g0;obtain⟨e1,rfl,w1⟩:=A3n Tryz.underlying3 g1;obtain⟨e2,rfl,w2⟩:=A3n Tryz.underlying3 g2;exact⟨⟨e0,e1,e2⟩,rfl,C1n w0⟩) hf hw
 have hb:=C0g;rw[A6s]at h3;exact⟨h1,by have:=Nat.mul_le_mul_left n hb;omega,L,h4,h5⟩
theorem C7b:16≤Tryz.prog.bytesOf 68:=of_decide_eq_true (by kernel_rfl)
theorem C6t:Tryz.prog.cellsOf 68=3:=by kernel_rfl
theorem C9j{H:Type}{enc:TypeId×Value→H}{w:World}{fuel:Nat}{a:Option Addr}{n cap:Nat}{x:DataW H×List MemPlace}(hf:DataW.trod enc Tryz.prog w 0 (fun _=>true) true fuel 63 [.slice a n cap]=some x)(hw:∀m∈x.1.weights Tryz.prog 63,m≤reachBytes):
  n≤cap∧n≤140737488355328∧∃L:List KP,Ss 3 KP.cells w a n L∧∀c∈L,(c.Rd w∧c.ln≤140737488355328∧c.sn≤140737488355328):=by
 obtain⟨h1,h2,h3,L,h4,h5⟩:=A6z (by omega) Tryz.underlying63 C6t KP.cells (fun c:KP=>(c.Rd w∧c.ln≤140737488355328∧c.sn≤140737488355328)) (fun fuel cs x hl ht hx=>by
  match cs,hl with
  |[c0,c1,c2],_=>
   obtain⟨xs,k,_,hxe,_,hlen,hg⟩:=DataW.trod_struct Tryz.underlying68 ht;subst hxe
   match xs,hlen with
   |[y0,y1,y2],_=>
    have g0:DataW.trod enc Tryz.prog w 0 (fun _=>true) true k 3 [c0]=some y0:=hg 0 _ rfl;have g1:DataW.trod enc Tryz.prog w 0 (fun _=>true) true k 66 [c1]=some y1:=hg 1 _ rfl
    have g2:DataW.trod enc Tryz.prog w 0 (fun _=>true) true k 66 [c2]=some y2:=hg 2 _ rfl
    have hx':∀m∈DataW.weightsEach Tryz.prog [3,66,66] [y0.1,y1.1,y2.1],m≤reachBytes:=fun m hm=>hx m (by
     simp only[DataW.weights,Tryz.underlying68];exact hm)
    obtain⟨e0,rfl,w0⟩:=A3n Tryz.underlying3 g0;obtain⟨a1,n1,k1,rfl⟩:=B3g Tryz.underlying66 g1
    obtain⟨h1a,h1b,L1,h1c,h1d⟩:=B6s g1 fun m hm=>hx' m (DataW.weights_mem_each (j:=1) rfl rfl m hm)
    obtain⟨a2,n2,k2,rfl⟩:=B3g Tryz.underlying66 g2;obtain⟨h2a,h2b,L2,h2c,h2d⟩:=B6s g2 fun m hm=>hx' m (DataW.weights_mem_each (j:=2) rfl rfl m hm)
    exact⟨⟨e0,a1,n1,k1,L1,a2,n2,k2,L2⟩,rfl,⟨⟨h1c,h2c⟩,h1b,h2b⟩⟩) hf hw
 have hb:=C7b;rw[A6s]at h3;exact⟨h1,by have:=Nat.mul_le_mul_left n hb;omega,L,h4,h5⟩
theorem C1t:16≤Tryz.prog.bytesOf 65:=of_decide_eq_true (by kernel_rfl)
theorem C3c:Tryz.prog.cellsOf 65=8:=by kernel_rfl
theorem C5x{H:Type}{enc:TypeId×Value→H}{w:World}{fuel:Nat}{a:Option Addr}{n cap:Nat}{x:DataW H×List MemPlace}(hf:DataW.trod enc Tryz.prog w 0 (fun _=>true) true fuel 24 [.slice a n cap]=some x)(hw:∀m∈x.1.weights Tryz.prog 24,m≤reachBytes):
  n≤cap∧n≤140737488355328∧∃L:List KM,Ss 8 KM.cells w a n L∧∀c∈L,(c.Rd w∧A4x c.fl∧c.cn≤140737488355328∧c.tn≤140737488355328∧c.mn≤140737488355328∧∀p∈c.maps,p.ln≤140737488355328∧p.sn≤140737488355328):=by
 obtain⟨h1,h2,h3,L,h4,h5⟩:=A6z (by omega) Tryz.underlying24 C3c KM.cells (fun c:KM=>(c.Rd w∧A4x c.fl∧c.cn≤140737488355328∧c.tn≤140737488355328∧c.mn≤140737488355328∧∀p∈c.maps,p.ln≤140737488355328∧p.sn≤140737488355328)) (fun fuel cs x hl ht hx=>by
  match cs,hl with
  |[c0,c1,c2,c3,c4,c5,c6,c7],_=>
   obtain⟨xs,k,_,hxe,_,hlen,hg⟩:=DataW.trod_struct Tryz.underlying65 ht;subst hxe
   match xs,hlen with
   |[y0,y1,y2,y3,y4,y5,y6,y7],_=>
    have g0:DataW.trod enc Tryz.prog w 0 (fun _=>true) true k 3 [c0]=some y0:=hg 0 _ rfl;have g1:DataW.trod enc Tryz.prog w 0 (fun _=>true) true k 3 [c1]=some y1:=hg 1 _ rfl
    have g2:DataW.trod enc Tryz.prog w 0 (fun _=>true) true k 3 [c2]=some y2:=hg 2 _ rfl;have g3:DataW.trod enc Tryz.prog w 0 (fun _=>true) true k 3 [c3]=some y3:=hg 3 _ rfl
    have g4:DataW.trod enc Tryz.prog w 0 (fun _=>true) true k 3 [c4]=some y4:=hg 4 _ rfl;have g5:DataW.trod enc Tryz.prog w 0 (fun _=>true) true k 43 [c5]=some y5:=hg 5 _ rfl
    have g6:DataW.trod enc Tryz.prog w 0 (fun _=>true) true k 62 [c6]=some y6:=hg 6 _ rfl;have g7:DataW.trod enc Tryz.prog w 0 (fun _=>true) true k 63 [c7]=some y7:=hg 7 _ rfl
    have hx':∀m∈DataW.weightsEach Tryz.prog [3,3,3,3,3,43,62,63] [y0.1,y1.1,y2.1,y3.1,y4.1,y5.1,y6.1,y7.1],m≤reachBytes:=fun m hm=>hx m (by
     simp only[DataW.weights,Tryz.underlying65];exact hm)
    obtain⟨e0,rfl,w0⟩:=A3n Tryz.underlying3 g0;obtain⟨e1,rfl,w1⟩:=A3n Tryz.underlying3 g1;obtain⟨e2,rfl,w2⟩:=A3n Tryz.underlying3 g2
    obtain⟨e3,rfl,w3⟩:=A3n Tryz.underlying3 g3;obtain⟨e4,rfl,w4⟩:=A3n Tryz.underlying3 g4;obtain⟨a5,n5,k5,rfl⟩:=B3g Tryz.underlying43 g5
    obtain⟨h5a,h5b,L5,h5c,h5d⟩:=C3q g5 fun m hm=>hx' m (DataW.weights_mem_each (j:=5) rfl rfl m hm)
    obtain⟨a6,n6,k6,rfl⟩:=B3g Tryz.underlying62 g6;obtain⟨h6a,h6b,L6,h6c,h6d⟩:=C6m g6 fun m hm=>hx' m (DataW.weights_mem_each (j:=6) rfl rfl m hm)
    obtain⟨a7,n7,k7,rfl⟩:=B3g Tryz.underlying63 g7;obtain⟨h7a,h7b,L7,h7c,h7d⟩:=C9j g7 fun m hm=>hx' m (DataW.weights_mem_each (j:=7) rfl rfl m hm)
    exact⟨⟨e0,e1,e2,e3,e4,a5,n5,k5,L5,a6,n6,k6,L6,a7,n7,k7,L7⟩,rfl,⟨⟨h5c,h5a,h6c,h7c,fun p hp=>(h7d p hp).1⟩,C1n w0,h5b,h6b,h7b,fun p hp=>(h7d p hp).2⟩⟩) hf hw
 have hb:=C1t;rw[A6s]at h3;exact⟨h1,by have:=Nat.mul_le_mul_left n hb;omega,L,h4,h5⟩
theorem C3f:Tryz.prog.cellsOf 26=5:=by kernel_rfl
structure D5e(w:World)(f:KF):Prop where
 rd:f.Rd w
 big:f.Big
 num:∀c∈f.pool,-9223372036854775808≤c.n∧c.n≤9223372036854775807
 fl:∀d∈f.fields,A4x d.fl
 mfl:∀m∈f.methods,A4x m.fl
theorem open_file{H:Type}{enc:TypeId×Value→H}{w:World}{r:Reach}{b0:Nat}{v:Value}{d:DataW H}{p:List MemPlace}(hv:Value.okWide Tryz.prog w r b0 26 v)(h:DataW.Trod enc Tryz.prog w 0 (fun _=>true) true 26 v d p)(hw:∀m∈d.weights Tryz.prog 26,m≤reachBytes):
  ∃x:KF,v= .agg x.vals∧D5e w x:=by
 obtain⟨cs,rfl,hsz⟩:=okWide_struct Tryz.underlying26 hv;obtain⟨fuel,hf⟩:=h;obtain⟨cl⟩:=cs;have hl:cl.length=5:=hsz.trans C3f
 match cl,hl with
 |[c0,c1,c2,c3,c4],_=>
  have hf:DataW.trod enc Tryz.prog w 0 (fun _=>true) true fuel 26 [c0,c1,c2,c3,c4]=some (d,p):=hf;obtain⟨xs,k,_,hxe,_,hlen,hg⟩:=DataW.trod_struct Tryz.underlying26 hf
  match xs,hlen with
  |[y0,y1,y2,y3,y4],_=>
   have g0:DataW.trod enc Tryz.prog w 0 (fun _=>true) true k 22 [c0]=some y0:=hg 0 _ rfl;have g1:DataW.trod enc Tryz.prog w 0 (fun _=>true) true k 3 [c1]=some y1:=hg 1 _ rfl
   have g2:DataW.trod enc Tryz.prog w 0 (fun _=>true) true k 3 [c2]=some y2:=hg 2 _ rfl;have g3:DataW.trod enc Tryz.prog w 0 (fun _=>true) true k 23 [c3]=some y3:=hg 3 _ rfl
   have g4:DataW.trod enc Tryz.prog w 0 (fun _=>true) true k 24 [c4]=some y4:=hg 4 _ rfl;have hd:d= .agg [y0.1,y1.1,y2.1,y3.1,y4.1]:=congrArg Prod.fst hxe;subst hd
   have hx':∀m∈DataW.weightsEach Tryz.prog [22,3,3,23,24] [y0.1,y1.1,y2.1,y3.1,y4.1],m≤reachBytes:=fun m hm=>hw m (by
    simp only[DataW.weights,Tryz.underlying26];exact hm)
   obtain⟨a0,n0,k0,rfl⟩:=B3g Tryz.underlying22 g0;obtain⟨e1,rfl,w1⟩:=A3n Tryz.underlying3 g1;obtain⟨e2,rfl,w2⟩:=A3n Tryz.underlying3 g2
   obtain⟨a3,n3,k3,rfl⟩:=B3g Tryz.underlying23 g3;obtain⟨a4,n4,k4,rfl⟩:=B3g Tryz.underlying24 g4
   obtain⟨_,i0,L0,s0,q0⟩:=C2u g0 fun m hm=>hx' m (DataW.weights_mem_each (j:=0) rfl rfl m hm)
   obtain⟨_,i3,L3,s3,q3⟩:=C2i g3 fun m hm=>hx' m (DataW.weights_mem_each (j:=3) rfl rfl m hm)
   obtain⟨_,i4,L4,s4,q4⟩:=C5x g4 fun m hm=>hx' m (DataW.weights_mem_each (j:=4) rfl rfl m hm)
   exact⟨⟨a0,n0,k0,L0,e1,e2,a3,n3,k3,L3,a4,n4,k4,L4⟩,rfl,⟨s0,s3,s4,fun m hm=>(q4 m hm).1⟩,⟨i0,i3,i4,fun c hc=>(q0 c hc).2,fun m hm=>(q4 m hm).2.2⟩,fun c hc=>(q0 c hc).1,q3,fun m hm=>(q4 m hm).2.1⟩
end
end Go.Proofs.YtclpkipaehpkdaaGreatDoor
